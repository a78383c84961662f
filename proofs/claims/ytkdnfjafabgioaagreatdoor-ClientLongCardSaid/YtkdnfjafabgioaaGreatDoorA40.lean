import Derived.Test.YtkdnfjafabgioaaGreatDoorA39
import Derived.Deep.DeepCutAuto
import Derived.Laws.EntriesVeiled
set_option linter.unusedVariables false
set_option linter.unusedSimpArgs false
namespace Go.Proofs.YtkdnfjafabgioaaGreatDoor.Own
open Go.RowKit Go.Shelf

/-- A world behind a boxed command. -/
structure PSt (w : World) (o : Obj) (W : World) : Prop where
  bel : Below w.heap.size w W
  box : W.heap[w.heap.size]? = some o
  size : w.heap.size + 1 ≤ W.heap.size
theorem PSt.below {w W W' : World} {o : Obj} (h : PSt w o W) (hb : Below W.heap.size W W') : PSt w o W' :=
  ⟨h.bel.trans (hb.mono (by have := h.size; omega)), (hb.block _ (Array.getElem?_eq_some_iff.1 h.box).1).trans h.box, Nat.le_trans h.size hb.size⟩
theorem PSt.alloc {w W : World} {o : Obj} (h : PSt w o W) (x : Obj) : PSt w o (W.alloc x) := h.below ((Below.refl _ _).alloc (Nat.le_refl _) x)
theorem PSt.drew {w W : World} {o : Obj} (h : PSt w o W) : PSt w o W.drew := h.below (Below.refl _ _).drew
theorem PSt.past {w W W' : World} {o : Obj} {B : Nat} (h : PSt w o W) (hB : w.heap.size + 1 ≤ B) (hb : Below B W W') (hz : W.heap.size ≤ W'.heap.size) : PSt w o W' :=
  ⟨h.bel.trans (hb.mono (by omega)), (hb.block _ (by omega)).trans h.box, Nat.le_trans h.size hz⟩
theorem PSt.setCell {w W : World} {o : Obj} (h : PSt w o W) {a : Addr} (ha : w.heap.size + 1 ≤ a.block) (v : Value) : PSt w o (W.setCell a v) :=
  h.past ha ((Below.refl _ _).setCell (Nat.le_refl _) v) (by simp)

/-- The line's variable, as Print begins it. -/
def LineAt (w : World) (o : Obj) (ss : List (List UInt8)) (v : Value) (W : World) : Prop := ∃ L, v = .pointer (some ⟨L, 0, none⟩) ∧ LineIn W (w.heap.size + 1) L ss ∧ w.heap.size + 1 ≤ L ∧ PSt w o W
theorem row2 {W : World} {B G : Nat} {a b : List UInt8} (h : W.heap[G]? = some (.cells #[.string ⟨a.toArray⟩, .string ⟨b.toArray⟩] 9 (0, 0))) (hB : B ≤ G) : W.ownsRow B 9 1 (.slice (some ⟨G, 0, none⟩) 2 2) [a, b].length (strCells [a, b]) :=
  ⟨rfl, .inr ⟨G, 2, _, rfl, hB, h, Nat.le_refl _, by simp [maxLen], rfl, rfl⟩⟩
theorem lineA {w W : World} {o : Obj} {a b : List UInt8} (h : PSt w o W) : LineAt w o [a, b] (.pointer (some ⟨W.heap.size + 1, 0, none⟩)) ((W.alloc (.cells #[.string ⟨a.toArray⟩, .string ⟨b.toArray⟩] 9)).alloc (.cells #[.slice (some ⟨W.heap.size, 0, none⟩) 2 2] 50)) :=
  ⟨_, rfl, ⟨_, heap_second _ _ _, row2 ((Below.heap_alloc _ _ _ (by simp)).trans (World.alloc_heap_new W _)) h.size⟩, by have := h.size; omega, (h.alloc _).alloc _⟩
theorem lineB {w W : World} {o : Obj} {a b : List UInt8} (h : PSt w o W) : LineAt w o [a, b] (.pointer (some ⟨W.heap.size, 0, none⟩)) ((W.alloc (.cells #[.slice (some ⟨W.heap.size + 1, 0, none⟩) 2 2] 50)).alloc (.cells #[.string ⟨a.toArray⟩, .string ⟨b.toArray⟩] 9)) :=
  ⟨_, rfl, ⟨_, (Below.heap_alloc _ _ _ (by simp)).trans (World.alloc_heap_new W _), row2 (heap_second _ _ _) (by have := h.size; omega)⟩, h.size, (h.alloc _).alloc _⟩
theorem lineC {w W : World} {o : Obj} {a b : List UInt8} {L : Nat} {x : Value} (h : PSt w o W) (hL : W.heap[L]? = some (.cells #[x] 50 (0, 0))) (hw : w.heap.size + 1 ≤ L) : LineAt w o [a, b] (.pointer (some ⟨L, 0, none⟩)) ((W.setCell ⟨L, 0, none⟩ (.slice (some ⟨W.heap.size, 0, none⟩) 2 2)).alloc (.cells #[.string ⟨a.toArray⟩, .string ⟨b.toArray⟩] 9)) := by
  have hlt := (Array.getElem?_eq_some_iff.1 hL).1
  have hz : (W.setCell ⟨L, 0, none⟩ (.slice (some ⟨W.heap.size, 0, none⟩) 2 2)).heap.size = W.heap.size := by simp
  refine ⟨L, rfl, ⟨_, (Below.heap_alloc _ _ _ (by rw [hz]; exact hlt)).trans (heap_setCell_one hL _), row2 ?_ h.size⟩, hw, (h.setCell hw _).alloc _⟩
  have := World.alloc_heap_new (W.setCell ⟨L, 0, none⟩ (.slice (some ⟨W.heap.size, 0, none⟩) 2 2)) (.cells #[.string ⟨a.toArray⟩, .string ⟨b.toArray⟩] 9)
  rwa [hz] at this
theorem LineAt.drew {w W : World} {o : Obj} {ss : List (List UInt8)} {v : Value} (h : LineAt w o ss v W) : LineAt w o ss v W.drew := by
  obtain ⟨L, h1, h2, h3, h4⟩ := h
  exact ⟨L, h1, h2.below (Below.refl _ _).drew, h3, h4.drew⟩

theorem cellX1 (W : World) (M : Obj) (v : Value) : ((W.alloc M).alloc (.cells #[v] 53)).drew.cell? ⟨W.heap.size + 1, 0, none⟩ = some v := by
  show ((W.alloc M).alloc (.cells #[v] 53)).cell? _ = _
  exact (cell_of_row _ _ 0 _ _ (0, 0) (heap_second W M (.cells #[v] 53))).trans rfl
theorem cellX2 (W : World) (M : Obj) (v : Value) : ((W.alloc (.cells #[v] 53)).alloc M).drew.cell? ⟨W.heap.size, 0, none⟩ = some v := by
  show ((W.alloc (.cells #[v] 53)).alloc M).cell? _ = _
  have h : ((W.alloc (.cells #[v] 53)).alloc M).heap[W.heap.size]? = some (.cells #[v] 53) := (Below.heap_alloc _ _ _ (by simp)).trans (World.alloc_heap_new W _)
  exact (cell_of_row _ _ 0 _ _ (0, 0) h).trans rfl
theorem below2 (W : World) (a b : Obj) : Below W.heap.size W ((W.alloc a).alloc b).drew := (((Below.refl _ _).alloc (Nat.le_refl _) _).alloc (by simp) _).drew
theorem valid_bounds {c : Cmd} (h : validOf c = true) : 1 ≤ c.kind ∧ c.kind ≤ 8 ∧ c.flags ≤ 31 ∧ c.box.length ≤ 65536 ∧ c.data.length ≤ 65536 ∧ (c.kind = 7 → c.set ≠ [] ∧ 1 ≤ c.items ∧ c.items ≤ 31) ∧ (c.kind = 8 → c.set ≠ [] ∧ 0 ≤ c.mode ∧ c.mode ≤ 2) := by
  unfold validOf okHead at h
  simp only [Bool.and_eq_true, decide_eq_true_eq] at h
  obtain ⟨⟨_, ⟨h1, h2⟩, h3, h4, h5⟩, h6, _⟩ := h
  refine ⟨h1, h2, h3, h4, h5, fun e => ?_, fun e => ?_⟩
  · unfold okKind at h6
    rw [if_pos e] at h6
    simpa using h6
  · unfold okKind at h6
    rw [if_neg (by omega), if_pos e] at h6
    simpa using h6

theorem join_le (M : Nat) : ∀ ws : List (List UInt8), (∀ x ∈ ws, x.length ≤ M) → (Lib.join ws [32]).length ≤ ws.length * (M + 1)
  | [], _ => by simp [Lib.join_nil]
  | [x], h => by
    have := h x (by simp)
    simp [Lib.join_one]
    omega
  | x :: y :: l, h => by
    have h1 := h x (by simp)
    have h2 := join_le M (y :: l) (fun z hz => h z (by simp at hz ⊢; exact .inr hz))
    have e : (Lib.join (x :: y :: l) [32]).length = x.length + 1 + (Lib.join (y :: l) [32]).length := by
      simp only [Lib.join, List.intercalate, List.intersperse_cons_cons, List.flatten_cons, List.length_append, List.length_cons, List.length_nil]
      omega
    rw [e, List.length_cons (a := x), Nat.succ_mul]
    omega
theorem verb_len (k : Int) : (verbOf k).length ≤ 20 := by
  unfold verbOf
  split
  · rename_i h
    have h8 : k = 1 ∨ k = 2 ∨ k = 3 ∨ k = 4 ∨ k = 5 ∨ k = 6 ∨ k = 7 ∨ k = 8 := by omega
    rcases h8 with rfl | rfl | rfl | rfl | rfl | rfl | rfl | rfl <;> decide
  · simp
theorem flagList_len (f : Nat) (hf : f ≤ 31) : (flagList f).length ≤ 110 := by
  have := flagJoin_len ⟨f, by omega⟩
  unfold flagList
  simp at this ⊢
  omega
theorem itemsOf_len (n : Nat) (hn : n ≤ 31) : (itemsOf n).length ≤ 110 := by
  have := itemJoin_len ⟨n, by omega⟩
  unfold itemsOf
  simp at this ⊢
  omega
theorem modeOf_len (m : Nat) (hm : m ≤ 2) (s : Bool) : (modeOf m s).length ≤ 20 := by
  have h3 : m = 0 ∨ m = 1 ∨ m = 2 := by omega
  rcases h3 with rfl | rfl | rfl <;> cases s <;> decide
theorem sqPrint_len (l : List (Nat × Nat)) (hr : ∀ r ∈ l, r.1 < 4294967296 ∧ r.2 < 4294967296) : (sqPrint l).length ≤ 42 * l.length := join_len l hr
theorem words_bound (c : Cmd) (hv : validOf c = true) (ht : c.tag.length ≤ 1000000) (hs : c.set.length ≤ 1000000) (hr : ∀ r ∈ c.set, r.1 < 4294967296 ∧ r.2 < 4294967296) : (wordsOf c).length ≤ 5 ∧ (textOf c).length ≤ 300000000 := by
  obtain ⟨h1, h2, h3, h4, h5, h7, h8⟩ := valid_bounds hv
  have hb := boxOf_len c.box (by omega)
  have hd := litOf_len c.data (by omega)
  have hf := flagList_len c.flags h3
  have hq := sqPrint_len c.set hr
  have key : (partsOf2 c).length ≤ 3 ∧ ∀ x ∈ partsOf2 c, x.length ≤ 42000000 := by
    unfold partsOf2
    split
    · refine ⟨by simp, fun x hx => ?_⟩
      simp at hx; subst hx; omega
    · split
      · unfold parts6
        split
        · refine ⟨by simp, fun x hx => ?_⟩
          simp at hx; rcases hx with rfl | rfl <;> omega
        · refine ⟨by simp, fun x hx => ?_⟩
          simp at hx; rcases hx with rfl | rfl | rfl <;> omega
      · split
        · rename_i e7
          obtain ⟨_, a, b⟩ := h7 e7
          have := itemsOf_len c.items.toNat (by omega)
          refine ⟨by simp, fun x hx => ?_⟩
          simp at hx; rcases hx with rfl | rfl <;> omega
        · split
          · rename_i e8
            obtain ⟨_, a, b⟩ := h8 e8
            have := modeOf_len c.mode.toNat (by omega) c.silent
            refine ⟨by simp, fun x hx => ?_⟩
            simp at hx; rcases hx with rfl | rfl | rfl <;> omega
          · exact ⟨by simp, fun x hx => by simp at hx⟩
  have hvl := verb_len c.kind
  have hw : (wordsOf c).length ≤ 5 := by unfold wordsOf; simp; omega
  refine ⟨hw, ?_⟩
  have := join_le 42000000 (wordsOf c) (fun x hx => by
    unfold wordsOf at hx
    rcases List.mem_append.1 hx with hx | hx
    · simp at hx; rcases hx with rfl | rfl <;> omega
    · exact key.2 x hx)
  unfold textOf
  have : (wordsOf c).length * (42000000 + 1) ≤ 5 * (42000000 + 1) := Nat.mul_le_mul_right _ hw
  omega

theorem FrRow.last {w : World} {B : Nat} {k : Nat} {d : List UInt8} : ∀ {fs : List (Nat × List UInt8)} {xs : List Value}, FrRow w B (fs ++ [(k, d)]) xs → ∃ xs' v, xs = xs' ++ [.int .i64 (k : Int), v] ∧ xs'.length = fs.length * 2 ∧ w.ownsRow B 5 1 v d.length (Lib.byteCells d)
  | [], xs, ⟨v, r, e, h1, h2⟩ => by
    obtain rfl : r = [] := h2
    exact ⟨[], v, e, rfl, h1⟩
  | (k', d') :: fs, xs, ⟨v', r, e, h1, h2⟩ => by
    obtain ⟨xs', v, e2, hl, h3⟩ := FrRow.last (fs := fs) h2
    exact ⟨.int .i64 (k' : Int) :: v' :: xs', v, by rw [e, e2]; rfl, by simp [hl]; omega, h3⟩

/-- What Print leaves. -/
def PrintP (c : Cmd) (w : World) (e : Ending) (w' : World) : Prop := Below w.heap.size w w' ∧ (match printOf c with
  | some b => ∃ v, e = .returned (.tuple #[v, .bool true]) ∧ BytRes w b v w'
  | none => e = .returned (.tuple #[.slice none 0 0, .bool false]))
theorem PrintP.no {c : Cmd} {w w' : World} (h : printOf c = none) (hb : Below w.heap.size w w') : PrintP c w (.returned (.tuple #[.slice none 0 0, .bool false])) w' := by
  unfold PrintP
  rw [h]
  exact ⟨hb, rfl⟩
theorem PrintP.yes {c : Cmd} {w w' : World} {b : List UInt8} (h : printOf c = some b) (hb : Below w.heap.size w w') {N cp : Nat} (h1 : b.length ≤ cp) (h2 : w.heap.size ≤ N) (h3 : N < w'.heap.size) (h4 : BytN w' N b) : PrintP c w (.returned (.tuple #[.slice (some ⟨N, 0, none⟩) b.length cp, .bool true])) w' := by
  unfold PrintP
  rw [h]
  exact ⟨hb, _, rfl, N, cp, rfl, h1, h2, h3, h4, hb⟩
theorem print_none {c : Cmd} (hv : validOf c = true) (h : sendB (textOf c) = false) : printOf c = none := by
  unfold printOf
  rw [if_pos hv, h]
  rfl
theorem print_some {c : Cmd} (hv : validOf c = true) (h : sendB (textOf c) = true) : printOf c = some (textOf c ++ [13, 10]) := by
  unfold printOf
  rw [if_pos hv, h]
  rfl

set_option maxRecDepth 100000 in
set_option maxHeartbeats 3200000 in
theorem print_any (c : Cmd) (SA DA : Option Addr) (sc dc : Nat) (w : World) (h : CmdIn w c (.slice SA c.set.length sc) (.slice DA c.data.length dc)) (hE : Env w) (ht : c.tag.length ≤ 1000000) (hs : c.set.length ≤ 1000000) (hr : ∀ r ∈ c.set, r.1 < 4294967296 ∧ r.2 < 4294967296) :
    Calls Tryz.prog 11 #[cmdV c (.slice SA c.set.length sc) (.slice DA c.data.length dc)] w (PrintP c w) := by
  obtain ⟨tag, kind, box, set, items, mode, silent, flags, data⟩ := c
  simp only at *
  obtain ⟨o, ho⟩ : ∃ o, o = Obj.cells #[.string ⟨tag.toArray⟩, .int .i64 kind, .string ⟨box.toArray⟩, .slice SA set.length sc, .int .i64 items, .int .i64 mode, .bool silent, .int .u8 (flags : Int), .slice DA data.length dc] 26 (0, 0) := ⟨_, rfl⟩
  have hst : PSt w o (w.alloc o) := ⟨(Below.refl _ _).alloc (Nat.le_refl _) _, World.alloc_heap_new w o, by simp⟩
  have hv : ∀ W, Below w.heap.size w W → Calls Tryz.prog 27 #[cmdV ⟨tag, kind, box, set, items, mode, silent, flags, data⟩ (.slice SA set.length sc) (.slice DA data.length dc)] W fun e w' => e = .returned (.bool (validOf ⟨tag, kind, box, set, items, mode, silent, flags, data⟩)) ∧ Below W.heap.size W w' := fun W hW => valid_any _ _ _ W (h.below hW) (hE.below hW) (by simp only; omega) (by simp only; omega)
  have hvb : ∀ W, Below w.heap.size w W → Calls Tryz.prog 28 #[.int .i64 kind] W fun e w' => e = .returned (.string ⟨(verbOf kind).toArray⟩) ∧ Below W.heap.size W w' := fun W hW => verb_any kind W (hE.below hW)
  have hc3 : ∀ W, PSt w o W → W.cell? ⟨w.heap.size, 0, none⟩ = some (.string ⟨tag.toArray⟩) ∧ W.cell? ⟨w.heap.size, 1, none⟩ = some (.int .i64 kind) := by
    intro W hW
    have := hW.box
    rw [ho] at this
    constructor <;> simp [World.cell?, this]
  obtain ⟨vb, hvb'⟩ : ∃ v, v = verbOf kind := ⟨_, rfl⟩
  rw [← hvb'] at hvb
  cases hval : validOf ⟨tag, kind, box, set, items, mode, silent, flags, data⟩ with
  | false =>
    rw [hval] at hv
    have hpn : printOf ⟨tag, kind, box, set, items, mode, silent, flags, data⟩ = none := by unfold printOf; rw [hval]; rfl
    unfold cmdV at *
    simp only at *
    have HV := Lib.hid (And.intro hv hvb)
    have HST := Lib.hid hst
    have HO := Lib.hid ho
    have HPN := Lib.hid hpn
    clear hv hvb hst hc3 hvb' hval h hE hpn
    go_enter Tryz.func11, Tryz.ntmps11
    go_wp2_with fail
    rw [← HO.out]
    refine (HV.out.1 _ HST.out.bel).mono ?_
    rintro e w1 ⟨rfl, hb1⟩
    have hst1 := HST.out.below hb1
    clear hb1 ho
    go_wp2_with fail
    go_ret2
    exact PrintP.no HPN.out hst1.bel
  | true =>
  rw [hval] at hv
  unfold cmdV at *
  simp only at *
  have HV := Lib.hid (And.intro hv hvb)
  have HST := Lib.hid hst
  have HC := Lib.hid hc3
  have HO := Lib.hid ho
  have HVB := Lib.hid hvb'
  have HVAL := Lib.hid (valid_bounds hval)
  have HVT := Lib.hid hval
  have HE := Lib.hid hE
  have HCI := Lib.hid h
  have HR := Lib.hid hr
  obtain ⟨ws, hws⟩ : ∃ ws, ws = wordsOf ⟨tag, kind, box, set, items, mode, silent, flags, data⟩ := ⟨_, rfl⟩
  have HWS := Lib.hid hws
  have hmf : ∀ (fn : Fn) (first cap : Array Value) (w : World), (Instr.makeFunc fn first cap).run Tryz.prog w = .ok (.func fn first cap) w := fun _ _ _ _ => rfl
  have hDS : Byt w DA data ∧ set.length ≤ sc ∧ CellsIn w 0 SA (rngCells set) := by
    obtain ⟨A1, p1, e1, h1, h2⟩ := h.set
    obtain ⟨A2, p2, e2, h3, h4⟩ := h.data
    simp only [Value.slice.injEq] at e1 e2
    obtain ⟨rfl, -, rfl⟩ := e1
    obtain ⟨rfl, -, rfl⟩ := e2
    exact ⟨h4, h1, h2⟩
  have HDS := Lib.hid hDS
  have hwb := words_bound _ hval ht hs hr
  rw [← hws] at hwb
  obtain ⟨t, htx⟩ : ∃ t, t = textOf ⟨tag, kind, box, set, items, mode, silent, flags, data⟩ := ⟨_, rfl⟩
  rw [← htx] at hwb
  obtain ⟨hwl, htl⟩ := hwb
  have hjt : t = Lib.join ws [32] := by rw [htx, hws]; rfl
  have HT := Lib.hid (And.intro htx hjt)
  clear hv hvb hst hc3 hvb' hval h hE hr hws hDS htx hjt
  go_enter Tryz.func11, Tryz.ntmps11
  go_wp2_with fail
  rw [← HO.out]
  refine (HV.out.1 _ HST.out.bel).mono ?_
  rintro e w1 ⟨rfl, hb1⟩
  have hst1 := HST.out.below hb1
  have hx := HC.out _ hst1
  obtain ⟨c0, c1⟩ := hx
  clear hb1 ho
  go_upto_region 3 with fail
  go_cut [4] (fun v wx => LineAt w o [tag, vb] v wx)
  case first =>
    have hz1 : w.heap.size < w1.heap.size := by have := hst1.size; omega
    have hst2 := hst1.drew
    have hst3 := hst1.alloc (.cells #[.slice none 0 0] 50)
    have hst4 := hst3.drew
    go_region_with (go_at_call 28; refine (HV.out.2 _ (PSt.bel ‹PSt w o _›)).mono ?_; rintro e w' ⟨rfl, hb'⟩; have hst' := PSt.below ‹PSt w o _› hb'; (try have hH : w'.heap[w1.heap.size]? = some (.cells #[.slice none 0 0] 50) := (hb'.block _ (by simp)).trans (World.alloc_heap_new w1 _)); (try have hcL : w'.cell? ⟨w1.heap.size, 0, none⟩ = some (.slice none 0 0) := by simp [World.cell?, hH]); (try have hfL : w'.frozen? ⟨w1.heap.size, 0, none⟩ = false := by simp [World.frozen?, hH]); (try have hlL := (Array.getElem?_eq_some_iff.1 hH).1); have hx' := HC.out _ hst'; have hz2 : w.heap.size < w'.heap.size := (by have := hst'.size; omega); have hx3 := hx'.1; have hx4 := hx'.2; clear hx' hb')
    all_goals go_wp2_with fail
    all_goals go_meet
    all_goals first | exact lineA (by assumption) | exact lineB (by assumption) | exact lineC (by assumption) (by assumption) (by omega)
  case rest =>
    obtain ⟨L, rfl, hl2, hL0, hst2⟩ := hcut
    clear c0 c1 hst1
    obtain ⟨u, hu⟩ : ∃ u, u = wrV kind := ⟨_, rfl⟩
    obtain ⟨ub, hub⟩ : ∃ ub, ub = wrOk kind := ⟨_, rfl⟩
    have hu1 : (u = .nilFunc ∧ ub = false) ∨ ∃ n, u = .func (.func n) #[] #[] ∧ ub = true := by
      rw [hu, hub]
      by_cases h5 : kind = 5
      · subst h5; exact .inr ⟨56, rfl, rfl⟩
      by_cases h6 : kind = 6
      · subst h6; exact .inr ⟨58, rfl, rfl⟩
      by_cases h7 : kind = 7
      · subst h7; exact .inr ⟨61, rfl, rfl⟩
      by_cases h8 : kind = 8
      · subst h8; exact .inr ⟨64, rfl, rfl⟩
      refine .inl ⟨?_, ?_⟩
      · unfold wrV; rw [if_neg h5, if_neg h6, if_neg h7, if_neg h8]
      · unfold wrOk; simp; omega
    have HU1 := Lib.hid hu1
    clear hu1
    have look := look_any kind
    rw [← hu, ← hub] at look
    have lkA : ∀ W : World, (Instr.lookup 55 (.map (some W.heap.size)) (.int .i64 kind) true).run Tryz.prog (W.alloc wrMap) = .ok (.tuple #[.agg #[u], .bool ub]) (W.alloc wrMap) := fun W => look _ _ (World.alloc_heap_new W _)
    have lkA' : ∀ W : World, (Instr.lookup 55 (.map (some W.heap.size)) (.int .i64 kind) true).run Tryz.prog (W.alloc wrMap).drew = .ok (.tuple #[.agg #[u], .bool ub]) (W.alloc wrMap).drew := fun W => look _ _ (World.alloc_heap_new W _)
    have lkB : ∀ (W : World) (x : Obj), (Instr.lookup 55 (.map (some W.heap.size)) (.int .i64 kind) true).run Tryz.prog ((W.alloc wrMap).alloc x) = .ok (.tuple #[.agg #[u], .bool ub]) ((W.alloc wrMap).alloc x) := fun W x => look _ _ ((Below.heap_alloc _ _ _ (by simp)).trans (World.alloc_heap_new W _))
    have lkB' : ∀ (W : World) (x : Obj), (Instr.lookup 55 (.map (some W.heap.size)) (.int .i64 kind) true).run Tryz.prog ((W.alloc wrMap).alloc x).drew = .ok (.tuple #[.agg #[u], .bool ub]) ((W.alloc wrMap).alloc x).drew := fun W x => look _ _ ((Below.heap_alloc _ _ _ (by simp)).trans (World.alloc_heap_new W _))
    have lkC : ∀ (W : World) (x : Obj), (Instr.lookup 55 (.map (some (W.heap.size + 1))) (.int .i64 kind) true).run Tryz.prog ((W.alloc x).alloc wrMap) = .ok (.tuple #[.agg #[u], .bool ub]) ((W.alloc x).alloc wrMap) := fun W x => look _ _ (heap_second _ _ _)
    have lkC' : ∀ (W : World) (x : Obj), (Instr.lookup 55 (.map (some (W.heap.size + 1))) (.int .i64 kind) true).run Tryz.prog ((W.alloc x).alloc wrMap).drew = .ok (.tuple #[.agg #[u], .bool ub]) ((W.alloc x).alloc wrMap).drew := fun W x => look _ _ (heap_second _ _ _)
    have hx := HC.out _ hst2
    obtain ⟨c0, c1⟩ := hx
    have hz1 : w.heap.size < wc.heap.size := by have := hst2.size; omega
    have HU := Lib.hid (And.intro hu hub)
    have HL2 := Lib.hid hl2
    clear look hu hub hl2
    go_upto_region 4 with fail
    go_cut [5, 6] (fun v x wx => ∃ X, v = .pointer (some ⟨X, 0, none⟩) ∧ x = .bool ub ∧ wx.cell? ⟨X, 0, none⟩ = some u ∧ Below wc.heap.size wc wx)
    case first =>
      rcases HU1.out with ⟨rfl, rfl⟩ | ⟨n, rfl, rfl⟩
      all_goals go_region_with (go_at_call 29; refine (writers_any _).mono ?_; rintro e w' ⟨rfl, rfl⟩)
      all_goals go_wp2_with fail
      all_goals go_meet
      all_goals first | exact ⟨_, rfl, rfl, cellX1 _ _ _, below2 _ _ _⟩ | exact ⟨_, rfl, rfl, cellX2 _ _ _, below2 _ _ _⟩
    case rest =>
      obtain ⟨X, rfl, rfl, hX, hb3⟩ := hcut
      have hst3 := hst2.below hb3
      have hl3 := HL2.out.below hb3
      clear lkA lkA' lkB lkB' lkC lkC' c0 c1 hst2 hb3 hz1
      have HL3 := Lib.hid hl3
      have HS3 := Lib.hid hst3
      obtain ⟨W3, rfl⟩ : ∃ W3 : World, W3 = wc := ⟨_, rfl⟩
      clear hl3 hst3
      go_upto_if 28 with fail
      go_cut [] (fun wx => LineIn wx (w.heap.size + 1) L ws ∧ PSt w o wx)
      case first =>
        obtain ⟨g1, g2, g3, g4, g5, g7, g8⟩ := HVAL.out
        (try simp only at g1 g2 g3 g4 g5 g7 g8)
        have hbx := HS3.out.box
        rw [HO.out] at hbx
        have hzb : w.heap.size < W3.heap.size := by have := HS3.out.size; omega
        obtain ⟨x0, x1, x2, x3, x4, x5, x6, x7, x8⟩ := BoxC.of (Below.refl _ W3) hzb hbx
        have hG := Lib.hid (And.intro g7 g8)
        clear hbx g7 g8
        by_cases hk5 : 5 ≤ kind
        · have hk : kind = 5 ∨ kind = 6 ∨ kind = 7 ∨ kind = 8 := by omega
          clear hk5 g1 g2
          rcases hk with rfl | rfl | rfl | rfl
          · have hu : u = .func (.func 56) #[] #[] := HU.out.1
            have hub : ub = true := HU.out.2
            subst hu hub
            have hwe : ws = [tag, vb] ++ [boxOf box] := by rw [HWS.out, HVB.out]; rfl
            have HWE := Lib.hid hwe
            clear hwe
            go_wp2_with fail
            refine (writer1 ⟨tag, 5, box, set, items, mode, silent, flags, data⟩ SA DA sc dc (w.heap.size + 1) L [tag, vb] W3 (by simp only; omega) (HE.out.below HS3.out.bel) HL3.out hL0 (by simp)).mono ?_
            rintro e w4 ⟨rfl, hl4, hb4⟩
            have HQ := Lib.hid (And.intro hl4 hb4)
            clear hl4 hb4
            go_wp2_with fail
            go_meet
            exact ⟨by rw [HWE.out]; exact HQ.out.1, HS3.out.past (Nat.le_refl _) HQ.out.2 HQ.out.2.size⟩
          · have hu : u = .func (.func 58) #[] #[] := HU.out.1
            have hub : ub = true := HU.out.2
            subst hu hub
            have hwe : ws = [tag, vb] ++ parts6 ⟨tag, 6, box, set, items, mode, silent, flags, data⟩ := by rw [HWS.out, HVB.out]; rfl
            have HWE := Lib.hid hwe
            clear hwe
            go_wp2_with fail
            refine (writer2 ⟨tag, 6, box, set, items, mode, silent, flags, data⟩ SA DA sc dc (w.heap.size + 1) L [tag, vb] W3 w (by simp only; omega) (by simp only; omega) (by simp only; omega) HDS.out.1 HE.out HS3.out.bel (by omega) HL3.out hL0 (by simp)).mono ?_
            rintro e w4 ⟨rfl, hl4, hb4⟩
            have HQ := Lib.hid (And.intro hl4 hb4)
            clear hl4 hb4
            go_wp2_with fail
            go_meet
            exact ⟨by rw [HWE.out]; exact HQ.out.1, HS3.out.past (Nat.le_refl _) HQ.out.2 HQ.out.2.size⟩
          · obtain ⟨hne, hi1, hi2⟩ := hG.out.1 rfl
            (try simp only at hi1 hi2)
            obtain ⟨n, rfl⟩ := Int.eq_ofNat_of_zero_le (show 0 ≤ items by omega)
            have hn32 : n < 32 := by omega
            clear hne hi1 hi2
            have hu : u = .func (.func 61) #[] #[] := HU.out.1
            have hub : ub = true := HU.out.2
            subst hu hub
            have hwe : ws = [tag, vb] ++ [sqPrint set, itemsOf n] := by rw [HWS.out, HVB.out]; rfl
            have HWE := Lib.hid hwe
            clear hwe
            go_wp2_with fail
            refine (writer3 ⟨tag, 7, box, set, n, mode, silent, flags, data⟩ n rfl hn32 SA DA sc dc (w.heap.size + 1) L [tag, vb] W3 w hs HDS.out.2.1 HR.out HDS.out.2.2 HE.out HS3.out.bel (by omega) HL3.out hL0 (by simp)).mono ?_
            rintro e w4 ⟨rfl, hl4, hb4⟩
            have HQ := Lib.hid (And.intro hl4 hb4)
            clear hl4 hb4
            go_wp2_with fail
            go_meet
            exact ⟨by rw [HWE.out]; exact HQ.out.1, HS3.out.past (Nat.le_refl _) HQ.out.2 HQ.out.2.size⟩
          · obtain ⟨hne, hi1, hi2⟩ := hG.out.2 rfl
            (try simp only at hi1 hi2)
            obtain ⟨m, rfl⟩ := Int.eq_ofNat_of_zero_le (show 0 ≤ mode by omega)
            have hm3 : m < 3 := by omega
            clear hne hi1 hi2
            have hu : u = .func (.func 64) #[] #[] := HU.out.1
            have hub : ub = true := HU.out.2
            subst hu hub
            have hwe : ws = [tag, vb] ++ [sqPrint set, modeOf m silent, flagList flags] := by rw [HWS.out, HVB.out]; rfl
            have HWE := Lib.hid hwe
            clear hwe
            go_wp2_with fail
            refine (writer4 ⟨tag, 8, box, set, items, m, silent, flags, data⟩ m rfl hm3 (by simp only; omega) SA DA sc dc (w.heap.size + 1) L [tag, vb] W3 w hs HDS.out.2.1 HR.out HDS.out.2.2 HE.out HS3.out.bel (by omega) HL3.out hL0 (by simp)).mono ?_
            rintro e w4 ⟨rfl, hl4, hb4⟩
            have HQ := Lib.hid (And.intro hl4 hb4)
            clear hl4 hb4
            go_wp2_with fail
            go_meet
            exact ⟨by rw [HWE.out]; exact HQ.out.1, HS3.out.past (Nat.le_refl _) HQ.out.2 HQ.out.2.size⟩
        · have hub : ub = false := by rw [HU.out.2]; unfold wrOk; simp; omega
          subst hub
          have hwe : ws = [tag, vb] := by
            rw [HWS.out, HVB.out]
            unfold wordsOf partsOf2
            simp only
            rw [if_neg (by omega), if_neg (by omega), if_neg (by omega), if_neg (by omega)]
            rfl
          have HWE := Lib.hid hwe
          clear hwe
          go_wp2_with fail
          go_meet
          exact ⟨by rw [HWE.out]; exact HL3.out, HS3.out⟩
      case rest =>
        obtain ⟨hl5, hst5⟩ := hcut
        obtain ⟨v5, hL5, hown5⟩ := hl5
        obtain ⟨A5, c5, rfl, hcp5, _, hcells5⟩ := own_cells hown5
        have k5 : wc.cell? ⟨L, 0, none⟩ = some (.slice A5 ws.length c5) := (cell_of_row _ _ 0 _ _ (0, 0) hL5).trans rfl
        have hj := join_any A5 c5 ws [32] wc (hcells5.mono (Nat.zero_le _)) hcp5 (by omega) (by rw [← HT.out.2]; omega)
        rw [← HT.out.2] at hj
        obtain ⟨b, hb⟩ : ∃ b, b = t ++ [13, 10] := ⟨_, rfl⟩
        have hcat : (⟨t.toArray⟩ : ByteArray) ++ ⟨#[13, 10]⟩ = ⟨b.toArray⟩ := by
          rw [hb]
          apply ByteArray.ext
          simp
        have hbl : b.length = t.length + 2 := by rw [hb]; simp
        have hbl2 : b.length ≤ 300000002 := by omega
        have HJ := Lib.hid hj
        have HS5 := Lib.hid hst5
        have HCAT := Lib.hid hcat
        have HB := Lib.hid (And.intro hb hbl)
        have kb := run_bytes ⟨b.toArray⟩
        clear hj hst5 hcat hb hbl hL5 hown5 hcells5 hX HU HU1 HL2 HL3 HS3 hmf
        obtain ⟨W5, rfl⟩ : ∃ W5 : World, W5 = wc := ⟨_, rfl⟩
        go_wp2_with (go_at_call 31; refine HJ.out.mono ?_; rintro e w6 ⟨rfl, hb6⟩)
        rw [HCAT.out, kb]
        have hbb := bytesWorld_below w6 ⟨b.toArray⟩
        have hbn : BytN (Lib.bytesWorld w6 5 ⟨b.toArray⟩) w6.heap.size b := bytesN w6 ⟨b.toArray⟩
        have hcl : b.length ≤ grownCap w6 b.length 0 5 := cap_le w6 ⟨b.toArray⟩
        have hst7 := (HS5.out.below hb6).below hbb
        have hz6 : w.heap.size < w6.heap.size := by have := HS5.out.size; have := hb6.size; omega
        have hz7 : w6.heap.size < (Lib.bytesWorld w6 5 ⟨b.toArray⟩).heap.size := by rw [Lib.bytesWorld_size]; omega
        have hsp := split_frames (some ⟨w6.heap.size, 0, none⟩) (grownCap w6 b.length 0 5) b _ (hbn.byt (by unfold maxLen; omega)) (by omega) (fun e => by cases e) (HE.out.below hst7.bel)
        obtain ⟨r, hr⟩ : ∃ r, r = framesS b 0 0 := ⟨_, rfl⟩
        rw [← hr] at hsp
        obtain ⟨fs, q⟩ := r
        have HQ := Lib.hid (And.intro hbn (And.intro hst7 (And.intro hsp (And.intro hr hz7))))
        clear hbb hbn hst7 hsp hb6 hr hz7
        go_wp2_with fail
        refine HQ.out.2.2.1.mono ?_
        rintro e w8 ⟨v8, xs, rfl, h1, h2, h3⟩
        have hst8 := HQ.out.2.1.below h3
        have hbn8 := HQ.out.1.below h3 HQ.out.2.2.2.2
        have hz8 := Nat.lt_of_lt_of_le HQ.out.2.2.2.2 h3.size
        clear h3
        obtain ⟨A8, c8, rfl, hr0, _⟩ := own_row0 h1
        have hlen : fs.length ≤ 400000000 := by have := framesS_len b.length b 0 0 (by omega); rw [← HQ.out.2.2.2.1] at this; simp only at this; omega
        have hsend : sendB t = (decide (q = 0) && (fs.getLast? == some (1, t))) := by unfold sendB; rw [← HB.out.1, ← HQ.out.2.2.2.1]
        rw [HT.out.1] at hsend
        have HSD := Lib.hid hsend
        simp only at h1 h2
        clear hsend
        by_cases hq : 0 < (q : Int)
        · have hp : sendB (textOf ⟨tag, kind, box, set, items, mode, silent, flags, data⟩) = false := by rw [HSD.out, decide_eq_false (by omega)]; rfl
          have HP := Lib.hid hp
          clear hp h1 h2
          go_wp2_with fail
          go_ret2
          exact PrintP.no (print_none HVT.out HP.out) hst8.bel
        · obtain rfl : q = 0 := by omega
          clear hq
          rcases List.eq_nil_or_concat fs with rfl | ⟨fs', ⟨k, d⟩, rfl⟩
          · have hp : sendB (textOf ⟨tag, kind, box, set, items, mode, silent, flags, data⟩) = false := by rw [HSD.out]; rfl
            have HP := Lib.hid hp
            clear hp h1 h2
            rw [show ([] : List (Nat × List UInt8)).length = 0 from rfl]
            go_wp2_with fail
            go_ret2
            exact PrintP.no (print_none HVT.out HP.out) hst8.bel
          · rw [List.concat_eq_append] at *
            have hgl : (fs' ++ [(k, d)]).getLast? = some (k, d) := by simp
            have hl1 : (fs' ++ [(k, d)]).length = fs'.length + 1 := by simp
            have hsd := HSD.out
            rw [hgl] at hsd
            have HSE := Lib.hid hsd
            rw [hl1] at h1 hlen ⊢
            obtain ⟨xs', vd, hxs, hxl, hvd⟩ := FrRow.last h2
            obtain ⟨m, hm⟩ : ∃ m, m = fs'.length := ⟨_, rfl⟩
            rw [← hm] at h1 hlen hxl ⊢
            obtain ⟨g, cap, hge⟩ := own_shape h1 (by omega)
            simp only [Value.slice.injEq] at hge
            obtain ⟨rfl, -, rfl⟩ := hge
            have cA : w8.cell? ⟨g, m * 2, none⟩ = some (.int .i64 (k : Int)) := (World.ownsRow.cellAt h1 (m * 2) (by omega)).trans (by rw [hxs, ← hxl]; simp)
            have cB : w8.cell? ⟨g, m * 2 + 1, none⟩ = some vd := (World.ownsRow.cellAt h1 (m * 2 + 1) (by omega)).trans (by rw [hxs, ← hxl]; simp)
            obtain ⟨Ad, cd, rfl, _, hd1, hd2, hcd, _⟩ := own_row0 hvd
            have hby := hcd.byt (Nat.le_trans hd1 hd2)
            have ks1 : ∀ x, (convert 24 9 (.slice Ad d.length cd)).run Tryz.prog (w8.alloc x) = .ok (.string ⟨d.toArray⟩) (w8.alloc x) := fun x => (hby.below ((Below.refl _ _).alloc (Nat.le_refl _) x)).string cd
            have ks2 : ∀ x, (convert 24 9 (.slice Ad d.length cd)).run Tryz.prog (w8.alloc x).drew = .ok (.string ⟨d.toArray⟩) (w8.alloc x).drew := fun x => (hby.below ((Below.refl _ _).alloc (Nat.le_refl _) x).drew).string cd
            have HS8 := Lib.hid hst8
            have HN8 := Lib.hid hbn8
            have HM := Lib.hid hm
            clear hsd h2 hvd hcd h1 hxs hgl hl1 hby hst8 hbn8 hr0 hxl hm
            by_cases hk : k = 1
            · subst hk
              by_cases hd : d = t
              · have hp : sendB (textOf ⟨tag, kind, box, set, items, mode, silent, flags, data⟩) = true := by
                  rw [HSE.out, ← HT.out.1, hd]
                  simp
                have hpb : printOf ⟨tag, kind, box, set, items, mode, silent, flags, data⟩ = some b := by rw [print_some HVT.out hp, HB.out.1, HT.out.1]
                have HPB := Lib.hid hpb
                have hdt : (d == t) = true := by simpa using hd
                have hNb := HN8.out.below ((Below.refl _ w8).alloc (Nat.le_refl _) (.cells #[.int .i64 1, .slice Ad d.length cd] 63)) hz8
                have HNB := Lib.hid hNb
                clear hp hd hpb hNb
                go_wp2_with fail
                go_ret2
                exact PrintP.yes HPB.out (HS8.out.alloc _).bel hcl (by omega) (by simp; omega) HNB.out
              · have hp : sendB (textOf ⟨tag, kind, box, set, items, mode, silent, flags, data⟩) = false := by
                  rw [HSE.out, ← HT.out.1]
                  simp [hd]
                have HP := Lib.hid hp
                have hdt : (d == t) = false := by simpa using hd
                clear hp hd
                go_wp2_with fail
                go_ret2
                exact PrintP.no (print_none HVT.out HP.out) (HS8.out.alloc _).bel
            · have hp : sendB (textOf ⟨tag, kind, box, set, items, mode, silent, flags, data⟩) = false := by
                rw [HSE.out]
                simp [hk]
              have HP := Lib.hid hp
              have hk1 : ((k : Int) != 1) = true := by
                rw [bne_iff_ne]; omega
              clear hp hk
              go_wp2_with fail
              go_ret2
              exact PrintP.no (print_none HVT.out HP.out) (HS8.out.alloc _).bel
end Go.Proofs.YtkdnfjafabgioaaGreatDoor.Own
