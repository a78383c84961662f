import Derived.Test.YtkdnfjafabgioaaGreatDoorA05
import Derived.Maps.AppendAt
import Derived.Laws.StructEq
import Derived.Laws.Concat
set_option linter.unusedVariables false
set_option linter.unusedSimpArgs false
namespace Go.Proofs.YtkdnfjafabgioaaGreatDoor.Own
open Go.RowKit Go.Shelf

/-! Rows of cells, read. -/
/-- A slice's cells, beginning at its address; in a block from base on. -/
def CellsIn (w : World) (base : Nat) (A : Option Addr) (cs : List Value) : Prop :=
  cs ≠ [] → ∃ b o, A = some ⟨b, o, none⟩ ∧ base ≤ b ∧ b < w.heap.size ∧ ∀ j v, cs[j]? = some v → w.cell? ⟨b, o + j, none⟩ = some v
theorem CellsIn.below {w w' : World} {base : Nat} {A : Option Addr} {cs : List Value} (h : CellsIn w base A cs) (hb : Below w.heap.size w w') : CellsIn w' base A cs := fun hn => by
  obtain ⟨b, o, e, h1, h2, h3⟩ := h hn
  exact ⟨b, o, e, h1, Nat.lt_of_lt_of_le h2 hb.size, fun j v hj => (hb.cell (p := ⟨b, o + j, none⟩) h2).trans (h3 j v hj)⟩
theorem CellsIn.mono {w : World} {base base' : Nat} {A : Option Addr} {cs : List Value} (h : CellsIn w base A cs) (hb : base' ≤ base) : CellsIn w base' A cs := fun hn => by
  obtain ⟨b, o, e, h1, h2⟩ := h hn
  exact ⟨b, o, e, Nat.le_trans hb h1, h2⟩
theorem CellsIn.nil (w : World) (base : Nat) (A : Option Addr) : CellsIn w base A [] := fun h => absurd rfl h
theorem own_cells {w : World} {base n : Nat} {e : TypeId} {size : Nat} {v : Value} {xs : List Value} (h : w.ownsRow base e size v n xs) : ∃ A c, v = .slice A n c ∧ n ≤ c ∧ c ≤ maxLen ∧ CellsIn w base A xs := by
  rcases h.2 with ⟨rfl, rfl⟩ | ⟨g, cap, cur, rfl, hb, hh, h1, h2, h3, h4⟩
  · have hx : xs = [] := List.eq_nil_of_length_eq_zero (by rw [h.1, Nat.zero_mul])
    subst hx
    exact ⟨none, 0, rfl, Nat.le_refl _, by simp [maxLen], CellsIn.nil _ _ _⟩
  · refine ⟨_, cap, rfl, h1, h2, fun hn => ⟨g, 0, rfl, hb, (Array.getElem?_eq_some_iff.1 hh).1, fun j v hj => ?_⟩⟩
    rw [← h4, List.getElem?_take] at hj
    split at hj
    · simp only [World.cell?, hh, Nat.zero_add]
      simpa using hj
    · cases hj

def sqNum (l : List UInt8) : Option Nat :=
  if l = [42] then some 0 else match numOf l with
    | some n => if n = 0 then none else some n
    | none => none

theorem sqNumber_any (s : ByteArray) (hs : s.size ≤ 281474976710656) (w : World) (hE : Env w) :
    Calls Tryz.prog 192 #[.string s] w fun e w' => e = .returned (numV (sqNum s.data.toList)) ∧ Below w.heap.size w w' := by
  obtain ⟨N, hN⟩ : ∃ N, N = numV (sqNum s.data.toList) := ⟨_, rfl⟩
  rw [← hN]
  by_cases h1 : s.data.toList = [42]
  · have hn : N = .tuple #[.int .u32 0, .bool true] := by rw [hN]; simp [sqNum, h1, numV]
    have H := Lib.hid hn
    have h2 : (s.toList == [42]) = true := by rw [ByteArray.toList_eq, h1]; rfl
    clear hn hN h1
    go_enter Tryz.func192, Tryz.ntmps192
    go_wp2_with fail
    go_ret2
    exact ⟨by rw [H.out]; rfl, Below.refl _ _⟩
  · have h2 : (s.toList == [42]) = false := by rw [ByteArray.toList_eq]; simp [h1]
    have HE := Lib.hid hE
    cases hk : numOf s.data.toList with
    | none =>
      have hn : N = .tuple #[.int .u32 0, .bool false] := by rw [hN]; simp [sqNum, h1, hk, numV]
      have H := Lib.hid hn
      have hc := number_any s hs w hE
      rw [hk] at hc
      have HC := Lib.hid hc
      clear hn hN h1 hk hc
      go_enter Tryz.func192, Tryz.ntmps192
      go_wp2_with fail
      refine HC.out.mono ?_
      rintro e w1 ⟨rfl, hb⟩
      unfold numV
      go_wp2_with fail
      go_ret2
      exact ⟨by rw [H.out]; rfl, hb⟩
    | some n =>
      have hc := number_any s hs w hE
      rw [hk] at hc
      have HC := Lib.hid hc
      by_cases h0 : n = 0
      · subst h0
        have hn : N = .tuple #[.int .u32 0, .bool false] := by rw [hN]; simp [sqNum, h1, hk, numV]
        have H := Lib.hid hn
        clear hn hN h1 hk hc
        go_enter Tryz.func192, Tryz.ntmps192
        go_wp2_with fail
        refine HC.out.mono ?_
        rintro e w1 ⟨rfl, hb⟩
        unfold numV
        go_wp2_with fail
        go_ret2
        exact ⟨by rw [H.out]; rfl, hb⟩
      · have hn : N = .tuple #[.int .u32 (n : Int), .bool true] := by rw [hN]; simp [sqNum, h1, hk, numV, h0]
        have H := Lib.hid hn
        have h3 : ((n : Int) != 0) = true := by simp [h0]
        clear hn hN h1 hk hc
        go_enter Tryz.func192, Tryz.ntmps192
        go_wp2_with fail
        refine HC.out.mono ?_
        rintro e w1 ⟨rfl, hb⟩
        unfold numV
        go_wp2_with fail
        go_ret2
        exact ⟨by rw [H.out]; rfl, hb⟩

def frm (n : Nat) : List UInt8 := if n = 0 then [42] else Lib.decDigits n
theorem form_any (n : Nat) (hn : n < 4294967296) (w : World) (hE : Env w) :
    Calls Tryz.prog 113 #[.int .u32 n] w fun e w' => e = .returned (.string ⟨(frm n).toArray⟩) ∧ Below w.heap.size w w' := by
  by_cases h0 : n = 0
  · subst h0
    go_enter Tryz.func113, Tryz.ntmps113
    go_wp2_with fail
    go_ret
    exact ⟨rfl, Below.refl _ _⟩
  · have hf : frm n = Lib.decDigits n := if_neg h0
    have H := Lib.hid hf
    have HE := Lib.hid hE
    have h3 : ((n : Int) == 0) = false := by simp [h0]
    clear hf hE
    go_enter Tryz.func113, Tryz.ntmps113
    go_wp2_with (go_at_call 112; refine (decimal_any n hn _ HE.out).mono ?_; rintro e w' ⟨rfl, hb⟩)
    go_ret
    exact ⟨by rw [H.out]; rfl, hb⟩

theorem info48 : (Tryz.prog.info? 48).map (fun i => (i.zero, i.size, i.bytes)) = some (some (.agg #[.int .u32 0, .int .u32 0]), 2, 8) := by kernel_rfl
theorem info9 : (Tryz.prog.info? 9).map (fun i => (i.zero, i.size, i.bytes)) = some (some (.string ⟨#[]⟩), 1, 16) := by kernel_rfl

def rangeOf (p : List UInt8) : Option (Nat × Nat) :=
  match sqNum (Lib.cut p [58]).1, sqNum (if (Lib.cut p [58]).2.2 then (Lib.cut p [58]).2.1 else (Lib.cut p [58]).1) with
  | some lo, some hi => some (lo, hi)
  | _, _ => none
def rangesOf (ps : List (List UInt8)) : Option (List (Nat × Nat)) := ps.mapM rangeOf
theorem rangesOf_snoc (l : List (List UInt8)) (p : List UInt8) (rs : List (Nat × Nat)) (x : Nat × Nat) (h : rangesOf l = some rs) (hp : rangeOf p = some x) : rangesOf (l ++ [p]) = some (rs ++ [x]) := by
  unfold rangesOf at *
  simp [List.mapM_append, h, hp]
theorem rangesOf_none (l r : List (List UInt8)) (p : List UInt8) (hp : rangeOf p = none) : rangesOf (l ++ p :: r) = none := by
  unfold rangesOf at *
  rw [List.mapM_append]
  cases l.mapM rangeOf <;> simp [hp]
theorem mapM_length {α β : Type} (f : α → Option β) : ∀ (l : List α) (r : List β), l.mapM f = some r → r.length = l.length
  | [], r, h => by simp at h; subst h; rfl
  | a :: l, r, h => by
    simp only [List.mapM_cons, Option.bind_eq_bind, Option.bind_eq_some_iff, Option.pure_def, Option.some.injEq] at h
    obtain ⟨b, _, r', h2, rfl⟩ := h
    simp [mapM_length f l r' h2]
theorem sqNum_lt (l : List UInt8) (n : Nat) (h : sqNum l = some n) : n < 4294967296 := by
  unfold sqNum at h
  split at h
  · simp at h; omega
  · split at h
    · rename_i m hm
      split at h
      · simp at h
      · simp only [Option.some.injEq] at h
        subst h
        unfold numOf at hm
        split at hm
        · rename_i u hu
          split at hm
          · simp at hm; subst hm; exact parse_lt _ _ hu
          · simp at hm
        · simp at hm
    · simp at h
def rngCells (l : List (Nat × Nat)) : List Value := l.flatMap fun r => [.int .u32 (r.1 : Int), .int .u32 (r.2 : Int)]
theorem rngCells_snoc (l : List (Nat × Nat)) (x : Nat × Nat) : rngCells (l ++ [x]) = rngCells l ++ [.int .u32 (x.1 : Int), .int .u32 (x.2 : Int)] := by simp [rngCells]
/-- A set's value. -/
def SetV (w : World) (base : Nat) (v : Value) (l : List (Nat × Nat)) : Prop := ∃ A c, v = .slice A l.length c ∧ l.length ≤ c ∧ c ≤ maxLen ∧ CellsIn w base A (rngCells l)
theorem SetV.below {w w' : World} {base : Nat} {v : Value} {l : List (Nat × Nat)} (h : SetV w base v l) (hb : Below w.heap.size w w') : SetV w' base v l := by
  obtain ⟨A, c, e, h1, h2, h3⟩ := h
  exact ⟨A, c, e, h1, h2, h3.below hb⟩

/-- The parts of a string between commas, as 'strings.Split' makes them. -/
def commaB (s : ByteArray) : List ByteArray := Lib.splitB ⟨#[44]⟩ 0 (Lib.countB s ⟨#[44]⟩) s
def partsOf (s : ByteArray) : List (List UInt8) := (commaB s).map (·.data.toList)
theorem commaB_length (s : ByteArray) : (commaB s).length = Lib.countB s ⟨#[44]⟩ + 1 := Lib.splitB_all _ (by decide) 0 _ s rfl

theorem sqNum2 (s : ByteArray) (hs : s.size ≤ 281474976710656) (w : World) (hE : Env w) :
    Calls Tryz.prog 192 #[.string s] w fun e w' => ∃ (n : Nat) (o : Bool), e = .returned (.tuple #[.int .u32 (n : Int), .bool o]) ∧ sqNum s.data.toList = (if o then some n else none) ∧ Below w.heap.size w w' := by
  refine (sqNumber_any s hs w hE).mono ?_
  rintro e w' ⟨rfl, hb⟩
  refine ⟨_, _, rfl, ?_, hb⟩
  cases sqNum s.data.toList <;> rfl
theorem add_head (g j : Nat) : (⟨g, 0, none⟩ : Addr).add j = ⟨g, j, none⟩ := by unfold Addr.add; split <;> simp_all
theorem new_cells (w : World) (cs : List Value) (e : TypeId) (j : Nat) (u : Value) (h : cs[j]? = some u) : (w.alloc (.cells cs.toArray e)).cell? ((⟨w.heap.size, 0, none⟩ : Addr).add j) = some u := by
  rw [add_head, World.cell?_alloc_new]
  simpa using h
theorem split_size (sep : ByteArray) : ∀ (k : Nat) (s : ByteArray), ∀ p ∈ Lib.splitB sep 0 k s, p.size ≤ s.size
  | 0, s => by intro p hp; simp [Lib.splitB] at hp; subst hp; exact Nat.le_refl _
  | k + 1, s => by
    intro p hp
    unfold Lib.splitB at hp
    split at hp
    · simp at hp; subst hp; exact Nat.le_refl _
    · rcases List.mem_cons.1 hp with rfl | hp
      · simp [ByteArray.size_extract]; omega
      · have := split_size sep k _ p hp
        simp [ByteArray.size_extract] at this
        omega
theorem bsz (l : List UInt8) : (ByteArray.mk l.toArray).size = l.length := by simp [ByteArray.size]
theorem own_base {w : World} {base n : Nat} {e : TypeId} {size : Nat} {v : Value} {xs : List Value} (h : w.ownsRow base e size v n xs) (k : Nat) (hk : v.ownBlock = some k) : base ≤ k := by
  rcases h.2 with ⟨rfl, _⟩ | ⟨g, cap, cur, rfl, hb, _⟩
  · simp [Value.ownBlock] at hk
  · have : g = k := by simpa [Value.ownBlock] using hk
    omega
theorem cut_le (s sep : List UInt8) : (Lib.cut s sep).1.length ≤ s.length ∧ (Lib.cut s sep).2.1.length ≤ s.length := by
  unfold Lib.cut
  split
  · simp [List.length_take, List.length_drop]; omega
  · simp
theorem below_grown {w w' : World} (h : Below w.heap.size w w') (row : Option Nat) : w.grownBy w' row := ⟨h.os, h.tape, h.output, h.size, fun k hk _ => h.block k hk⟩
theorem below_drewN {B : Nat} {w W : World} (h : Below B w W) (n : Nat) : Below B w (W.drewN n) := ⟨h.os, h.tape, h.output, h.size, h.block⟩
theorem setV_nil {w : World} {base : Nat} {R : Option (List (Nat × Nat))} (hR : R = none) : SetV w base (.slice none 0 0) (R.getD []) := by
  subst hR
  exact ⟨none, 0, rfl, Nat.le_refl _, by simp [maxLen], CellsIn.nil _ _ _⟩

set_option maxRecDepth 100000 in
set_option maxHeartbeats 3200000 in
theorem sqParse_any (s : ByteArray) (hs : s.size < 4294967281) (w : World) (hE : Env w) :
    Calls Tryz.prog 171 #[.string s] w fun e w' => ∃ v, e = .returned (.tuple #[v, .bool (rangesOf (partsOf s)).isSome]) ∧ SetV w' w.heap.size v ((rangesOf (partsOf s)).getD []) ∧ Below w.heap.size w w' := by
  obtain ⟨i0, hi, hz0, hz1, hz2⟩ := info_parts info48
  obtain ⟨m, hm⟩ := hE.mlen
  have HM := Lib.hid hm
  clear hm
  obtain ⟨c, hc⟩ : ∃ c, c = Lib.countB s ⟨#[44]⟩ := ⟨_, rfl⟩
  have hcs : c ≤ s.size := by rw [hc]; exact Lib.countB_le _ (by decide) _ s (Nat.le_refl _)
  have hlen := commaB_length s
  have hsplit := Tryz.strings_Split s ⟨#[44]⟩ m w hs HM.out (by decide)
  rw [← hc] at hlen hsplit
  obtain ⟨ps, hps⟩ : ∃ ps, ps = commaB s := ⟨_, rfl⟩
  have hps2 : Lib.splitB ⟨#[44]⟩ 0 c s = ps := by rw [hps, hc]; rfl
  rw [hps2] at hsplit
  have hsize : ∀ k (h : k < ps.length), ps[k].size ≤ s.size := fun k h => split_size ⟨#[44]⟩ c s ps[k] (by rw [hps2]; exact List.getElem_mem h)
  rw [← hps] at hlen
  have hspec : partsOf s = ps.map (·.data.toList) := by rw [hps]; rfl
  obtain ⟨R, hR⟩ : ∃ R, R = rangesOf (partsOf s) := ⟨_, rfl⟩
  rw [← hR]
  rw [hspec] at hR
  have HS := Lib.hid hsplit
  have HR := Lib.hid hR
  have HL := Lib.hid hlen
  clear hc hsplit hps hps2 hspec hR hlen
  have HE := Lib.hid hE
  clear hE
  go_enter Tryz.func171, Tryz.ntmps171
  go_wp2_with fail
  refine HS.out.mono ?_
  rintro e w1 ⟨rfl, rfl⟩
  obtain ⟨W1, hW1⟩ : ∃ W1, W1 = w.alloc (.cells (ps.map Value.string).toArray 9) := ⟨_, rfl⟩
  have hcell : ∀ k (h : k < ps.length), W1.cell? ⟨w.heap.size, k, none⟩ = some (.string ps[k]) := by
    intro k h
    rw [hW1, World.cell?_alloc_new]
    simp [h]
  have hb1 : Below w.heap.size w W1 := by rw [hW1]; exact (Below.refl _ _).alloc (Nat.le_refl _) _
  have hs1 : w.heap.size + 1 = W1.heap.size := by rw [hW1]; simp
  rw [← hW1]
  clear hW1
  have HC := Lib.hid hcell
  clear hcell
  go_wp2_with fail
  go_loopw [4, 17] (fun v i wr => ∃ k rs, k ≤ c + 1 ∧ i = .int .i64 (k : Nat) ∧ rangesOf ((ps.take k).map (·.data.toList)) = some rs ∧ wr.ownsRow W1.heap.size 48 2 v k (rngCells rs) ∧ Below W1.heap.size W1 wr)
    (fun _ i _ => c + 1 - (intOf i).toNat)
  case atStart => exact ⟨0, [], by omega, rfl, rfl, World.ownsRow_nil _ _ _ _, Below.refl _ _⟩
  case round =>
    obtain ⟨k, rs, hk, rfl, hrs, hown, hb⟩ := hrel
    by_cases hlt : k < c + 1
    · have hlt2 : k < ps.length := by rw [HL.out]; exact hlt
      have hck : wr.cell? ⟨w.heap.size, k, none⟩ = some (.string ps[k]) := (hb.cell (p := ⟨w.heap.size, k, none⟩) (by show w.heap.size < W1.heap.size; omega)).trans (HC.out k hlt2)
      obtain ⟨p, hp⟩ : ∃ p, p = ps[k] := ⟨_, rfl⟩
      rw [← hp] at hck
      have hpz : p.size ≤ s.size := by rw [hp]; exact hsize k hlt2
      have HP := Lib.hid hp
      have HRS := Lib.hid hrs
      have HO := Lib.hid hown
      clear hp hrs hown
      have henv : Env wr := (HE.out.below hb1).below hb
      obtain ⟨m2, hm2⟩ := henv.mlen
      have HM2 := Lib.hid hm2
      have HE2 := Lib.hid henv
      clear hm2 henv
      obtain ⟨⟨a, b, ok⟩, hcut⟩ : ∃ x, Lib.cut p.data.toList [58] = x := ⟨_, rfl⟩
      have hla : a.length ≤ 4294967281 := by have := cut_le p.data.toList [58]; rw [hcut] at this; simp at this; omega
      have hlb : b.length ≤ 4294967281 := by have := cut_le p.data.toList [58]; rw [hcut] at this; simp at this; omega
      have hcc := fun W => Tryz.strings_Cut p ⟨#[58]⟩ m2 W (by omega)
      rw [show (⟨#[58]⟩ : ByteArray).data.toList = [58] from rfl, hcut] at hcc
      have HCC := Lib.hid hcc
      have HCUT := Lib.hid hcut
      clear hcc hcut
      cases ok
      · go_wp2_with fail
        refine (HCC.out _ HM2.out).mono ?_
        rintro e w2 ⟨rfl, n, rfl⟩
        have hb2 : Below wr.heap.size wr (wr.drewN n) := below_drewN (Below.refl _ _) n
        go_wp2_with fail
        refine (sqNum2 ⟨a.toArray⟩ (by rw [bsz]; omega) _ (HE2.out.below hb2)).mono ?_
        rintro e w3 ⟨n1, o1, rfl, hq1, hb3⟩
        have hb4 : Below wr.heap.size wr w3 := hb2.trans (hb3.mono hb2.size)
        clear hb2 hb3
        go_wp2_with fail
        refine (sqNum2 ⟨a.toArray⟩ (by rw [bsz]; omega) _ (HE2.out.below hb4)).mono ?_
        rintro e w4 ⟨n2, o2, rfl, hq2, hb5⟩
        have hb6 : Below wr.heap.size wr w4 := hb4.trans (hb5.mono hb4.size)
        have hr : rangeOf p.data.toList = if o1 && o2 then some (n1, n2) else none := by
          have hq1' : sqNum a = if o1 then some n1 else none := hq1
          have hq2' : sqNum a = if o2 then some n2 else none := hq2
          unfold rangeOf
          rw [HCUT.out]
          cases o1 <;> cases o2 <;> simp_all
        have HRG := Lib.hid hr
        have hown4 : w4.ownsRow W1.heap.size 48 2 u4 k (rngCells rs) := HO.out.kept (below_grown hb6 none) (by cases u4.ownBlock <;> simp)
        have hb7 : Below W1.heap.size W1 w4 := hb.trans (hb6.mono hb.size)
        have hz4 := hb7.size
        have hbz : Below w.heap.size w w4 := hb1.trans (hb7.mono (Nat.le_of_lt (by omega)))
        have HO4 := Lib.hid hown4
        have HQ1 := Lib.hid hq1
        have HQ2 := Lib.hid hq2
        clear hb4 hb5 hb6 hr hown4 hq1 hq2 hb
        by_cases hoo : o1 = true ∧ o2 = true
        · obtain ⟨rfl, rfl⟩ := hoo
          go_wp2_with (at_builtin; refine wpList_append_own _ rfl _ _ 22 rfl W1.heap.size 48 i0 (.agg #[.int .u32 0, .int .u32 0]) 2 8 Tryz.underlying22 hi hz0 hz1 hz2 rfl (by decide) _ _ _ rfl (HO4.out.alloc _) ⟨w4.heap.size, 0, none⟩ 1 1 [.int .u32 (n1 : Int), .int .u32 (n2 : Int)] rfl rfl ?_ ?_ ?_ ?_ ?_ ?_)
          · exact new_cells w4 [.int .u32 (n1 : Int), .int .u32 (n2 : Int)] 48
          · intro u hu; simp at hu; rcases hu with rfl | rfl <;> rfl
          · unfold maxLen; omega
          · omega
          · simp; omega
          · intro v' w5 hown5 hgrow _
            rw [← rngCells_snoc rs (n1, n2)] at hown5
            have hb8 : Below W1.heap.size W1 w5 := (hb7.alloc hz4 _).grown hgrow (by simp; omega) (by intro kk e; exact own_base HO4.out kk e)
            have hrs5 : rangesOf ((ps.take (k + 1)).map (·.data.toList)) = some (rs ++ [(n1, n2)]) := by
              rw [List.take_succ_eq_append_getElem hlt2, List.map_append, ← HP.out]
              exact rangesOf_snoc _ _ _ _ HRS.out HRG.out
            have HO5 := Lib.hid hown5
            have HR5 := Lib.hid hrs5
            clear hown5 hgrow hrs5
            go_wp2_with fail
            go_roundw
            case rel => exact ⟨k + 1, rs ++ [(n1, n2)], by omega, by go_num, HR5.out, HO5.out, hb8⟩
            case measure => simp [intOf]; omega
        · have hfin : R = none := by
            rw [HR.out, ← List.take_append_drop k ps, List.drop_eq_getElem_cons hlt2, List.map_append, List.map_cons, ← HP.out]
            exact rangesOf_none _ _ _ (by rw [HRG.out]; cases o1 <;> cases o2 <;> simp_all)
          have HF := Lib.hid hfin
          clear hfin
          cases o1
          · go_wp2_with fail
            go_ret2
            exact ⟨_, by rw [HF.out]; rfl, setV_nil HF.out, hbz⟩
          · obtain rfl : o2 = false := by cases o2 <;> simp_all
            clear hoo
            go_wp2_with fail
            go_ret2
            exact ⟨_, by rw [HF.out]; rfl, setV_nil HF.out, hbz⟩
      · go_wp2_with fail
        refine (HCC.out _ HM2.out).mono ?_
        rintro e w2 ⟨rfl, n, rfl⟩
        have hb2 : Below wr.heap.size wr (wr.drewN n) := below_drewN (Below.refl _ _) n
        go_wp2_with fail
        refine (sqNum2 ⟨a.toArray⟩ (by rw [bsz]; omega) _ (HE2.out.below hb2)).mono ?_
        rintro e w3 ⟨n1, o1, rfl, hq1, hb3⟩
        have hb4 : Below wr.heap.size wr w3 := hb2.trans (hb3.mono hb2.size)
        clear hb2 hb3
        go_wp2_with fail
        refine (sqNum2 ⟨b.toArray⟩ (by rw [bsz]; omega) _ (HE2.out.below hb4)).mono ?_
        rintro e w4 ⟨n2, o2, rfl, hq2, hb5⟩
        have hb6 : Below wr.heap.size wr w4 := hb4.trans (hb5.mono hb4.size)
        have hr : rangeOf p.data.toList = if o1 && o2 then some (n1, n2) else none := by
          have hq1' : sqNum a = if o1 then some n1 else none := hq1
          have hq2' : sqNum b = if o2 then some n2 else none := hq2
          unfold rangeOf
          rw [HCUT.out]
          cases o1 <;> cases o2 <;> simp_all
        have HRG := Lib.hid hr
        have hown4 : w4.ownsRow W1.heap.size 48 2 u4 k (rngCells rs) := HO.out.kept (below_grown hb6 none) (by cases u4.ownBlock <;> simp)
        have hb7 : Below W1.heap.size W1 w4 := hb.trans (hb6.mono hb.size)
        have hz4 := hb7.size
        have hbz : Below w.heap.size w w4 := hb1.trans (hb7.mono (Nat.le_of_lt (by omega)))
        have HO4 := Lib.hid hown4
        have HQ1 := Lib.hid hq1
        have HQ2 := Lib.hid hq2
        clear hb4 hb5 hb6 hr hown4 hq1 hq2 hb
        by_cases hoo : o1 = true ∧ o2 = true
        · obtain ⟨rfl, rfl⟩ := hoo
          go_wp2_with (at_builtin; refine wpList_append_own _ rfl _ _ 22 rfl W1.heap.size 48 i0 (.agg #[.int .u32 0, .int .u32 0]) 2 8 Tryz.underlying22 hi hz0 hz1 hz2 rfl (by decide) _ _ _ rfl (HO4.out.alloc _) ⟨w4.heap.size, 0, none⟩ 1 1 [.int .u32 (n1 : Int), .int .u32 (n2 : Int)] rfl rfl ?_ ?_ ?_ ?_ ?_ ?_)
          · exact new_cells w4 [.int .u32 (n1 : Int), .int .u32 (n2 : Int)] 48
          · intro u hu; simp at hu; rcases hu with rfl | rfl <;> rfl
          · unfold maxLen; omega
          · omega
          · simp; omega
          · intro v' w5 hown5 hgrow _
            rw [← rngCells_snoc rs (n1, n2)] at hown5
            have hb8 : Below W1.heap.size W1 w5 := (hb7.alloc hz4 _).grown hgrow (by simp; omega) (by intro kk e; exact own_base HO4.out kk e)
            have hrs5 : rangesOf ((ps.take (k + 1)).map (·.data.toList)) = some (rs ++ [(n1, n2)]) := by
              rw [List.take_succ_eq_append_getElem hlt2, List.map_append, ← HP.out]
              exact rangesOf_snoc _ _ _ _ HRS.out HRG.out
            have HO5 := Lib.hid hown5
            have HR5 := Lib.hid hrs5
            clear hown5 hgrow hrs5
            go_wp2_with fail
            go_roundw
            case rel => exact ⟨k + 1, rs ++ [(n1, n2)], by omega, by go_num, HR5.out, HO5.out, hb8⟩
            case measure => simp [intOf]; omega
        · have hfin : R = none := by
            rw [HR.out, ← List.take_append_drop k ps, List.drop_eq_getElem_cons hlt2, List.map_append, List.map_cons, ← HP.out]
            exact rangesOf_none _ _ _ (by rw [HRG.out]; cases o1 <;> cases o2 <;> simp_all)
          have HF := Lib.hid hfin
          clear hfin
          cases o1
          · go_wp2_with fail
            go_ret2
            exact ⟨_, by rw [HF.out]; rfl, setV_nil HF.out, hbz⟩
          · obtain rfl : o2 = false := by cases o2 <;> simp_all
            clear hoo
            go_wp2_with fail
            go_ret2
            exact ⟨_, by rw [HF.out]; rfl, setV_nil HF.out, hbz⟩
    · obtain rfl : k = c + 1 := by omega
      rw [List.take_of_length_le (by rw [HL.out]; exact Nat.le_refl _)] at hrs
      have hfin : R = some rs := by rw [HR.out]; exact hrs
      have HF := Lib.hid hfin
      have hlen2 : rs.length = c + 1 := by rw [mapM_length _ _ _ hrs]; simp [HL.out]
      have HL2 := Lib.hid hlen2
      have HO := Lib.hid hown
      clear hfin hrs hlen2 hown
      have hbz : Below w.heap.size w wr := hb1.trans (hb.mono (Nat.le_of_lt (by omega)))
      obtain ⟨A, cp, hv, h1, h2, h3⟩ := own_cells HO.out
      have HV := Lib.hid hv
      clear hv
      go_wp2_with fail
      go_ret2
      exact ⟨_, by rw [HF.out]; rfl, ⟨A, cp, by rw [HF.out]; exact HL2.out ▸ HV.out, by rw [HF.out]; exact HL2.out ▸ h1, h2, by rw [HF.out]; exact h3.mono (by omega)⟩, hbz⟩
end Go.Proofs.YtkdnfjafabgioaaGreatDoor.Own
