import Derived.Test.YtkdnfjafabgioaaGreatDoorA06
set_option linter.unusedVariables false
set_option linter.unusedSimpArgs false
namespace Go.Proofs.YtkdnfjafabgioaaGreatDoor.Own
open Go.RowKit Go.Shelf

def rngForm (r : Nat × Nat) : List UInt8 := if r.1 = r.2 then frm r.1 else frm r.1 ++ 58 :: frm r.2
theorem frm_len (n : Nat) (h : n < 4294967296) : (frm n).length ≤ 20 := by
  unfold frm
  split
  · simp
  · rw [Lib.decDigits_length]
    have := Lib.numDigits_eq n (by omega) (by omega)
    split at this <;> omega
def sqPrint (l : List (Nat × Nat)) : List UInt8 := Lib.join (l.map rngForm) [44]
def strCells (l : List (List UInt8)) : List Value := l.map fun x => .string ⟨x.toArray⟩
theorem strCells_snoc (l : List (List UInt8)) (x : List UInt8) : strCells (l ++ [x]) = strCells l ++ [.string ⟨x.toArray⟩] := by simp [strCells]
theorem rngCells_get (l : List (Nat × Nat)) : ∀ (k : Nat) (h : k < l.length), (rngCells l)[k * 2]? = some (.int .u32 (l[k].1 : Int)) ∧ (rngCells l)[k * 2 + 1]? = some (.int .u32 (l[k].2 : Int)) := by
  induction l with
  | nil => intro k h; simp at h
  | cons x l ih =>
    intro k h
    cases k with
    | zero => exact ⟨rfl, rfl⟩
    | succ k =>
      have := ih k (by simpa using h)
      have e1 : rngCells (x :: l) = .int .u32 (x.1 : Int) :: .int .u32 (x.2 : Int) :: rngCells l := rfl
      rw [e1, show (k + 1) * 2 = k * 2 + 1 + 1 by omega]
      simpa using this

theorem join_len (l : List (Nat × Nat)) (hr : ∀ r ∈ l, r.1 < 4294967296 ∧ r.2 < 4294967296) : (Lib.join (l.map rngForm) [44]).length ≤ 42 * l.length := by
  have hf : ∀ r ∈ l, (rngForm r).length ≤ 41 := by
    intro r h
    have h1 := frm_len r.1 (hr r h).1
    have h2 := frm_len r.2 (hr r h).2
    unfold rngForm
    split <;> simp <;> omega
  cases l with
  | nil => simp [Lib.join_nil]
  | cons x l =>
    clear hr
    have key : ∀ (l : List (Nat × Nat)) (x : Nat × Nat), (∀ r ∈ x :: l, (rngForm r).length ≤ 41) → (Lib.join ((x :: l).map rngForm) [44]).length ≤ 42 * (x :: l).length := by
      intro l
      induction l with
      | nil => intro x h; have := h x (by simp); simp [Lib.join_one]; omega
      | cons y l ih =>
        intro x h
        have h1 := h x (by simp)
        have h2 := ih y (fun r hr => h r (by simp at hr ⊢; exact .inr hr))
        simp only [Lib.join, List.map_cons, List.intercalate, List.intersperse_cons_cons, List.flatten_cons, List.length_append, List.length_cons] at h2 ⊢
        simp at h2 ⊢
        omega
    exact key l x hf
theorem join_any (A : Option Addr) (c : Nat) (fs : List (List UInt8)) (sep : List UInt8) (w : World) (hc : CellsIn w 0 A (strCells fs)) (hcap : fs.length ≤ c) (hN : fs.length ≤ 140737488355328) (hlen : (Lib.join fs sep).length ≤ 140737488355328) :
    Calls Tryz.prog 31 #[.slice A fs.length c, .string ⟨sep.toArray⟩] w fun e w' => e = .returned (.string ⟨(Lib.join fs sep).toArray⟩) ∧ Below w.heap.size w w' := by
  cases fs with
  | nil =>
    refine (Tryz.strings_Join_none A c ⟨sep.toArray⟩ w).mono ?_
    rintro e w' ⟨rfl, rfl⟩
    exact ⟨rfl, Below.refl _ _⟩
  | cons x fs =>
    obtain ⟨b, o, rfl, _, hb, hcl⟩ := hc (by simp [strCells])
    have e1 : ((x :: fs).map fun x => (⟨x.toArray⟩ : ByteArray)).map (·.data.toList) = x :: fs := by simp [List.map_map, Function.comp_def]
    have hj := Tryz.strings_Join b o c ((x :: fs).map fun x => ⟨x.toArray⟩) ⟨sep.toArray⟩ w (fun j y hy => hcl j _ (by
      rw [List.getElem?_map] at hy
      rw [strCells, List.getElem?_map]
      cases hh : (x :: fs)[j]? with
      | none => rw [hh] at hy; simp at hy
      | some z => rw [hh] at hy; simp at hy; rw [← hy]; rfl)) hb (by simpa using hN) (by simpa using hcap) (by rw [e1]; exact hlen)
    rw [e1, List.length_map] at hj
    exact hj

set_option maxRecDepth 100000 in
set_option maxHeartbeats 3200000 in
theorem sqPrint_any (A : Option Addr) (cp : Nat) (l : List (Nat × Nat)) (w : World) (hE : Env w) (hl : l.length ≤ 1000000) (hcp : l.length ≤ cp) (hr : ∀ r ∈ l, r.1 < 4294967296 ∧ r.2 < 4294967296) (hc : CellsIn w 0 A (rngCells l)) :
    Calls Tryz.prog 62 #[.slice A l.length cp] w fun e w' => e = .returned (.string ⟨(sqPrint l).toArray⟩) ∧ Below w.heap.size w w' := by
  obtain ⟨i0, hi, hz0, hz1, hz2⟩ := info_parts info9
  have HE := Lib.hid hE
  have HC := Lib.hid hc
  clear hE hc
  go_enter Tryz.func62, Tryz.ntmps62
  go_wp2_with fail
  go_loopw [3, 9] (fun v i wr => ∃ k : Nat, k ≤ l.length ∧ i = .int .i64 k ∧ wr.ownsRow w.heap.size 9 1 v k (strCells ((l.map rngForm).take k)) ∧ Below w.heap.size w wr)
    (fun _ i _ => l.length - (intOf i).toNat)
  case atStart => exact ⟨0, by omega, rfl, World.ownsRow_nil _ _ _ _, Below.refl _ _⟩
  case round =>
    obtain ⟨k, hk, rfl, hown, hb⟩ := hrel
    by_cases hlt : k < l.length
    · obtain ⟨b, o, rfl, _, hbs, hcell⟩ := HC.out (by intro e; have := (rngCells_get l k hlt).1; rw [e] at this; simp at this)
      have hg := rngCells_get l k hlt
      obtain ⟨⟨x, y⟩, hxy⟩ : ∃ q, l[k] = q := ⟨_, rfl⟩
      rw [hxy] at hg
      have hx : wr.cell? ⟨b, o + k * 2, none⟩ = some (.int .u32 (x : Int)) := (hb.cell (p := ⟨b, _, none⟩) hbs).trans (hcell _ _ hg.1)
      have hy : wr.cell? ⟨b, o + k * 2 + 1, none⟩ = some (.int .u32 (y : Int)) := (hb.cell (p := ⟨b, _, none⟩) hbs).trans (by rw [Nat.add_assoc]; exact hcell _ _ hg.2)
      have hrg := hr l[k] (List.getElem_mem hlt)
      rw [hxy] at hrg
      have hsz := hb.size
      have HX := Lib.hid hxy
      have HO := Lib.hid hown
      clear hg hxy hown hcell
      go_wp2_with fail
      refine (form_any x hrg.1 _ (HE.out.below ((hb.alloc hsz _)))).mono ?_
      rintro e w2 ⟨rfl, hb2⟩
      have hb3 : Below w.heap.size w w2 := (hb.alloc hsz _).trans (hb2.mono (by simp; omega))
      have hk0 : w2.cell? ⟨wr.heap.size, 0, none⟩ = some (.int .u32 (x : Int)) := (hb2.cell (p := ⟨wr.heap.size, 0, none⟩) (by simp)).trans ((World.cell?_alloc_new _ _ _ _).trans rfl)
      have hk1 : w2.cell? ⟨wr.heap.size, 1, none⟩ = some (.int .u32 (y : Int)) := (hb2.cell (p := ⟨wr.heap.size, 1, none⟩) (by simp)).trans ((World.cell?_alloc_new _ _ _ _).trans rfl)
      have hz3 := hb3.size
      clear hx hy
      by_cases hne : x = y
      · subst hne
        have hown3 : w2.ownsRow w.heap.size 9 1 u3 k (strCells ((l.map rngForm).take k)) := HO.out.kept (below_grown ((Below.refl _ _).alloc (Nat.le_refl _) _ |>.trans (hb2.mono (by simp))) none) (by cases u3.ownBlock <;> simp)
        have HO3 := Lib.hid hown3
        clear hown3 hb2
        go_wp2_with (at_builtin; refine wpList_append_own _ rfl _ _ 50 rfl w.heap.size 9 i0 (.string ⟨#[]⟩) 1 16 Tryz.underlying50 hi hz0 hz1 hz2 rfl (by decide) _ _ _ rfl (HO3.out.alloc _) ⟨w2.heap.size, 0, none⟩ 1 1 [.string ⟨(frm x).toArray⟩] rfl rfl (new_cells w2 [.string ⟨(frm x).toArray⟩] 9) (by simp [Value.oneCell']) (by unfold maxLen; omega) (by omega) (by simp; omega) ?_)
        · intro v' w5 hown5 hgrow _
          have hb8 : Below w.heap.size w w5 := (hb3.alloc hb3.size _).grown hgrow (by simp; omega) (by intro kk e; exact own_base HO3.out kk e)
          have hn5 : strCells ((l.map rngForm).take k) ++ [.string ⟨(frm x).toArray⟩] = strCells ((l.map rngForm).take (k + 1)) := by
            rw [List.take_succ_eq_append_getElem (by simpa using hlt), strCells_snoc, List.getElem_map, HX.out]
            rw [show rngForm (x, x) = frm x from if_pos rfl]
          have hown6 : w5.ownsRow w.heap.size 9 1 v' (k + 1) (strCells ((l.map rngForm).take (k + 1))) := hn5 ▸ hown5
          have HO5 := Lib.hid hown6
          clear hown5 hown6 hgrow hn5
          go_wp2_with fail
          go_roundw
          case rel => exact ⟨k + 1, by omega, by go_num, HO5.out, hb8⟩
          case measure => simp [intOf]; omega
      · have hne2 : ¬ (y : Int) = (x : Int) := by omega
        go_wp2_with fail
        refine (form_any y hrg.2 _ (HE.out.below hb3)).mono ?_
        rintro e w4 ⟨rfl, hb4⟩
        have hb5 : Below w.heap.size w w4 := hb3.trans (hb4.mono hb3.size)
        have hz5 := hb5.size
        have hl1 := frm_len x hrg.1
        have hl2 := frm_len y hrg.2
        have hown4 : w4.ownsRow w.heap.size 9 1 u3 k (strCells ((l.map rngForm).take k)) := HO.out.kept (below_grown (((Below.refl _ _).alloc (Nat.le_refl _) _ |>.trans (hb2.mono (by simp))).trans (hb4.mono (by have := hb2.size; simp at this; omega))) none) (by cases u3.ownBlock <;> simp)
        have HO4 := Lib.hid hown4
        clear hown4 hb2 hb4 hb3 hz3
        go_wp2_with (at_builtin; refine wpList_append_own _ rfl _ _ 50 rfl w.heap.size 9 i0 (.string ⟨#[]⟩) 1 16 Tryz.underlying50 hi hz0 hz1 hz2 rfl (by decide) _ _ _ rfl (HO4.out.alloc _) ⟨w4.heap.size, 0, none⟩ 1 1 [.string ⟨(frm x ++ 58 :: frm y).toArray⟩] rfl rfl (new_cells w4 [.string ⟨(frm x ++ 58 :: frm y).toArray⟩] 9) (by simp [Value.oneCell']) (by unfold maxLen; omega) (by omega) (by simp; omega) ?_)
        · intro v' w5 hown5 hgrow _
          have hb8 : Below w.heap.size w w5 := (hb5.alloc hb5.size _).grown hgrow (by simp; omega) (by intro kk e; exact own_base HO4.out kk e)
          have hn5 : strCells ((l.map rngForm).take k) ++ [.string ⟨(frm x ++ 58 :: frm y).toArray⟩] = strCells ((l.map rngForm).take (k + 1)) := by
            rw [List.take_succ_eq_append_getElem (by simpa using hlt), strCells_snoc, List.getElem_map, HX.out]
            rw [show rngForm (x, y) = frm x ++ 58 :: frm y from if_neg hne]
          have hown6 : w5.ownsRow w.heap.size 9 1 v' (k + 1) (strCells ((l.map rngForm).take (k + 1))) := hn5 ▸ hown5
          have HO5 := Lib.hid hown6
          clear hown5 hown6 hgrow hn5
          go_wp2_with fail
          go_roundw
          case rel => exact ⟨k + 1, by omega, by go_num, HO5.out, hb8⟩
          case measure => simp [intOf]; omega
    · obtain rfl : k = l.length := by omega
      rw [List.take_of_length_le (by simp)] at hown
      have HO := Lib.hid hown
      clear hown
      have hjl : (Lib.join (l.map rngForm) [44]).length ≤ 42 * l.length := join_len l hr
      obtain ⟨A', c', hv, h1, h2, h3⟩ := own_cells HO.out
      subst hv
      have hj := join_any A' c' (l.map rngForm) [44] wr (h3.mono (Nat.zero_le _)) (by simpa using h1) (by simp; omega) (by omega)
      rw [List.length_map] at hj
      have HJ := Lib.hid hj
      clear hj
      go_wp2_with (go_at_call 31; refine HJ.out.mono ?_; rintro e w2 ⟨rfl, hb2⟩)
      go_ret
      exact ⟨rfl, hb.trans (hb2.mono hb.size)⟩
end Go.Proofs.YtkdnfjafabgioaaGreatDoor.Own
