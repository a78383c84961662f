import Derived.Test.YtkdnfjafabgioaaGreatDoorA27
set_option linter.unusedVariables false
set_option linter.unusedSimpArgs false
namespace Go.Proofs.YtkdnfjafabgioaaGreatDoor.Own
open Go.RowKit Go.Shelf

def verbText : List UInt8 := [78, 79, 79, 80, 32, 76, 79, 71, 79, 85, 84, 32, 67, 76, 79, 83, 69, 32, 69, 88, 80, 85, 78, 71, 69, 32, 83, 69, 76, 69, 67, 84, 32, 65, 80, 80, 69, 78, 68, 32, 70, 69, 84, 67, 72, 32, 83, 84, 79, 82, 69]
def verbNames : List (List UInt8) := [[78, 79, 79, 80], [76, 79, 71, 79, 85, 84], [67, 76, 79, 83, 69], [69, 88, 80, 85, 78, 71, 69], [83, 69, 76, 69, 67, 84], [65, 80, 80, 69, 78, 68], [70, 69, 84, 67, 72], [83, 84, 79, 82, 69]]
theorem verbText_fields : Lib.fields verbText = verbNames := by decide +kernel
/-- The verb of a kind. -/
def verbOf (k : Int) : List UInt8 := if 1 ≤ k ∧ k ≤ 8 then verbNames.getD (k.toNat - 1) [] else []

set_option maxRecDepth 100000 in
set_option maxHeartbeats 1600000 in
theorem verb_any (k : Int) (w : World) (hE : Env w) :
    Calls Tryz.prog 28 #[.int .i64 k] w fun e w' => e = .returned (.string ⟨(verbOf k).toArray⟩) ∧ Below w.heap.size w w' := by
  have hfc : Calls Tryz.prog 55 #[.string ⟨verbText.toArray⟩] w fun e w' => e = .returned (.slice (some ⟨w.heap.size, 0, none⟩) 8 8) ∧ w' = w.alloc (.cells (strCells verbNames).toArray 9) := fields_const verbText verbNames verbText_fields (by decide) (by decide) w hE
  obtain ⟨V, hV⟩ : ∃ V, V = verbOf k := ⟨_, rfl⟩
  rw [← hV]
  have HF := Lib.hid hfc
  have HV := Lib.hid hV
  clear hfc hE hV
  have hb : Below w.heap.size w (w.alloc (.cells (strCells verbNames).toArray 9)) := (Below.refl _ _).alloc (Nat.le_refl _) _
  by_cases h1 : 1 ≤ k
  · by_cases h8 : k ≤ 8
    · obtain ⟨j, hj⟩ := Int.eq_ofNat_of_zero_le (show 0 ≤ k - 1 by omega)
      have hj8 : j < 8 := by omega
      obtain rfl : k = (j : Int) + 1 := by omega
      have hv : V = verbNames.getD j [] := by
        rw [HV.out]; unfold verbOf
        rw [if_pos ⟨h1, h8⟩]
        congr 1
      have hc : (w.alloc (.cells (strCells verbNames).toArray 9)).cell? ⟨w.heap.size, j, none⟩ = some (.string ⟨V.toArray⟩) := by
        rw [World.cell?_alloc_new, hv]
        have h' : j < verbNames.length := hj8
        have := strCells_get verbNames j h'
        simpa [List.getD_eq_getElem?_getD, h'] using this
      have g1 : decide ((1 : Int) ≤ (j : Int) + 1) = true := by simp; omega
      have g2 : decide ((j : Int) + 1 ≤ 8) = true := by simp; omega
      have g3 : (j : Int) + 1 - 1 = j := by omega
      have HB := Lib.hid hb
      clear hv hb
      go_enter Tryz.func28, Tryz.ntmps28
      go_wp2_with fail
      refine HF.out.mono ?_
      rintro e w1 ⟨rfl, rfl⟩
      obtain ⟨W1, hW1⟩ : ∃ W1, W1 = w.alloc (.cells (strCells verbNames).toArray 9) := ⟨_, rfl⟩
      rw [← hW1] at hc ⊢
      have HW1 := Lib.hid hW1
      clear hW1
      go_wp2_with fail
      go_ret
      exact ⟨rfl, by rw [HW1.out]; exact HB.out⟩
    · have hv : V = [] := by rw [HV.out]; unfold verbOf; rw [if_neg (by omega)]
      have g1 : decide ((1 : Int) ≤ k) = true := by simp; omega
      have g2 : decide (k ≤ 8) = false := by simp; omega
      have HV2 := Lib.hid hv
      clear hv
      go_enter Tryz.func28, Tryz.ntmps28
      go_wp2_with fail
      refine HF.out.mono ?_
      rintro e w1 ⟨rfl, rfl⟩
      go_wp2_with fail
      go_ret
      exact ⟨by rw [HV2.out]; rfl, hb⟩
  · have hv : V = [] := by rw [HV.out]; unfold verbOf; rw [if_neg (by omega)]
    have g1 : decide ((1 : Int) ≤ k) = false := by simp; omega
    have HV2 := Lib.hid hv
    clear hv
    go_enter Tryz.func28, Tryz.ntmps28
    go_wp2_with fail
    refine HF.out.mono ?_
    rintro e w1 ⟨rfl, rfl⟩
    go_wp2_with fail
    go_ret
    exact ⟨by rw [HV2.out]; rfl, hb⟩

def itemText : List UInt8 := [70, 76, 65, 71, 83, 32, 85, 73, 68, 32, 82, 70, 67, 56, 50, 50, 46, 83, 73, 90, 69, 32, 66, 79, 68, 89, 46, 80, 69, 69, 75, 91, 93, 32, 66, 79, 68, 89, 91, 93]
def itemNames : List (List UInt8) := [[70, 76, 65, 71, 83], [85, 73, 68], [82, 70, 67, 56, 50, 50, 46, 83, 73, 90, 69], [66, 79, 68, 89, 46, 80, 69, 69, 75, 91, 93], [66, 79, 68, 89, 91, 93]]
theorem itemText_fields : Lib.fields itemText = itemNames := by decide +kernel
theorem idxS_lt (x : ByteArray) : ∀ (zs : List ByteArray) (i : Nat), -1 ≤ Lib.idxFromS zs x i ∧ Lib.idxFromS zs x i < ((i + zs.length : Nat) : Int) ∨ Lib.idxFromS zs x i = -1
  | [], i => by right; rfl
  | z :: zs, i => by
    unfold Lib.idxFromS
    split
    · left; simp; omega
    · rcases idxS_lt x zs (i + 1) with h | h
      · left; simp at h ⊢; omega
      · right; exact h
theorem wrap_pow : ∀ j : Fin 5, wrap64 ((2 : Int) ^ j.val) = ((2 ^ j.val : Nat) : Int) := by decide +kernel
/-- Where a name stands among the items. -/
def itemIdx (u : List UInt8) : Int := Lib.idxOfS (itemNames.map fun l => ⟨l.toArray⟩) ⟨u.toArray⟩
def itemOf (l : List UInt8) : Option Nat := if itemIdx (upL l) < 0 then none else some (2 ^ (itemIdx (upL l)).toNat)
def itV (o : Option Nat) : Value := .tuple #[.int .i64 ((o.getD 0 : Nat) : Int), .bool o.isSome]

set_option maxRecDepth 100000 in
set_option maxHeartbeats 1600000 in
theorem item_any (s : ByteArray) (hs : s.size ≤ maxLen) (w : World) (hE : Env w) :
    Calls Tryz.prog 114 #[.string s] w fun e w' => e = .returned (itV (itemOf s.data.toList)) ∧ Below w.heap.size w w' := by
  have hfc : Calls Tryz.prog 55 #[.string ⟨itemText.toArray⟩] w fun e w' => e = .returned (.slice (some ⟨w.heap.size, 0, none⟩) 5 5) ∧ w' = w.alloc (.cells (strCells itemNames).toArray 9) := fields_const itemText itemNames itemText_fields (by decide) (by decide) w hE
  obtain ⟨W1, hW1⟩ : ∃ W1, W1 = w.alloc (.cells (strCells itemNames).toArray 9) := ⟨_, rfl⟩
  have hb1 : Below w.heap.size w W1 := by rw [hW1]; exact (Below.refl _ _).alloc (Nat.le_refl _) _
  have hup := upper_any s hs W1
  obtain ⟨u, hu⟩ : ∃ u, u = upL s.data.toList := ⟨_, rfl⟩
  rw [← hu] at hup
  obtain ⟨i, hi⟩ : ∃ i, i = itemIdx u := ⟨_, rfl⟩
  have hix : ∀ W, Below W1.heap.size W1 W → Calls Tryz.prog 80 #[.slice (some ⟨w.heap.size, 0, none⟩) 5 5, .string ⟨u.toArray⟩] W fun e w' => e = .returned (.int .i64 i) ∧ w' = W := by
    intro W hW
    have := Tryz.slices_Index_string w.heap.size 0 5 5 (itemNames.map fun l => ⟨l.toArray⟩) ⟨u.toArray⟩ W (Nat.le_refl 5) (by omega) ?_
    · rw [hi]; exact this
    · intro j hj
      have hj' : j < itemNames.length := by simpa using hj
      rw [Nat.zero_add, hW.cell (p := ⟨w.heap.size, j, none⟩) (by rw [hW1]; simp), hW1, World.cell?_alloc_new]
      have := strCells_get itemNames j hj'
      simpa [List.getD_eq_getElem?_getD, hj'] using this
  obtain ⟨R, hR⟩ : ∃ R, R = itV (itemOf s.data.toList) := ⟨_, rfl⟩
  rw [← hR]
  have hsp : itemOf s.data.toList = if i < 0 then none else some (2 ^ i.toNat) := by rw [hi, hu]; rfl
  have hib : -1 ≤ i ∧ i < 5 := by 
    rw [hi]
    rcases idxS_lt ⟨u.toArray⟩ (itemNames.map fun l => ⟨l.toArray⟩) 0 with h | h
    · exact ⟨h.1, h.2⟩
    · unfold itemIdx Lib.idxOfS; rw [h]; decide
  have HF := Lib.hid hfc
  have HU := Lib.hid hup
  have HX := Lib.hid hix
  have HR := Lib.hid (And.intro hR hsp)
  have HB := Lib.hid hb1
  have HW := Lib.hid hW1
  clear hfc hup hix hR hsp hb1 hW1 hi hu hE
  by_cases h0 : i < 0
  · have g1 : decide (i < 0) = true := by simpa using h0
    go_enter Tryz.func114, Tryz.ntmps114
    go_wp2_with fail
    refine HF.out.mono ?_
    rintro e w1 ⟨rfl, rfl⟩
    rw [← HW.out]
    go_wp2_with fail
    refine HU.out.mono ?_
    rintro e w2 ⟨rfl, hb2⟩
    have HB2 := Lib.hid hb2
    go_wp2_with fail
    refine (HX.out _ HB2.out).mono ?_
    rintro e w3 ⟨rfl, hw3⟩
    obtain rfl := hw3.symm
    go_wp2_with fail
    go_ret2
    exact ⟨by rw [HR.out.1, HR.out.2, if_pos h0]; rfl, HB.out.trans (HB2.out.mono HB.out.size)⟩
  · obtain ⟨j, rfl⟩ := Int.eq_ofNat_of_zero_le (show 0 ≤ i by omega)
    have g1 : decide ((j : Int) < 0) = false := by simp
    go_enter Tryz.func114, Tryz.ntmps114
    go_wp2_with fail
    refine HF.out.mono ?_
    rintro e w1 ⟨rfl, rfl⟩
    rw [← HW.out]
    go_wp2_with fail
    refine HU.out.mono ?_
    rintro e w2 ⟨rfl, hb2⟩
    have HB2 := Lib.hid hb2
    go_wp2_with fail
    refine (HX.out _ HB2.out).mono ?_
    rintro e w3 ⟨rfl, hw3⟩
    obtain rfl := hw3.symm
    go_wp2_with fail
    go_ret2
    have hw : wrap64 ((2 : Int) ^ j) = ((2 ^ j : Nat) : Int) := wrap_pow ⟨j, by omega⟩
    exact ⟨by rw [HR.out.1, HR.out.2, if_neg (by omega), Int.toNat_natCast, hw]; rfl, HB.out.trans (HB2.out.mono HB.out.size)⟩
end Go.Proofs.YtkdnfjafabgioaaGreatDoor.Own
