import Derived.Test.YtkdnfjafabgioaaGreatDoorA32
set_option linter.unusedVariables false
set_option linter.unusedSimpArgs false
namespace Go.Proofs.YtkdnfjafabgioaaGreatDoor.Own
open Go.RowKit Go.Shelf

def itemNm (i : Nat) : List UInt8 := itemNames.getD i []
theorem itemOf_nm : ∀ k : Fin 5, itemOf (itemNm k.val) = some (2 ^ k.val) := by decide +kernel
theorem itemNm_len : ∀ k : Fin 5, (itemNm k.val).length ≤ 20 := by decide
theorem and_itemF : ∀ (f : Fin 32) (k : Fin 5), bits BinOp.and .i64 (f.val : Int) ((2 ^ k.val : Nat) : Int) = if f.val.testBit k.val then ((2 ^ k.val : Nat) : Int) else 0 := by decide +kernel
theorem itemJoin_len : ∀ f : Fin 32, (Lib.join ((bitsTo f.val 5).map itemNm) [32]).length ≤ 100 := by decide +kernel
/-- Items as they are written. -/
def itemsOf (n : Nat) : List UInt8 := 40 :: (Lib.join ((bitsTo n 5).map itemNm) [32] ++ [41])

set_option maxRecDepth 100000 in
set_option maxHeartbeats 1600000 in
theorem items_any (n : Nat) (hn : n < 32) (w : World) (hE : Env w) :
    Calls Tryz.prog 63 #[.int .i64 (n : Int)] w fun e w' => e = .returned (.string ⟨(itemsOf n).toArray⟩) ∧ Below w.heap.size w w' := by
  obtain ⟨i0, hi, hz0, hz1, hz2⟩ := info_parts info9
  have hjl : (Lib.join ((bitsTo n 5).map itemNm) [32]).length ≤ 100 := itemJoin_len ⟨n, hn⟩
  obtain ⟨R, hR⟩ : ∃ R, R = itemsOf n := ⟨_, rfl⟩
  rw [← hR]
  obtain ⟨W1, hW1⟩ : ∃ W1, W1 = w.alloc (.cells (strCells itemNames).toArray 9) := ⟨_, rfl⟩
  have hb1 : Below w.heap.size w W1 := by rw [hW1]; exact (Below.refl _ _).alloc (Nat.le_refl _) _
  have hz1' : W1.heap.size = w.heap.size + 1 := by rw [hW1]; simp
  have hc1 : ∀ k, k < 5 → W1.cell? ⟨w.heap.size, k, none⟩ = some (.string ⟨(itemNm k).toArray⟩) := by
    intro k h
    rw [hW1, World.cell?_alloc_new]
    have h' : k < itemNames.length := h
    have := strCells_get itemNames k h'
    simpa [itemNm, List.getD_eq_getElem?_getD, h'] using this
  have HE := Lib.hid hE
  have HR := Lib.hid hR
  have HJL := Lib.hid hjl
  have HW := Lib.hid (And.intro hW1 (And.intro hb1 (And.intro hz1' hc1)))
  clear hE hR hjl hW1 hc1 hz1'
  go_enter Tryz.func63, Tryz.ntmps63
  go_wp2_with fail
  rw [show w.alloc (.cells #[.string ⟨#[70, 76, 65, 71, 83]⟩, .string ⟨#[85, 73, 68]⟩, .string ⟨#[82, 70, 67, 56, 50, 50, 46, 83, 73, 90, 69]⟩, .string ⟨#[66, 79, 68, 89, 46, 80, 69, 69, 75, 91, 93]⟩, .string ⟨#[66, 79, 68, 89, 91, 93]⟩] 9) = W1 from HW.out.1.symm]
  go_loopw [3, 10] (fun v i wr => ∃ k : Nat, k ≤ 5 ∧ i = .int .i64 k ∧ wr.ownsRow W1.heap.size 9 1 v (bitsTo n k).length (strCells ((bitsTo n k).map itemNm)) ∧ Below W1.heap.size W1 wr)
    (fun _ i _ => 5 - (intOf i).toNat)
  case atStart => exact ⟨0, by omega, rfl, World.ownsRow_nil _ _ _ _, Below.refl _ _⟩
  case round =>
    obtain ⟨k, hk, rfl, hown, hb⟩ := hrel
    have hsz := hb.size
    have hbl := bitsTo_len n k
    by_cases hlt : k < 5
    · have hc : wr.cell? ⟨w.heap.size, k, none⟩ = some (.string ⟨(itemNm k).toArray⟩) := (hb.cell (p := ⟨w.heap.size, k, none⟩) (by rw [HW.out.2.2.1]; simp)).trans (HW.out.2.2.2 k hlt)
      have hit := item_any ⟨(itemNm k).toArray⟩ (by rw [bsz]; have := itemNm_len ⟨k, hlt⟩; unfold maxLen; simp only at this; omega) wr (HE.out.below (hb1.trans (hb.mono hb1.size)))
      rw [show (⟨(itemNm k).toArray⟩ : ByteArray).data.toList = itemNm k from rfl, itemOf_nm ⟨k, hlt⟩] at hit
      have hand := and_itemF ⟨n, hn⟩ ⟨k, hlt⟩
      simp only at hand hit
      obtain ⟨X, hX⟩ : ∃ X : Int, X = ((2 ^ k : Nat) : Int) := ⟨_, rfl⟩
      have hX0 : (X == 0) = false := by
        rw [beq_eq_false_iff_ne, hX]
        have : 0 < 2 ^ k := Nat.two_pow_pos k
        omega
      unfold itV at hit
      simp only [Option.getD_some, Option.isSome_some] at hit
      rw [← hX] at hit hand
      obtain ⟨nm, hnm⟩ : ∃ nm, nm = itemNm k := ⟨_, rfl⟩
      rw [← hnm] at hc hit
      have hsc := bitsTo_succ n k
      have HI := Lib.hid hit
      have HO := Lib.hid hown
      have HN := Lib.hid hnm
      clear hX hit hown hnm
      by_cases ht : n.testBit k = true
      · rw [if_pos ht] at hand hsc
        have HS := Lib.hid hsc
        clear hsc ht
        go_wp2_with fail
        refine HI.out.mono ?_
        rintro e w2 ⟨rfl, hb2⟩
        have hb3 : Below W1.heap.size W1 w2 := hb.trans (hb2.mono hsz)
        have hsz3 := hb3.size
        have hown3 : w2.ownsRow W1.heap.size 9 1 u3 (bitsTo n k).length (strCells ((bitsTo n k).map itemNm)) := HO.out.kept (below_grown hb2 none) (by cases u3.ownBlock <;> simp)
        have HO3 := Lib.hid hown3
        clear hown3 hb2
        go_wp2_with (at_builtin; refine wpList_append_own _ rfl _ _ 50 rfl W1.heap.size 9 i0 (.string ⟨#[]⟩) 1 16 Tryz.underlying50 hi hz0 hz1 hz2 rfl (by decide) _ _ _ rfl (HO3.out.alloc _) ⟨w2.heap.size, 0, none⟩ 1 1 [.string ⟨nm.toArray⟩] rfl rfl (new_cells w2 [.string ⟨nm.toArray⟩] 9) (by simp [Value.oneCell']) (by unfold maxLen; omega) (by omega) (by simp; omega) ?_)
        intro v' w5 hown5 hgrow _
        have hb8 : Below W1.heap.size W1 w5 := (hb3.alloc hb3.size _).grown hgrow (by simp; omega) (by intro kk e; exact own_base HO3.out kk e)
        have hown6 : w5.ownsRow W1.heap.size 9 1 v' (bitsTo n (k + 1)).length (strCells ((bitsTo n (k + 1)).map itemNm)) := by
          rw [HS.out, List.map_append, List.map_singleton, strCells_snoc, List.length_append, ← HN.out]
          exact hown5
        have HO5 := Lib.hid hown6
        clear hown5 hown6 hgrow
        go_wp2_with fail
        go_roundw
        case rel => exact ⟨k + 1, by omega, by go_num, HO5.out, hb8⟩
        case measure => simp [intOf]; omega
      · rw [if_neg ht] at hand hsc
        have HS := Lib.hid hsc
        clear hsc ht
        go_wp2_with fail
        refine HI.out.mono ?_
        rintro e w2 ⟨rfl, hb2⟩
        have hb3 : Below W1.heap.size W1 w2 := hb.trans (hb2.mono hsz)
        have hown3 : w2.ownsRow W1.heap.size 9 1 u3 (bitsTo n (k + 1)).length (strCells ((bitsTo n (k + 1)).map itemNm)) := by
          rw [HS.out]; exact HO.out.kept (below_grown hb2 none) (by cases u3.ownBlock <;> simp)
        have HO3 := Lib.hid hown3
        clear hown3 hb2
        go_wp2_with fail
        go_roundw
        case rel => exact ⟨k + 1, by omega, by go_num, HO3.out, hb3⟩
        case measure => simp [intOf]; omega
    · obtain rfl : k = 5 := by omega
      obtain ⟨A', c', hv, h1, h2, h3⟩ := own_cells hown
      subst hv
      have hj := join_any A' c' ((bitsTo n 5).map itemNm) [32] wr (h3.mono (Nat.zero_le _)) (by simpa using h1) (by simp; omega) (by have := HJL.out; omega)
      rw [List.length_map] at hj
      have HJ := Lib.hid hj
      have hjl := HJL.out
      clear hj hown h3
      go_wp2_with (go_at_call 31; refine HJ.out.mono ?_; rintro e w2 ⟨rfl, hb2⟩)

      go_ret
      exact ⟨by rw [HR.out]; rfl, hb1.trans ((hb.mono hb1.size).trans (hb2.mono (Nat.le_trans hb1.size hsz)))⟩
end Go.Proofs.YtkdnfjafabgioaaGreatDoor.Own
