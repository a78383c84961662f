import Derived.Test.YtkdnfjafabgioaaGreatDoorA07
set_option linter.unusedVariables false
set_option linter.unusedSimpArgs false
namespace Go.Proofs.YtkdnfjafabgioaaGreatDoor.Own
open Go.RowKit Go.Shelf

/-! strings.Fields at a constant. -/
theorem fields_const (bs : List UInt8) (ws : List (List UInt8)) (hf : Lib.fields bs = ws) (ha : bs.all (fun b => decide (b.toNat < 128)) = true) (hn : bs.length < 4294967281) (w : World) (hE : Env w) :
    Calls Tryz.prog 55 #[.string ⟨bs.toArray⟩] w fun e w' => e = .returned (.slice (some ⟨w.heap.size, 0, none⟩) ws.length ws.length) ∧ w' = w.alloc (.cells (strCells ws).toArray 9) := by
  have h := Tryz.strings_Fields_laid ⟨bs.toArray⟩ w (by rw [bsz]; exact hn) (fun j b hb => by
    have h1 := List.all_eq_true.1 ha b (List.mem_of_getElem? hb)
    simpa using h1) hE.asp
  rw [show (⟨bs.toArray⟩ : ByteArray).data.toList = bs from rfl, hf] at h
  exact h

def nmAnswered : List UInt8 := [92, 65, 110, 115, 119, 101, 114, 101, 100]
def nmFlagged : List UInt8 := [92, 70, 108, 97, 103, 103, 101, 100]
def nmDeleted : List UInt8 := [92, 68, 101, 108, 101, 116, 101, 100]
def nmSeen : List UInt8 := [92, 83, 101, 101, 110]
def nmDraft : List UInt8 := [92, 68, 114, 97, 102, 116]
def flagNames : List (List UInt8) := [nmAnswered, nmFlagged, nmDeleted, nmSeen, nmDraft]
def flagNm (i : Nat) : List UInt8 := flagNames.getD i []
def flagText : List UInt8 := [92, 65, 110, 115, 119, 101, 114, 101, 100, 32, 92, 70, 108, 97, 103, 103, 101, 100, 32, 92, 68, 101, 108, 101, 116, 101, 100, 32, 92, 83, 101, 101, 110, 32, 92, 68, 114, 97, 102, 116]
theorem flagText_fields : Lib.fields flagText = flagNames := by decide +kernel

theorem strCells_get (l : List (List UInt8)) (k : Nat) (h : k < l.length) : (strCells l)[k]? = some (.string ⟨l[k].toArray⟩) := by simp [strCells, h]

set_option maxRecDepth 100000 in
set_option maxHeartbeats 1600000 in
theorem name_any (i : Nat) (hi : i < 5) (w : World) (hE : Env w) :
    Calls Tryz.prog 111 #[.int .u8 ((2 ^ i : Nat) : Int)] w fun e w' => e = .returned (.string ⟨(flagNm i).toArray⟩) ∧ Below w.heap.size w w' := by
  have hfc := fields_const flagText flagNames flagText_fields (by decide) (by decide) w hE
  have HF := Lib.hid hfc
  clear hfc hE
  obtain ⟨F, hF⟩ : ∃ F : Int, F = ((2 ^ i : Nat) : Int) := ⟨_, rfl⟩
  rw [← hF]
  have HH := Lib.hid hF
  clear hF
  go_enter Tryz.func111, Tryz.ntmps111
  go_wp2_with fail
  refine HF.out.mono ?_
  rintro e w1 ⟨rfl, rfl⟩
  obtain ⟨W1, hW1⟩ : ∃ W1, W1 = w.alloc (.cells (strCells flagNames).toArray 9) := ⟨_, rfl⟩
  have hc : ∀ k, k < 5 → W1.cell? ⟨w.heap.size, k, none⟩ = some (.string ⟨(flagNm k).toArray⟩) := by
    intro k h
    rw [hW1, World.cell?_alloc_new]
    have h' : k < flagNames.length := h
    have := strCells_get flagNames k h'
    simpa [flagNm, List.getD_eq_getElem?_getD, h'] using this
  have hb : Below w.heap.size w W1 := by rw [hW1]; exact (Below.refl _ _).alloc (Nat.le_refl _) _
  rw [← hW1]
  clear hW1
  have HC := Lib.hid hc
  clear hc
  go_wp2_with fail
  go_loop [7] (fun t => ∃ k : Nat, k ≤ i ∧ t = .int .i64 k) (fun t => 5 - (intOf t).toNat)
  case atStart => exact ⟨0, by omega, rfl⟩
  case round =>
    obtain ⟨k, hk, rfl⟩ := hrel
    have hck := HC.out k (by omega)
    have hk5 : k = 0 ∨ k = 1 ∨ k = 2 ∨ k = 3 ∨ k = 4 := by omega
    by_cases hlt : k = i
    · subst hlt
      clear hk
      rcases hk5 with rfl | rfl | rfl | rfl | rfl
      all_goals
        have hF2 := HH.out
        simp at hF2
        subst hF2
        go_wp2_with fail
        go_ret
        exact ⟨rfl, hb⟩
    · have hi5 : i = 1 ∨ i = 2 ∨ i = 3 ∨ i = 4 := by omega
      clear hi
      rcases hi5 with rfl | rfl | rfl | rfl
      all_goals
        have hF2 := HH.out
        simp at hF2
        subst hF2
        rcases hk5 with rfl | rfl | rfl | rfl | rfl
        all_goals first | (exfalso; omega) | skip
        all_goals
          go_wp2_with fail
          go_round
          case rel => first | exact ⟨1, by omega, rfl⟩ | exact ⟨2, by omega, rfl⟩ | exact ⟨3, by omega, rfl⟩ | exact ⟨4, by omega, rfl⟩
          case measure => simp [intOf]

theorem info23 : (Tryz.prog.info? 23).map (fun i => (i.zero, i.size, i.bytes)) = some (some (.int .u8 0), 1, 1) := by kernel_rfl
/-- The flags of a set, by their places. -/
def flagBits (f : Nat) : List Nat := (List.range 5).filter fun i => f.testBit i
def bitsTo (f k : Nat) : List Nat := (List.range k).filter fun i => f.testBit i
theorem bitsTo_succ (f k : Nat) : bitsTo f (k + 1) = if f.testBit k then bitsTo f k ++ [k] else bitsTo f k := by
  unfold bitsTo
  rw [List.range_succ, List.filter_append]
  by_cases h : f.testBit k <;> simp [h]
theorem bitsTo_len (f k : Nat) : (bitsTo f k).length ≤ k := by
  have := List.length_filter_le (fun i => f.testBit i) (List.range k)
  simpa [bitsTo] using this
def flagCells (l : List Nat) : List Value := l.map fun i => .int .u8 ((2 ^ i : Nat) : Int)
theorem flagCells_snoc (l : List Nat) (x : Nat) : flagCells (l ++ [x]) = flagCells l ++ [.int .u8 ((2 ^ x : Nat) : Int)] := by simp [flagCells]
theorem and_bit : ∀ (f : Fin 32) (k : Fin 5), bits BinOp.and .u8 (f.val : Int) ((2 ^ k.val : Nat) : Int) = if f.val.testBit k.val then ((2 ^ k.val : Nat) : Int) else 0 := by decide +kernel
theorem bit_and (f k : Nat) (hf : f < 32) (hk : k < 5) : bits BinOp.and .u8 (f : Int) ((2 ^ k : Nat) : Int) = if f.testBit k then ((2 ^ k : Nat) : Int) else 0 := and_bit ⟨f, hf⟩ ⟨k, hk⟩

set_option maxRecDepth 100000 in
set_option maxHeartbeats 1600000 in
theorem each_any (f : Nat) (hf : f < 32) (w : World) :
    Calls Tryz.prog 110 #[.int .u8 f] w fun e w' => ∃ v, e = .returned v ∧ w'.ownsRow w.heap.size 23 1 v (flagBits f).length (flagCells (flagBits f)) ∧ Below w.heap.size w w' := by
  obtain ⟨i0, hi, hz0, hz1, hz2⟩ := info_parts info23
  go_enter Tryz.func110, Tryz.ntmps110
  go_wp2_with fail
  go_loopw [3, 6] (fun v i wr => ∃ k : Nat, k ≤ 5 ∧ i = .int .i64 k ∧ wr.ownsRow w.heap.size 23 1 v (bitsTo f k).length (flagCells (bitsTo f k)) ∧ Below w.heap.size w wr)
    (fun _ i _ => 5 - (intOf i).toNat)
  case atStart => exact ⟨0, by omega, rfl, World.ownsRow_nil _ _ _ _, Below.refl _ _⟩
  case round =>
    obtain ⟨k, hk, rfl, hown, hb⟩ := hrel
    have HO := Lib.hid hown
    clear hown
    by_cases hlt : k < 5
    · have hbl := bitsTo_len f k
      have hsz := hb.size
      have hk5 : k = 0 ∨ k = 1 ∨ k = 2 ∨ k = 3 ∨ k = 4 := by omega
      clear hk hlt
      rcases hk5 with rfl | rfl | rfl | rfl | rfl
      · have hbs := bitsTo_succ f 0
        by_cases ht : f.testBit 0 = true
        · have hba : bits BinOp.and .u8 (f : Int) 1 = 1 := by have := bit_and f 0 hf (by decide); rw [if_pos ht] at this; exact this
          rw [if_pos ht] at hbs
          have HS := Lib.hid hbs
          clear hbs ht
          go_wp2_with (at_builtin; refine wpList_append_own _ rfl _ _ 152 rfl w.heap.size 23 i0 (.int .u8 0) 1 1 Tryz.underlying152 hi hz0 hz1 hz2 rfl (by decide) _ _ _ rfl (HO.out.alloc _) ⟨wr.heap.size, 0, none⟩ 1 1 [.int .u8 1] rfl rfl (new_cells wr [.int .u8 1] 23) (by simp [Value.oneCell']) (by unfold maxLen; omega) (by omega) (by simp; omega) ?_)
          intro v' w5 hown5 hgrow _
          have hb8 : Below w.heap.size w w5 := (hb.alloc hb.size _).grown hgrow (by simp; omega) (by intro kk e; exact own_base HO.out kk e)
          have hown6 : w5.ownsRow w.heap.size 23 1 v' (bitsTo f 1).length (flagCells (bitsTo f 1)) := by
            rw [HS.out, flagCells_snoc, List.length_append]
            exact hown5
          have HO6 := Lib.hid hown6
          clear hown5 hown6 hgrow
          go_wp2_with fail
          go_roundw
          case rel => exact ⟨1, by omega, rfl, HO6.out, hb8⟩
          case measure => simp [intOf]
        · have hba : bits BinOp.and .u8 (f : Int) 1 = 0 := by have := bit_and f 0 hf (by decide); rw [if_neg ht] at this; exact this
          rw [if_neg ht] at hbs
          have HS := Lib.hid hbs
          clear hbs ht
          go_wp2_with fail
          go_roundw
          case rel => exact ⟨1, by omega, rfl, by rw [HS.out]; exact HO.out, hb⟩
          case measure => simp [intOf]
      · have hbs := bitsTo_succ f 1
        by_cases ht : f.testBit 1 = true
        · have hba : bits BinOp.and .u8 (f : Int) 2 = 2 := by have := bit_and f 1 hf (by decide); rw [if_pos ht] at this; exact this
          rw [if_pos ht] at hbs
          have HS := Lib.hid hbs
          clear hbs ht
          go_wp2_with (at_builtin; refine wpList_append_own _ rfl _ _ 152 rfl w.heap.size 23 i0 (.int .u8 0) 1 1 Tryz.underlying152 hi hz0 hz1 hz2 rfl (by decide) _ _ _ rfl (HO.out.alloc _) ⟨wr.heap.size, 0, none⟩ 1 1 [.int .u8 2] rfl rfl (new_cells wr [.int .u8 2] 23) (by simp [Value.oneCell']) (by unfold maxLen; omega) (by omega) (by simp; omega) ?_)
          intro v' w5 hown5 hgrow _
          have hb8 : Below w.heap.size w w5 := (hb.alloc hb.size _).grown hgrow (by simp; omega) (by intro kk e; exact own_base HO.out kk e)
          have hown6 : w5.ownsRow w.heap.size 23 1 v' (bitsTo f 2).length (flagCells (bitsTo f 2)) := by
            rw [HS.out, flagCells_snoc, List.length_append]
            exact hown5
          have HO6 := Lib.hid hown6
          clear hown5 hown6 hgrow
          go_wp2_with fail
          go_roundw
          case rel => exact ⟨2, by omega, rfl, HO6.out, hb8⟩
          case measure => simp [intOf]
        · have hba : bits BinOp.and .u8 (f : Int) 2 = 0 := by have := bit_and f 1 hf (by decide); rw [if_neg ht] at this; exact this
          rw [if_neg ht] at hbs
          have HS := Lib.hid hbs
          clear hbs ht
          go_wp2_with fail
          go_roundw
          case rel => exact ⟨2, by omega, rfl, by rw [HS.out]; exact HO.out, hb⟩
          case measure => simp [intOf]
      · have hbs := bitsTo_succ f 2
        by_cases ht : f.testBit 2 = true
        · have hba : bits BinOp.and .u8 (f : Int) 4 = 4 := by have := bit_and f 2 hf (by decide); rw [if_pos ht] at this; exact this
          rw [if_pos ht] at hbs
          have HS := Lib.hid hbs
          clear hbs ht
          go_wp2_with (at_builtin; refine wpList_append_own _ rfl _ _ 152 rfl w.heap.size 23 i0 (.int .u8 0) 1 1 Tryz.underlying152 hi hz0 hz1 hz2 rfl (by decide) _ _ _ rfl (HO.out.alloc _) ⟨wr.heap.size, 0, none⟩ 1 1 [.int .u8 4] rfl rfl (new_cells wr [.int .u8 4] 23) (by simp [Value.oneCell']) (by unfold maxLen; omega) (by omega) (by simp; omega) ?_)
          intro v' w5 hown5 hgrow _
          have hb8 : Below w.heap.size w w5 := (hb.alloc hb.size _).grown hgrow (by simp; omega) (by intro kk e; exact own_base HO.out kk e)
          have hown6 : w5.ownsRow w.heap.size 23 1 v' (bitsTo f 3).length (flagCells (bitsTo f 3)) := by
            rw [HS.out, flagCells_snoc, List.length_append]
            exact hown5
          have HO6 := Lib.hid hown6
          clear hown5 hown6 hgrow
          go_wp2_with fail
          go_roundw
          case rel => exact ⟨3, by omega, rfl, HO6.out, hb8⟩
          case measure => simp [intOf]
        · have hba : bits BinOp.and .u8 (f : Int) 4 = 0 := by have := bit_and f 2 hf (by decide); rw [if_neg ht] at this; exact this
          rw [if_neg ht] at hbs
          have HS := Lib.hid hbs
          clear hbs ht
          go_wp2_with fail
          go_roundw
          case rel => exact ⟨3, by omega, rfl, by rw [HS.out]; exact HO.out, hb⟩
          case measure => simp [intOf]
      · have hbs := bitsTo_succ f 3
        by_cases ht : f.testBit 3 = true
        · have hba : bits BinOp.and .u8 (f : Int) 8 = 8 := by have := bit_and f 3 hf (by decide); rw [if_pos ht] at this; exact this
          rw [if_pos ht] at hbs
          have HS := Lib.hid hbs
          clear hbs ht
          go_wp2_with (at_builtin; refine wpList_append_own _ rfl _ _ 152 rfl w.heap.size 23 i0 (.int .u8 0) 1 1 Tryz.underlying152 hi hz0 hz1 hz2 rfl (by decide) _ _ _ rfl (HO.out.alloc _) ⟨wr.heap.size, 0, none⟩ 1 1 [.int .u8 8] rfl rfl (new_cells wr [.int .u8 8] 23) (by simp [Value.oneCell']) (by unfold maxLen; omega) (by omega) (by simp; omega) ?_)
          intro v' w5 hown5 hgrow _
          have hb8 : Below w.heap.size w w5 := (hb.alloc hb.size _).grown hgrow (by simp; omega) (by intro kk e; exact own_base HO.out kk e)
          have hown6 : w5.ownsRow w.heap.size 23 1 v' (bitsTo f 4).length (flagCells (bitsTo f 4)) := by
            rw [HS.out, flagCells_snoc, List.length_append]
            exact hown5
          have HO6 := Lib.hid hown6
          clear hown5 hown6 hgrow
          go_wp2_with fail
          go_roundw
          case rel => exact ⟨4, by omega, rfl, HO6.out, hb8⟩
          case measure => simp [intOf]
        · have hba : bits BinOp.and .u8 (f : Int) 8 = 0 := by have := bit_and f 3 hf (by decide); rw [if_neg ht] at this; exact this
          rw [if_neg ht] at hbs
          have HS := Lib.hid hbs
          clear hbs ht
          go_wp2_with fail
          go_roundw
          case rel => exact ⟨4, by omega, rfl, by rw [HS.out]; exact HO.out, hb⟩
          case measure => simp [intOf]
      · have hbs := bitsTo_succ f 4
        by_cases ht : f.testBit 4 = true
        · have hba : bits BinOp.and .u8 (f : Int) 16 = 16 := by have := bit_and f 4 hf (by decide); rw [if_pos ht] at this; exact this
          rw [if_pos ht] at hbs
          have HS := Lib.hid hbs
          clear hbs ht
          go_wp2_with (at_builtin; refine wpList_append_own _ rfl _ _ 152 rfl w.heap.size 23 i0 (.int .u8 0) 1 1 Tryz.underlying152 hi hz0 hz1 hz2 rfl (by decide) _ _ _ rfl (HO.out.alloc _) ⟨wr.heap.size, 0, none⟩ 1 1 [.int .u8 16] rfl rfl (new_cells wr [.int .u8 16] 23) (by simp [Value.oneCell']) (by unfold maxLen; omega) (by omega) (by simp; omega) ?_)
          intro v' w5 hown5 hgrow _
          have hb8 : Below w.heap.size w w5 := (hb.alloc hb.size _).grown hgrow (by simp; omega) (by intro kk e; exact own_base HO.out kk e)
          have hown6 : w5.ownsRow w.heap.size 23 1 v' (bitsTo f 5).length (flagCells (bitsTo f 5)) := by
            rw [HS.out, flagCells_snoc, List.length_append]
            exact hown5
          have HO6 := Lib.hid hown6
          clear hown5 hown6 hgrow
          go_wp2_with fail
          go_roundw
          case rel => exact ⟨5, by omega, rfl, HO6.out, hb8⟩
          case measure => simp [intOf]
        · have hba : bits BinOp.and .u8 (f : Int) 16 = 0 := by have := bit_and f 4 hf (by decide); rw [if_neg ht] at this; exact this
          rw [if_neg ht] at hbs
          have HS := Lib.hid hbs
          clear hbs ht
          go_wp2_with fail
          go_roundw
          case rel => exact ⟨5, by omega, rfl, by rw [HS.out]; exact HO.out, hb⟩
          case measure => simp [intOf]
    · obtain rfl : k = 5 := by omega
      clear hk hlt
      go_wp2_with fail
      go_ret
      exact ⟨_, rfl, HO.out, hb⟩
end Go.Proofs.YtkdnfjafabgioaaGreatDoor.Own
