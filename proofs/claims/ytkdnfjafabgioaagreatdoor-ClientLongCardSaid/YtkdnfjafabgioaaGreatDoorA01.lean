import Derived.Test.YtkdnfjafabgioaaGreatDoorProg
import Derived.WalkKit
import Derived.WalkSpells
import Derived.WalkLawsBesides
import Derived.RegionTactic
import Derived.BigRegion
import Derived.ChangeAlike
import Derived.LoopTactic
import Derived.Lib.Hide
namespace Go.Proofs.YtkdnfjafabgioaaGreatDoor.Own
open Go.RowKit

set_option maxHeartbeats 1600000 in
theorem add_any (b : Nat) (x c : Int) (hc : c = 40 ∨ c = 41 ∨ c = 123 ∨ c = 37 ∨ c = 42 ∨ c = 34 ∨ c = 92 ∨ c = 93) (w : World) (h0 : w.cell? ⟨b, (c / 64).toNat, none⟩ = some (.int .u64 x)) (hf : w.frozen? ⟨b, (c / 64).toNat, none⟩ = false) :
    Calls Tryz.prog 155 #[.pointer (some ⟨b, 0, none⟩), .int .u8 c] w fun e w' => e = .returned (.tuple #[]) ∧ w' = (w.setCell ⟨b, (c / 64).toNat, none⟩ (.int .u64 (bits BinOp.or .u64 x ((2 : Int) ^ (c % 64).toNat)))).drew := by
  rcases hc with rfl | rfl | rfl | rfl | rfl | rfl | rfl | rfl
  all_goals
    simp at h0 hf
    go_enter Tryz.func155, Tryz.ntmps155
    go_wp2
    go_region
    go_wp2
    go_end0
    exact ⟨rfl, rfl⟩


def T0 : Nat → Int
  | 0 => 0
  | 1 => 1099511627776
  | 2 => 3298534883328
  | 3 => 3298534883328
  | 4 => 3435973836800
  | 5 => 7834020347904
  | _ => 7851200217088
def T1 : Nat → Int
  | 0 => 0
  | 1 => 0
  | 2 => 0
  | 3 => 576460752303423488
  | 4 => 576460752303423488
  | 5 => 576460752303423488
  | 6 => 576460752303423488
  | 7 => 576460752571858944
  | _ => 576460753108729856



set_option maxHeartbeats 1600000 in
theorem has_any (x y c : Int) (h0 : 0 ≤ c) (h1 : c < 128) (w : World) :
    Calls Tryz.prog 156 #[.agg #[.int .u64 x, .int .u64 y, .int .u64 0, .int .u64 0], .int .u8 c] w fun e w' => e = .returned (.bool (bits BinOp.and .u64 ((if c < 64 then x else y) / 2 ^ (c % 64).toNat) 1 == 1)) ∧ Below w.heap.size w w' := by
  have hc : c < 64 ∨ 64 ≤ c := by omega
  rcases hc with hc | hc
  · have e : (c / 64).toNat = 0 := by omega
    have e2 : 0 ≤ c / 64 ∧ c / 64 < 4 := by omega
    rw [if_pos hc]
    go_enter Tryz.func156, Tryz.ntmps156
    go_wp2
    go_ret
    exact ⟨rfl, (Below.refl _ _).alloc (Nat.le_refl _) _⟩
  · have e : (c / 64).toNat = 1 := by omega
    have e2 : 0 ≤ c / 64 ∧ c / 64 < 4 := by omega
    rw [if_neg (by omega)]
    go_enter Tryz.func156, Tryz.ntmps156
    go_wp2
    go_ret
    exact ⟨rfl, (Below.refl _ _).alloc (Nat.le_refl _) _⟩

structure Set4 (w wr : World) (x y : Int) : Prop where
  c0 : wr.cell? ⟨w.heap.size, 0, none⟩ = some (.int .u64 x)
  c1 : wr.cell? ⟨w.heap.size, 1, none⟩ = some (.int .u64 y)
  c2 : wr.cell? ⟨w.heap.size, 2, none⟩ = some (.int .u64 0)
  c3 : wr.cell? ⟨w.heap.size, 3, none⟩ = some (.int .u64 0)
  fr : ∀ j, wr.frozen? ⟨w.heap.size, j, none⟩ = false
  be : Below w.heap.size w wr

theorem Set4.set0 {w wr : World} {x y : Int} (h : Set4 w wr x y) (x' : Int) : Set4 w (wr.setCell ⟨w.heap.size, 0, none⟩ (.int .u64 x')).drew x' y :=
  ⟨World.cell?_setCell_same' _ _ _ (by rw [h.c0]; rfl), (World.cell?_setCell_other _ _ _ _ (by simp)).trans h.c1, (World.cell?_setCell_other _ _ _ _ (by simp)).trans h.c2, (World.cell?_setCell_other _ _ _ _ (by simp)).trans h.c3,
    fun j => by rw [World.frozen?_drew, World.frozen?_setCell]; exact h.fr j, (h.be.setCell (by simp) _).drew⟩
theorem Set4.set1 {w wr : World} {x y : Int} (h : Set4 w wr x y) (y' : Int) : Set4 w (wr.setCell ⟨w.heap.size, 1, none⟩ (.int .u64 y')).drew x y' :=
  ⟨(World.cell?_setCell_other _ _ _ _ (by simp)).trans h.c0, World.cell?_setCell_same' _ _ _ (by rw [h.c1]; rfl), (World.cell?_setCell_other _ _ _ _ (by simp)).trans h.c2, (World.cell?_setCell_other _ _ _ _ (by simp)).trans h.c3,
    fun j => by rw [World.frozen?_drew, World.frozen?_setCell]; exact h.fr j, (h.be.setCell (by simp) _).drew⟩

def spec8 (c : Int) : Bool := (c == 40 || c == 41 || c == 123 || c == 37 || c == 42 || c == 34 || c == 92 || c == 93)
def atomI (c : Int) : Bool := decide (c > 32) && decide (c ≤ 126) && !spec8 c

theorem atom_bits : ∀ c : Fin 128, (bits BinOp.and .u64 ((if (c.val : Int) < 64 then T0 8 else T1 8) / 2 ^ ((c.val : Int) % 64).toNat) 1 == 1) = ((c.val : Int) == 40 || (c.val : Int) == 41 || (c.val : Int) == 123 || (c.val : Int) == 37 || (c.val : Int) == 42 || (c.val : Int) == 34 || (c.val : Int) == 92 || (c.val : Int) == 93) := by
  decide +kernel

theorem atom_has (c : Int) (h0 : 0 ≤ c) (h1 : c < 128) : (bits BinOp.and .u64 ((if c < 64 then T0 8 else T1 8) / 2 ^ (c % 64).toNat) 1 == 1) = (c == 40 || c == 41 || c == 123 || c == 37 || c == 42 || c == 34 || c == 92 || c == 93) := by
  obtain ⟨n, rfl⟩ := Int.eq_ofNat_of_zero_le h0
  exact atom_bits ⟨n, by omega⟩

theorem has_at (c : Int) (h0 : 0 ≤ c) (h1 : c < 128) (w : World) :
    Calls Tryz.prog 156 #[.agg #[.int .u64 (T0 8), .int .u64 (T1 8), .int .u64 0, .int .u64 0], .int .u8 c] w fun e w' => e = .returned (.bool (spec8 c)) ∧ Below w.heap.size w w' := by
  refine (has_any (T0 8) (T1 8) c h0 h1 w).mono ?_
  rintro e w' ⟨rfl, hb⟩
  exact ⟨by rw [atom_has c h0 h1, spec8], hb⟩

set_option maxHeartbeats 3200000 in
theorem isAtom_any (c : Int) (h0 : 0 ≤ c) (h1 : c ≤ 255) (w : World) :
    Calls Tryz.prog 104 #[.int .u8 c] w fun e w' => e = .returned (.bool (atomI c)) ∧ Below w.heap.size w w' := by
  go_enter Tryz.func104, Tryz.ntmps104
  go_wp2_with fail
  go_loopw [4, 5, 6, 7, 8, 9, 10, 11] (fun _ i _ _ _ _ _ _ wr => ∃ k : Nat, k ≤ 8 ∧ i = .int .i64 k ∧ Set4 w wr (T0 k) (T1 k))
    (fun _ i _ _ _ _ _ _ _ => 8 - (intOf i).toNat)
  case atStart => exact ⟨0, by omega, rfl, ⟨World.cell?_alloc_at _ _ _ _ rfl, World.cell?_alloc_at _ _ _ _ rfl, World.cell?_alloc_at _ _ _ _ rfl, World.cell?_alloc_at _ _ _ _ rfl, fun j => World.frozen?_alloc_at _ _ _ _ rfl, (Below.refl _ _).alloc (Nat.le_refl _) _⟩⟩
  case round =>
    obtain ⟨k, hk, rfl, hs⟩ := hrel
    by_cases hlt : k < 8
    · have hk8 : k = 0 ∨ k = 1 ∨ k = 2 ∨ k = 3 ∨ k = 4 ∨ k = 5 ∨ k = 6 ∨ k = 7 := by omega
      clear hk hlt
      rcases hk8 with rfl | rfl | rfl | rfl | rfl | rfl | rfl | rfl
      · go_wp2_with (go_at_call 155; go_must (refine (add_any _ (T0 0) 40 (by simp) _ hs.c0 (hs.fr 0)).mono ?_); rintro e w' ⟨rfl, rfl⟩)
        go_roundw
        case rel => exact ⟨1, by omega, by go_num, hs.set0 _⟩
        case measure => simp [intOf]
      · go_wp2_with (go_at_call 155; go_must (refine (add_any _ (T0 1) 41 (by simp) _ hs.c0 (hs.fr 0)).mono ?_); rintro e w' ⟨rfl, rfl⟩)
        go_roundw
        case rel => exact ⟨2, by omega, by go_num, hs.set0 _⟩
        case measure => simp [intOf]
      · go_wp2_with (go_at_call 155; go_must (refine (add_any _ (T1 2) 123 (by simp) _ hs.c1 (hs.fr 1)).mono ?_); rintro e w' ⟨rfl, rfl⟩)
        go_roundw
        case rel => exact ⟨3, by omega, by go_num, hs.set1 _⟩
        case measure => simp [intOf]
      · go_wp2_with (go_at_call 155; go_must (refine (add_any _ (T0 3) 37 (by simp) _ hs.c0 (hs.fr 0)).mono ?_); rintro e w' ⟨rfl, rfl⟩)
        go_roundw
        case rel => exact ⟨4, by omega, by go_num, hs.set0 _⟩
        case measure => simp [intOf]
      · go_wp2_with (go_at_call 155; go_must (refine (add_any _ (T0 4) 42 (by simp) _ hs.c0 (hs.fr 0)).mono ?_); rintro e w' ⟨rfl, rfl⟩)
        go_roundw
        case rel => exact ⟨5, by omega, by go_num, hs.set0 _⟩
        case measure => simp [intOf]
      · go_wp2_with (go_at_call 155; go_must (refine (add_any _ (T0 5) 34 (by simp) _ hs.c0 (hs.fr 0)).mono ?_); rintro e w' ⟨rfl, rfl⟩)
        go_roundw
        case rel => exact ⟨6, by omega, by go_num, hs.set0 _⟩
        case measure => simp [intOf]
      · go_wp2_with (go_at_call 155; go_must (refine (add_any _ (T1 6) 92 (by simp) _ hs.c1 (hs.fr 1)).mono ?_); rintro e w' ⟨rfl, rfl⟩)
        go_roundw
        case rel => exact ⟨7, by omega, by go_num, hs.set1 _⟩
        case measure => simp [intOf]
      · go_wp2_with (go_at_call 155; go_must (refine (add_any _ (T1 7) 93 (by simp) _ hs.c1 (hs.fr 1)).mono ?_); rintro e w' ⟨rfl, rfl⟩)
        go_roundw
        case rel => exact ⟨8, by omega, by go_num, hs.set1 _⟩
        case measure => simp [intOf]
    · obtain rfl : k = 8 := by omega
      clear hk hlt
      by_cases g1 : 32 < c
      · by_cases g2 : c ≤ 126
        · have hb := hs.be.size
          have c0 := hs.c0
          have c1 := hs.c1
          have c2 := hs.c2
          have c3 := hs.c3
          have hA : atomI c = !spec8 c := by unfold atomI; rw [decide_eq_true g1, decide_eq_true g2]; rfl
          have HA := Lib.hid hA
          clear hA
          go_wp2_with (go_at_call 156; go_must (refine (has_at c h0 (by omega) _).mono ?_); rintro e w' ⟨rfl, hb2⟩)
          go_ret
          exact ⟨by rw [HA.out]; rfl, hs.be.trans (hb2.mono hb)⟩
        · have hA : atomI c = false := by unfold atomI; rw [decide_eq_false g2, Bool.and_false]; rfl
          have HA := Lib.hid hA
          clear hA
          go_wp2_with fail
          go_ret
          exact ⟨by rw [HA.out]; rfl, hs.be⟩
      · have hA : atomI c = false := by unfold atomI; rw [decide_eq_false (by omega)]; rfl
        have HA := Lib.hid hA
        clear hA
        go_wp2_with fail
        go_ret
        exact ⟨by rw [HA.out]; rfl, hs.be⟩
end Go.Proofs.YtkdnfjafabgioaaGreatDoor.Own
