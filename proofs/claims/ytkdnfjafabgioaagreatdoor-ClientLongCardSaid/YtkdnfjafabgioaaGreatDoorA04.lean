import Derived.Test.YtkdnfjafabgioaaGreatDoorA03
import Derived.Deep.RegionWith
set_option linter.unusedVariables false
set_option linter.unusedSimpArgs false
namespace Go.Proofs.YtkdnfjafabgioaaGreatDoor.Own
open Go.RowKit Go.Shelf

def upL (l : List UInt8) : List UInt8 := l.map upB
def upTo (l : List UInt8) (k : Nat) : List UInt8 := (l.take k).map upB ++ l.drop k
theorem upTo_zero (l : List UInt8) : upTo l 0 = l := by simp [upTo]
theorem upTo_all (l : List UInt8) : upTo l l.length = upL l := by simp [upTo, upL]
theorem upTo_length (l : List UInt8) (k : Nat) : (upTo l k).length = l.length := by simp [upTo]; omega
theorem upTo_get (l : List UInt8) (k : Nat) (h : k < l.length) : (upTo l k).getD k 0 = l.getD k 0 := by
  simp only [upTo, List.getD_eq_getElem?_getD]
  rw [List.getElem?_append_right (by simp; omega)]
  simp [Nat.min_eq_left (Nat.le_of_lt h)]
theorem upTo_set (l : List UInt8) (k : Nat) (h : k < l.length) : (upTo l k).set k (upB (l.getD k 0)) = upTo l (k + 1) := by
  have e : l.getD k 0 = l[k] := by simp [List.getD_eq_getElem?_getD, h]
  rw [e]
  unfold upTo
  rw [List.set_append_right _ _ (by simp; omega), List.length_map, List.length_take, Nat.min_eq_left (Nat.le_of_lt h), Nat.sub_self, List.take_succ_eq_append_getElem h, List.map_append, List.append_assoc]
  congr 1
  rw [List.drop_eq_getElem_cons h]
  rfl
theorem BytN.drew {w : World} {N : Nat} {l : List UInt8} (h : BytN w N l) : BytN w.drew N l := ⟨h.cell, h.free⟩

set_option maxRecDepth 100000 in
set_option maxHeartbeats 800000 in
theorem up1_any (N B c : Nat) (l : List UInt8) (hl : l.length ≤ maxLen) (w : World) (hNB : N < B) (hv : w.cell? ⟨B, 0, none⟩ = some (.slice (some ⟨N, 0, none⟩) l.length c)) (hb : BytN w N l) :
    Calls Tryz.prog 132 #[.func (.func 133) #[] #[], .pointer (some ⟨B, 0, none⟩)] w fun e w' => e = .returned (.tuple #[]) ∧ Below N w w' ∧ w'.cell? ⟨B, 0, none⟩ = some (.slice (some ⟨N, 0, none⟩) l.length c) ∧ BytN w' N (upL l) := by
  unfold maxLen at hl
  go_enter Tryz.func132, Tryz.ntmps132
  go_wp2_with fail
  go_loopw [3, 4, 7, 8, 9, 10, 11, 12, 13, 14, 15, 16, 17, 18] (fun _ _ i _ _ _ _ _ _ _ _ _ _ _ wr => ∃ k : Nat, k ≤ l.length ∧ i = .int .i64 k ∧ BytN wr N (upTo l k) ∧ Below N w wr ∧ w.heap.size ≤ wr.heap.size ∧ wr.cell? ⟨B, 0, none⟩ = some (.slice (some ⟨N, 0, none⟩) l.length c))
    (fun _ _ i _ _ _ _ _ _ _ _ _ _ _ _ => l.length - (intOf i).toNat)
  case atStart => exact ⟨0, by omega, rfl, by rw [upTo_zero]; exact hb, Below.refl _ _, Nat.le_refl _, hv⟩
  case round =>
    obtain ⟨k, hk, rfl, hbk, hw, hsz, hv1⟩ := hrel
    by_cases hlt : k < l.length
    · have hc := hbk.cell k (by rw [upTo_length]; exact hlt)
      have hf := hbk.free k (by rw [upTo_length]; exact hlt)
      rw [upTo_get l k hlt] at hc
      obtain ⟨x, hx⟩ : ∃ x, x = l.getD k 0 := ⟨_, rfl⟩
      rw [← hx] at hc
      have HX := Lib.hid hx
      have HB := Lib.hid hbk
      have HW := Lib.hid hw
      clear hx hbk hw
      go_wp2_with fail
      go_region_with (go_at_call 133; refine (up2_any _ _).mono ?_; rintro e w' ⟨rfl, rfl⟩)
      all_goals
        go_wp2_with fail
        go_roundw
        case rel =>
          have h1 := HB.out.set k (by rw [upTo_length]; exact hlt) (upB x)
          rw [HX.out, upTo_set l k hlt, ← HX.out] at h1
          exact ⟨k + 1, by omega, by go_num, h1.drew, (HW.out.setCell (by simp) _).drew, by simp; omega, by rw [World.cell?_drew, World.cell?_setCell_other _ _ _ _ (by simp <;> omega)]; exact hv1⟩
        case measure => simp [intOf]; omega
    · obtain rfl : k = l.length := by omega
      rw [upTo_all] at hbk
      have HB := Lib.hid hbk
      have HW := Lib.hid hw
      clear hbk hw
      go_wp2_with fail
      go_end0
      exact ⟨rfl, HW.out, hv1, HB.out⟩

set_option maxRecDepth 100000 in
set_option maxHeartbeats 800000 in
theorem upper_any (s : ByteArray) (hs : s.size ≤ maxLen) (w : World) :
    Calls Tryz.prog 81 #[.string s] w fun e w' => e = .returned (.string ⟨(upL s.data.toList).toArray⟩) ∧ Below w.heap.size w w' := by
  have hl : s.data.toList.length = s.size := by simp
  have kb := run_bytes s
  have hmf : ∀ (fn : Fn) (first cap : Array Value) (w : World), (Instr.makeFunc fn first cap).run Tryz.prog w = .ok (.func fn first cap) w := fun _ _ _ _ => rfl
  go_enter Tryz.func81, Tryz.ntmps81
  go_wp2_with fail
  have hz := Lib.bytesWorld_size w 5 s
  have h0 : BytN ((Lib.bytesWorld w 5 s).alloc (.cells #[.slice (some ⟨w.heap.size, 0, none⟩) s.size (grownCap w s.size 0 5)] 24)) w.heap.size s.data.toList :=
    (bytesN w s).below ((Below.refl _ _).alloc (Nat.le_refl _) _) (by omega)
  refine (up1_any w.heap.size _ (grownCap w s.size 0 5) s.data.toList (by rw [hl]; exact hs) _ (by omega) (by rw [hl]; exact World.cell?_alloc_at _ _ _ _ rfl) h0).mono ?_
  rintro e w1 ⟨rfl, hb1, hc1, hn1⟩
  have hst := (hn1.byt (by simpa [upL] using hs)).string (grownCap w s.size 0 5)
  have hul : (upL s.data.toList).length = s.data.toList.length := by simp [upL]
  rw [hul, hl] at hst
  rw [hl] at hc1
  have hbel : Below w.heap.size w w1 := ((bytesWorld_below w s).alloc (by omega) _).trans hb1
  clear h0 hn1 hul hb1 hl kb hz
  go_wp2_with fail
  go_ret
  exact ⟨rfl, hbel⟩
end Go.Proofs.YtkdnfjafabgioaaGreatDoor.Own
