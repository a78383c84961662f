import Derived.Test.YtkdnfjafabgioaaGreatDoorA01
import Derived.Lib.Hide
import Derived.StillTailTactics
import Derived.Shelf.Abstract
namespace Go.Proofs.YtkdnfjafabgioaaGreatDoor.Own
open Go.RowKit Go.Shelf

theorem u8_range (c : UInt8) : (0 : Int) ≤ (c.toNat : Int) ∧ (c.toNat : Int) ≤ 255 := by
  have := c.toNat_lt
  omega

def atomB (c : UInt8) : Bool := atomI c.toNat
def tagB (c : UInt8) : Bool := (c.toNat : Int) == 93 || ((c.toNat : Int) != 43 && atomI c.toNat)
def textB (c : UInt8) : Bool := (c.toNat : Int) != 0 && (decide ((c.toNat : Int) < 128) && ((c.toNat : Int) != 13 && (c.toNat : Int) != 10))
def boxB (c : UInt8) : Bool := atomB c || (c.toNat : Int) == 93
def allL (f : UInt8 → Bool) (l : List UInt8) : Bool := l.all f
def allB (f : UInt8 → Bool) (l : List UInt8) : Bool := !l.isEmpty && allL f l

theorem atom_any (c : UInt8) (w : World) : Calls Tryz.prog 108 #[.int .u8 c.toNat] w fun e w' => e = .returned (.bool (atomB c)) ∧ Below w.heap.size w w' := by
  have := u8_range c
  go_enter Tryz.func108, Tryz.ntmps108
  go_wp2_with (go_at_call 104; refine (isAtom_any _ (by omega) (by omega) _).mono ?_; rintro e w' ⟨rfl, hb⟩)
  go_ret
  exact ⟨rfl, hb⟩

theorem text_any (c : UInt8) (w : World) : Calls Tryz.prog 179 #[.int .u8 c.toNat] w fun e w' => e = .returned (.bool (textB c)) ∧ w = w' := by
  have := u8_range c
  have ht : textB c = ((c.toNat : Int) != 0 && (decide ((c.toNat : Int) < 128) && ((c.toNat : Int) != 13 && (c.toNat : Int) != 10))) := rfl
  by_cases h1 : ((c.toNat : Int) != 0) = true
  · by_cases h2 : (c.toNat : Int) < 128
    · by_cases h3 : ((c.toNat : Int) != 13) = true
      · rw [h1, h3, decide_eq_true h2, Bool.true_and, Bool.true_and, Bool.true_and] at ht
        have H := Lib.hid ht
        clear ht
        go_enter Tryz.func179, Tryz.ntmps179
        go_wp2
        go_ret
        exact ⟨by rw [H.out]; rfl, rfl⟩
      · rw [Bool.not_eq_true] at h3
        rw [h1, h3, decide_eq_true h2] at ht
        have H := Lib.hid ht
        clear ht
        go_enter Tryz.func179, Tryz.ntmps179
        go_wp2
        go_ret
        exact ⟨by rw [H.out]; rfl, rfl⟩
    · rw [h1, decide_eq_false h2] at ht
      have H := Lib.hid ht
      clear ht
      go_enter Tryz.func179, Tryz.ntmps179
      go_wp2
      go_ret
      exact ⟨by rw [H.out]; rfl, rfl⟩
  · rw [Bool.not_eq_true] at h1
    rw [h1] at ht
    have H := Lib.hid ht
    clear ht
    go_enter Tryz.func179, Tryz.ntmps179
    go_wp2
    go_ret
    exact ⟨by rw [H.out]; rfl, rfl⟩

theorem tag_any (c : UInt8) (w : World) : Calls Tryz.prog 53 #[.int .u8 c.toNat] w fun e w' => e = .returned (.bool (tagB c)) ∧ Below w.heap.size w w' := by
  have := u8_range c
  have ht : tagB c = ((c.toNat : Int) == 93 || ((c.toNat : Int) != 43 && atomI c.toNat)) := rfl
  by_cases h1 : ((c.toNat : Int) == 93) = true
  · rw [h1] at ht
    have H := Lib.hid ht
    clear ht
    go_enter Tryz.func53, Tryz.ntmps53
    go_wp2_with fail
    go_ret
    exact ⟨by rw [H.out]; rfl, Below.refl _ _⟩
  · rw [Bool.not_eq_true] at h1
    by_cases h3 : ((c.toNat : Int) != 43) = true
    · rw [h1, h3, Bool.false_or, Bool.true_and] at ht
      have H := Lib.hid ht
      clear ht
      go_enter Tryz.func53, Tryz.ntmps53
      go_wp2_with (go_at_call 104; refine (isAtom_any _ (by omega) (by omega) _).mono ?_; rintro e w' ⟨rfl, hb⟩)
      go_ret
      exact ⟨by rw [H.out]; rfl, hb⟩
    · rw [Bool.not_eq_true] at h3
      rw [h1, h3] at ht
      have H := Lib.hid ht
      clear ht
      go_enter Tryz.func53, Tryz.ntmps53
      go_wp2_with fail
      go_ret
      exact ⟨by rw [H.out]; rfl, Below.refl _ _⟩

theorem boxB_any (c : UInt8) (w : World) : Calls Tryz.prog 137 #[.int .u8 c.toNat] w fun e w' => e = .returned (.bool (boxB c)) ∧ Below w.heap.size w w' := by
  have := u8_range c
  have ht : boxB c = (atomB c || (c.toNat : Int) == 93) := rfl
  by_cases h1 : atomB c = true
  · rw [h1] at ht
    have H := Lib.hid ht
    clear ht
    go_enter Tryz.func137, Tryz.ntmps137
    go_wp2_with (go_at_call 108; refine (atom_any _ _).mono ?_; rintro e w' ⟨rfl, hb⟩)
    go_ret
    exact ⟨by rw [H.out]; rfl, hb⟩
  · rw [Bool.not_eq_true] at h1
    rw [h1, Bool.false_or] at ht
    have H := Lib.hid ht
    clear ht
    go_enter Tryz.func137, Tryz.ntmps137
    go_wp2_with (go_at_call 108; refine (atom_any _ _).mono ?_; rintro e w' ⟨rfl, hb⟩)
    go_ret
    exact ⟨by rw [H.out]; rfl, hb⟩

theorem allL_app (f : UInt8 → Bool) (a b : List UInt8) : allL f (a ++ b) = (allL f a && allL f b) := List.all_append
theorem allL_snoc (f : UInt8 → Bool) (a : List UInt8) (c : UInt8) : allL f (a ++ [c]) = (allL f a && f c) := by rw [allL_app]; simp [allL]
theorem take_snoc (s : ByteArray) (k : Nat) (h : k < s.size) : s.data.toList.take (k + 1) = s.data.toList.take k ++ [s[k]] := by
  rw [List.take_succ_eq_append_getElem (by simpa using h)]; rfl

set_option maxHeartbeats 1600000 in
set_option maxRecDepth 100000 in
/-- 'class.all', whatever the function value, as long as it enters function K. -/
theorem cls_all (K : Nat) (f : UInt8 → Bool) (hf : ∀ (c : UInt8) (w : World), Calls Tryz.prog K #[.int .u8 c.toNat] w fun e w' => e = .returned (.bool (f c)) ∧ Below w.heap.size w w')
    (hE : ∀ (args : Array Value) (w : World), (callFunc K args).run Tryz.prog w = .ok (.enter K args) w) (s : ByteArray) (hs : s.size ≤ maxLen) (w : World) :
    Calls Tryz.prog 103 #[.agg #[.func (.func K) #[] #[]], .string s] w fun e w' => e = .returned (.bool (allL f s.data.toList)) ∧ Below w.heap.size w w' := by
  unfold maxLen at hs
  have HF := Lib.hid hf
  clear hf
  go_enter Tryz.func103, Tryz.ntmps103
  go_wp2_with fail
  go_loopw [4, 5, 8, 9, 10, 11, 12, 13, 14, 15, 16, 17, 18] (fun v4 _ i _ _ _ _ _ _ _ _ _ _ wr => ∃ k : Nat, k ≤ s.size ∧ v4 = .bool false ∧ i = .int .i64 k ∧ allL f (s.data.toList.take k) = true ∧ Below w.heap.size w wr ∧ w.heap.size < wr.heap.size ∧ wr.cell? ⟨w.heap.size, 0, none⟩ = some (.func (.func K) #[] #[]))
    (fun _ _ i _ _ _ _ _ _ _ _ _ _ _ => s.size - (intOf i).toNat)
  case atStart => exact ⟨0, by omega, rfl, rfl, rfl, (Below.refl _ _).alloc (Nat.le_refl _) _, by simp, World.cell?_alloc_at _ _ _ _ rfl⟩
  case round =>
    obtain ⟨k, hk, rfl, rfl, hall, hb, hsz, hc⟩ := hrel
    by_cases hlt : k < s.size
    · have H1 := Lib.hid hall
      clear hall
      go_wp2_with fail
      go_still_tail 5, (by kernel_rfl)
      go_wp2_with fail
      refine (HF.out _ _).mono ?_
      rintro e w1 ⟨rfl, hb1⟩
      have hw1 := hb1.size
      have hc1 : w1.cell? ⟨w.heap.size, 0, none⟩ = some (.func (.func K) #[] #[]) := (hb1.cell (p := ⟨w.heap.size, 0, none⟩) hsz).trans hc
      have hb2 : Below w.heap.size w w1 := hb.trans ((Below.refl _ wr).drew.trans (hb1.mono (Nat.le_of_lt hsz)))
      have hts := take_snoc s k hlt
      have HT := Lib.hid hts
      clear hts hb1
      have hsz1 : wr.heap.size ≤ w1.heap.size := hw1
      clear hw1
      by_cases hfk : f s[k] = true
      · go_wp2_with fail
        go_roundw
        case rel => exact ⟨k + 1, by omega, rfl, by go_num, by rw [HT.out, allL_snoc, H1.out, hfk]; rfl, hb2, by omega, hc1⟩
        case measure => simp [intOf]; omega
      · rw [Bool.not_eq_true] at hfk
        have hfin : allL f s.data.toList = false := by
          rw [← List.take_append_drop (k + 1) s.data.toList, HT.out, allL_app, allL_snoc, H1.out, hfk]
          rfl
        have H2 := Lib.hid hfin
        clear hfin
        go_wp2_with fail
        go_ret
        exact ⟨by rw [H2.out]; rfl, hb2⟩
    · obtain rfl : k = s.size := by omega
      have hall' : allL f s.data.toList = true := by rw [← hall, List.take_of_length_le (by simp)]
      clear hall
      have H1 := Lib.hid hall'
      clear hall'
      go_wp2_with fail
      go_ret
      exact ⟨by rw [H1.out]; rfl, hb⟩

theorem allB_eq (f : UInt8 → Bool) (s : ByteArray) : allB f s.data.toList = (s.data.toList != [] && allL f s.data.toList) := by
  unfold allB
  cases s.data.toList <;> rfl

set_option maxRecDepth 100000 in
theorem all_any (K : Nat) (f : UInt8 → Bool) (hf : ∀ (c : UInt8) (w : World), Calls Tryz.prog K #[.int .u8 c.toNat] w fun e w' => e = .returned (.bool (f c)) ∧ Below w.heap.size w w')
    (hE : ∀ (args : Array Value) (w : World), (callFunc K args).run Tryz.prog w = .ok (.enter K args) w) (s : ByteArray) (hs : s.size ≤ maxLen) (w : World) :
    Calls Tryz.prog 52 #[.string s, .func (.func K) #[] #[]] w fun e w' => e = .returned (.bool (allB f s.data.toList)) ∧ Below w.heap.size w w' := by
  have HF := Lib.hid hf
  have HE := Lib.hid hE
  clear hf hE
  by_cases h : s.data.toList = []
  · have h1 : s.toList = [] := (ByteArray.toList_eq s).trans h
    have h2 : (!s.toList.isEmpty) = false := by rw [h1]; rfl
    have H3 : Hid (allB f s.data.toList = false) := Lib.hid (by rw [h]; rfl)
    go_enter Tryz.func52, Tryz.ntmps52
    go_wp2_with fail
    go_ret
    exact ⟨by rw [H3.out]; rfl, Below.refl _ _⟩
  · have h1 : ¬ s.toList = [] := fun e => h ((ByteArray.toList_eq s).symm.trans e)
    have h2 : s.toList.isEmpty = false := by
      cases hh : s.toList with
      | nil => exact absurd hh h1
      | cons a l => rfl
    have hfin : allB f s.data.toList = allL f s.data.toList := by
      rw [allB_eq]
      cases hh : s.data.toList with
      | nil => exact absurd hh h
      | cons a l => rfl
    have H4 := Lib.hid hfin
    clear hfin h
    go_enter Tryz.func52, Tryz.ntmps52
    go_wp2_with (go_at_call 103; refine (cls_all K f HF.out HE.out s hs _).mono ?_; rintro e w' ⟨rfl, hb⟩)
    go_ret
    exact ⟨by rw [H4.out]; rfl, hb⟩

theorem all_tag (s : ByteArray) (hs : s.size ≤ maxLen) (w : World) :
    Calls Tryz.prog 52 #[.string s, .func (.func 53) #[] #[]] w fun e w' => e = .returned (.bool (allB tagB s.data.toList)) ∧ Below w.heap.size w w' :=
  all_any 53 tagB tag_any (enters_of Tryz.func53 (by kernel_rfl) rfl) s hs w
theorem all_atom (s : ByteArray) (hs : s.size ≤ maxLen) (w : World) :
    Calls Tryz.prog 52 #[.string s, .func (.func 108) #[] #[]] w fun e w' => e = .returned (.bool (allB atomB s.data.toList)) ∧ Below w.heap.size w w' :=
  all_any 108 atomB atom_any (enters_of Tryz.func108 (by kernel_rfl) rfl) s hs w
theorem all_box (s : ByteArray) (hs : s.size ≤ maxLen) (w : World) :
    Calls Tryz.prog 52 #[.string s, .func (.func 137) #[] #[]] w fun e w' => e = .returned (.bool (allB boxB s.data.toList)) ∧ Below w.heap.size w w' :=
  all_any 137 boxB boxB_any (enters_of Tryz.func137 (by kernel_rfl) rfl) s hs w
end Go.Proofs.YtkdnfjafabgioaaGreatDoor.Own
