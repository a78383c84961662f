import Derived.Test.YtkdnfjafabgioaaGreatDoorA14
import Derived.Deep.QuietTactic
import Derived.BigQuiet
set_option linter.unusedVariables false
set_option linter.unusedSimpArgs false
namespace Go.Proofs.YtkdnfjafabgioaaGreatDoor.Own
open Go.RowKit Go.Shelf

/-- A scanner's block: its bytes, its place, what it has put out. -/
structure Scn (w : World) (N : Nat) (A : Option Addr) (n cp at_ : Nat) (v : Value) : Prop where
  c0 : w.cell? ⟨N, 0, none⟩ = some (.slice A n cp)
  c1 : w.cell? ⟨N, 1, none⟩ = some (.int .i64 (at_ : Int))
  c2 : w.cell? ⟨N, 2, none⟩ = some v
  fr : ∀ j, w.frozen? ⟨N, j, none⟩ = false
theorem Scn.set1 {w : World} {N : Nat} {A : Option Addr} {n cp at_ : Nat} {v : Value} (h : Scn w N A n cp at_ v) (x : Nat) : Scn (w.setCell ⟨N, 1, none⟩ (.int .i64 (x : Int))) N A n cp x v :=
  ⟨(World.cell?_setCell_other _ _ _ _ (by simp)).trans h.c0, World.cell?_setCell_same' _ _ _ (by rw [h.c1]; rfl), (World.cell?_setCell_other _ _ _ _ (by simp)).trans h.c2, fun j => by rw [World.frozen?_setCell]; exact h.fr j⟩
theorem Scn.set2 {w : World} {N : Nat} {A : Option Addr} {n cp at_ : Nat} {v : Value} (h : Scn w N A n cp at_ v) (x : Value) (hx : x.oneCell' = true) : Scn (w.setCell ⟨N, 2, none⟩ x) N A n cp at_ x :=
  ⟨(World.cell?_setCell_other _ _ _ _ (by simp)).trans h.c0, (World.cell?_setCell_other _ _ _ _ (by simp)).trans h.c1, World.cell?_setCell_same' _ _ _ (by rw [h.c2]; rfl), fun j => by rw [World.frozen?_setCell]; exact h.fr j⟩
theorem Scn.drewN {w : World} {N : Nat} {A : Option Addr} {n cp at_ : Nat} {v : Value} (h : Scn w N A n cp at_ v) (k : Nat) : Scn (w.drewN k) N A n cp at_ v := ⟨h.c0, h.c1, h.c2, h.fr⟩

theorem grown_set (w : World) (N j : Nat) (v : Value) (p q : Nat) : w.grownBy (((w.drewN p).setCell ⟨N, j, none⟩ v).drewN q) (some N) :=
  ⟨rfl, rfl, rfl, by simp, fun i hi hne => by
    have : N ≠ i := fun e => hne (by rw [e])
    simp [World.setCell, World.drewN, Array.getElem?_modify, this]⟩
theorem grown_drewN (w : World) (k : Nat) (row : Option Nat) : w.grownBy (w.drewN k) row := ⟨rfl, rfl, rfl, Nat.le_refl _, fun _ _ _ => rfl⟩
theorem grown_trans {w w1 w2 : World} {row : Option Nat} (h1 : w.grownBy w1 row) (h2 : w1.grownBy w2 row) : w.grownBy w2 row :=
  ⟨h2.os.trans h1.os, h2.tape.trans h1.tape, h2.output.trans h1.output, Nat.le_trans h1.size h2.size, fun k hk hne => (h2.block k (Nat.lt_of_lt_of_le hk h1.size) hne).trans (h1.block k hk hne)⟩
theorem Scn.lt {w : World} {N : Nat} {A : Option Addr} {n cp at_ : Nat} {v : Value} (h : Scn w N A n cp at_ v) : N < w.heap.size := World.block_lt_of_cell? w _ h.c0
theorem Byt.grown {w w' : World} {A : Option Addr} {l : List UInt8} {row : Nat} (h : Byt w A l) (hg : w.grownBy w' (some row)) (hne : ∀ a, A = some a → a.block ≠ row) : Byt w' A l := by
  refine ⟨h.1, fun hn => ?_⟩
  obtain ⟨b, o, e, hbz, hc⟩ := h.at hn
  refine ⟨b, o, e, fun i hi => ?_⟩
  have h1 := hc i hi
  rw [ints_getD, ← h1]
  exact World.cell?_of_block (hg.block b hbz (by simpa using hne _ e))

set_option maxRecDepth 100000 in
set_option maxHeartbeats 800000 in
theorem take_end (N : Nat) (A : Option Addr) (n cp a : Nat) (v : Value) (w : World) (h : Scn w N A n cp a v) (ha : n ≤ a) (hm : a ≤ maxLen) :
    Calls Tryz.prog 208 #[.pointer (some ⟨N, 0, none⟩)] w fun e w' => e = .returned (.tuple #[.int .u8 0, .bool false]) ∧ Scn w' N A n cp a v ∧ w.grownBy w' (some N) := by
  unfold maxLen at hm
  have c0 := h.c0
  have c1 := h.c1
  have g1 : decide ((a : Int) < 0) = false := by simp
  have g2 : decide ((n : Int) ≤ (a : Int)) = true := by simp; omega
  have H := Lib.hid h
  clear h
  go_enter Tryz.func208, Tryz.ntmps208
  go_wp2_with fail
  go_quiet (fail)
  go_wp2_with fail
  go_ret2
  exact ⟨rfl, H.out.drewN _, grown_drewN _ _ _⟩

set_option maxRecDepth 100000 in
set_option maxHeartbeats 800000 in
theorem take_one (N b o cp a : Nat) (l : List UInt8) (v : Value) (w : World) (h : Scn w N (some ⟨b, o, none⟩) l.length cp a v) (ha : a < l.length) (hA : Byt w (some ⟨b, o, none⟩) l) (hbN : b ≠ N) :
    Calls Tryz.prog 208 #[.pointer (some ⟨N, 0, none⟩)] w fun e w' => e = .returned (.tuple #[.int .u8 (l.getD a 0).toNat, .bool true]) ∧ Scn w' N (some ⟨b, o, none⟩) l.length cp (a + 1) v ∧ w.grownBy w' (some N) := by
  have hm := hA.1
  unfold maxLen at hm
  have c0 := h.c0
  have c1 := h.c1
  have f1 := h.fr 1
  obtain ⟨b', o', e, _, hcell⟩ := hA.at (by omega)
  cases e
  obtain ⟨x, hx⟩ : ∃ x, x = l.getD a 0 := ⟨_, rfl⟩
  have hck := hcell a ha
  rw [← hx] at hck ⊢
  have g1 : decide ((a : Int) < 0) = false := by simp
  have g2 : decide ((l.length : Int) ≤ (a : Int)) = false := by simp; omega
  have H := Lib.hid h
  clear h hcell hx
  go_enter Tryz.func208, Tryz.ntmps208
  go_wp2_with fail
  go_quiet (fail)
  go_wp2_with fail
  go_quiet (fail)
  go_wp2_with fail
  go_ret2
  exact ⟨rfl, ((H.out.drewN _).set1 (a + 1)).drewN _, grown_set _ _ _ _ _ _⟩

/-- 'cursor.take': the next byte, if there is one. -/
def nextB (l : List UInt8) (a : Nat) : UInt8 := if a < l.length then l.getD a 0 else 0
def nextP (l : List UInt8) (a : Nat) : Nat := if a < l.length then a + 1 else a
theorem take_any (N : Nat) (A : Option Addr) (cp a : Nat) (l : List UInt8) (v : Value) (w : World) (h : Scn w N A l.length cp a v) (hA : Byt w A l) (hne : ∀ x, A = some x → x.block ≠ N) (hm : a ≤ maxLen) :
    Calls Tryz.prog 208 #[.pointer (some ⟨N, 0, none⟩)] w fun e w' => e = .returned (.tuple #[.int .u8 (nextB l a).toNat, .bool (decide (a < l.length))]) ∧ Scn w' N A l.length cp (nextP l a) v ∧ w.grownBy w' (some N) := by
  by_cases ha : a < l.length
  · obtain ⟨b, o, rfl, _, _⟩ := hA.at (by omega)
    refine (take_one N b o cp a l v w h ha hA (hne _ rfl)).mono ?_
    rintro e w' ⟨rfl, h1, h2⟩
    exact ⟨by unfold nextB; rw [if_pos ha, decide_eq_true ha], by unfold nextP; rw [if_pos ha]; exact h1, h2⟩
  · refine (take_end N A l.length cp a v w h (by omega) hm).mono ?_
    rintro e w' ⟨rfl, h1, h2⟩
    exact ⟨by unfold nextB; rw [if_neg ha, decide_eq_false ha]; rfl, by unfold nextP; rw [if_neg ha]; exact h1, h2⟩

theorem is_any (N : Nat) (A : Option Addr) (cp a : Nat) (l : List UInt8) (ci : Int) (c : UInt8) (hc : ci = (c.toNat : Int)) (v : Value) (w : World) (h : Scn w N A l.length cp a v) (hA : Byt w A l) (hne : ∀ x, A = some x → x.block ≠ N) (hm : a ≤ maxLen) :
    Calls Tryz.prog 207 #[.pointer (some ⟨N, 0, none⟩), .int .u8 ci] w fun e w' => e = .returned (.bool (decide (a < l.length) && l.getD a 0 == c)) ∧ Scn w' N A l.length cp (nextP l a) v ∧ w.grownBy w' (some N) := by
  have ht := take_any N A cp a l v w h hA hne hm
  obtain ⟨P, hP⟩ : ∃ P, P = nextP l a := ⟨_, rfl⟩
  obtain ⟨x, hx⟩ : ∃ x, x = nextB l a := ⟨_, rfl⟩
  obtain ⟨R, hR⟩ : ∃ R, R = (decide (a < l.length) && l.getD a 0 == c) := ⟨_, rfl⟩
  rw [← hP, ← hx] at ht
  rw [← hR, ← hP]
  by_cases ha : a < l.length
  · have hr : R = (x == c) := by rw [hR, hx]; unfold nextB; rw [if_pos ha, decide_eq_true ha]; rfl
    rw [decide_eq_true ha] at ht
    have hr2 : ((x.toNat : Int) == ci) = (x == c) := by
      rw [hc]
      by_cases e : x = c
      · subst e; simp
      · have : ¬ (x.toNat : Int) = (c.toNat : Int) := fun e2 => e (UInt8.toNat_inj.1 (by omega))
        rw [beq_eq_false_iff_ne.2 this, beq_eq_false_iff_ne.2 e]
    have HR := Lib.hid hr
    have HR2 := Lib.hid hr2
    have HT := Lib.hid ht
    clear hr hr2 ht hc hR hP hx ha h hA hne
    go_enter Tryz.func207, Tryz.ntmps207
    go_wp2_with (go_at_call 208; refine HT.out.mono ?_; rintro e w' ⟨rfl, h1, h2⟩)
    go_ret
    exact ⟨by rw [HR.out, ← HR2.out]; rfl, h1, h2⟩
  · have hr : R = false := by rw [hR, decide_eq_false ha]; rfl
    rw [decide_eq_false ha] at ht
    have HR := Lib.hid hr
    have HT := Lib.hid ht
    clear hr ht hc hR hP hx ha h hA hne
    go_enter Tryz.func207, Tryz.ntmps207
    go_wp2_with (go_at_call 208; refine HT.out.mono ?_; rintro e w' ⟨rfl, h1, h2⟩)
    go_ret
    exact ⟨by rw [HR.out]; rfl, h1, h2⟩
end Go.Proofs.YtkdnfjafabgioaaGreatDoor.Own
