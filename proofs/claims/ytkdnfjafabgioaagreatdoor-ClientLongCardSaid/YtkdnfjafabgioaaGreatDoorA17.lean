import Derived.Test.YtkdnfjafabgioaaGreatDoorA16
import Derived.Laws.AppendOwnNone
set_option linter.unusedVariables false
set_option linter.unusedSimpArgs false
namespace Go.Proofs.YtkdnfjafabgioaaGreatDoor.Own
open Go.RowKit Go.Shelf

theorem CellsIn.byt {w : World} {base : Nat} {A : Option Addr} {l : List UInt8} (h : CellsIn w base A (Lib.byteCells l)) (hl : l.length ≤ maxLen) : Byt w A l := by
  refine ⟨hl, fun hn => ?_⟩
  obtain ⟨b, o, e, _, _, hc⟩ := h (by intro e; have : (Lib.byteCells l).length = 0 := by rw [e]; rfl
                                      rw [Lib.byteCells_length] at this; omega)
  refine ⟨b, o, e, fun i hi => ?_⟩
  rw [ints_getD]
  exact hc i _ (by simp [Lib.byteCells, List.getD_eq_getElem?_getD, hi])
/-- Bytes that are read, in a block from base on (or none at all). -/
def BytV (w : World) (base : Nat) (v : Value) (l : List UInt8) : Prop := ∃ A c, v = .slice A l.length c ∧ l.length ≤ c ∧ c ≤ maxLen ∧ Byt w A l ∧ (∀ x, A = some x → base ≤ x.block ∧ x.block < w.heap.size)
theorem own_bytV {w : World} {base n : Nat} {v : Value} {l : List UInt8} (h : w.ownsRow base 5 1 v n (Lib.byteCells l)) : BytV w base v l := by
  have hn : n = l.length := by have := h.1; rw [Lib.byteCells_length] at this; omega
  subst hn
  rcases h.2 with ⟨rfl, h0⟩ | ⟨g, cap, cur, rfl, hb, hh, h1, h2, _⟩
  · exact ⟨none, 0, by rw [h0], by omega, by simp [maxLen], by rw [List.eq_nil_of_length_eq_zero h0]; exact Byt.nil _ _, by simp⟩
  · obtain ⟨A, c, e, _, _, h6⟩ := own_cells h
    cases e
    exact ⟨_, _, rfl, h1, h2, h6.byt (Nat.le_trans h1 h2), fun x hx => by cases hx; exact ⟨hb, (Array.getElem?_eq_some_iff.1 hh).1⟩⟩
theorem BytV.below {w w' : World} {base : Nat} {v : Value} {l : List UInt8} (h : BytV w base v l) (hb : Below w.heap.size w w') : BytV w' base v l := by
  obtain ⟨A, c, e, h1, h2, h3, h4⟩ := h
  exact ⟨A, c, e, h1, h2, h3.below hb, fun x hx => ⟨(h4 x hx).1, Nat.lt_of_lt_of_le (h4 x hx).2 hb.size⟩⟩
theorem Byt.src {w : World} {a : Addr} {l : List UInt8} (h : Byt w (some a) l) (j : Nat) (u : Value) (hj : (Lib.byteCells l)[j]? = some u) : w.cell? (a.add j) = some u := by
  have hjl : j < l.length := by
    have := (List.getElem?_eq_some_iff.1 hj).1
    simpa [Lib.byteCells] using this
  obtain ⟨b', o', e, _, hc⟩ := h.at (by omega)
  cases e
  have e1 : (⟨b', o', none⟩ : Addr).add j = ⟨b', o' + j, none⟩ := by unfold Addr.add; split <;> simp_all
  rw [e1, hc j hjl]
  simp only [Lib.byteCells, List.getElem?_map] at hj
  simpa [List.getD_eq_getElem?_getD, hjl] using hj
theorem byteCells_one (l : List UInt8) : ∀ u ∈ Lib.byteCells l, u.oneCell' = true := by
  intro u hu
  simp only [Lib.byteCells, List.mem_map] at hu
  obtain ⟨b, _, rfl⟩ := hu
  rfl

set_option maxRecDepth 100000 in
set_option maxHeartbeats 1600000 in
/-- slices.Clone at bytes. -/
theorem clone_any (A : Option Addr) (cp : Nat) (l : List UInt8) (w : World) (hA : Byt w A l) (hl : l.length ≤ 1000000000) (hn : A = none → l = [] ∧ cp = 0) :
    Calls Tryz.prog 185 #[.slice A l.length cp] w fun e w' => ∃ v, e = .returned v ∧ w'.ownsRow w.heap.size 5 1 v l.length (Lib.byteCells l) ∧ Below w.heap.size w w' := by
  obtain ⟨i0, hi, hz0, hz1, hz2⟩ := info_parts info5
  have hq : ∀ (w : World) (a : Option Addr) (n c n' c' : Nat), (binOp .eql 24 (.slice a n c) (.slice none n' c')).run Tryz.prog w = .ok (.bool a.isNone) w := fun w a n c n' c' => Lib.run_eql_slice_nil w _ _ a n c n' c' Tryz.underlying24
  have HA := Lib.hid hA
  clear hA
  cases A with
  | none =>
    obtain ⟨rfl, rfl⟩ := hn rfl
    go_enter Tryz.func185, Tryz.ntmps185
    go_wp2
    go_ret
    exact ⟨_, rfl, World.ownsRow_nil _ _ _ _, Below.refl _ _⟩
  | some a =>
    clear hn
    have h0 := World.ownsRow_lit (size := 1) w #[] 0 (Nat.le_refl w.heap.size) (by simp [maxLen]) (e := 5) rfl
    have hw : Byt (w.alloc (.cells #[] 5)) (some a) l := HA.out.below ((Below.refl _ _).alloc (Nat.le_refl _) _)
    have HW := Lib.hid hw
    have H0 := Lib.hid h0
    clear hw h0
    go_enter Tryz.func185, Tryz.ntmps185
    go_wp2_with (at_builtin; refine wpList_append_own _ rfl _ _ 24 rfl w.heap.size 5 i0 (.int .u8 0) 1 1 Tryz.underlying24 hi hz0 hz1 hz2 rfl (by decide) _ _ _ rfl H0.out a l.length cp (Lib.byteCells l) rfl (by rw [Lib.byteCells_length]; omega) HW.out.src (byteCells_one l) (by unfold maxLen; omega) (by omega) (by simp) ?_)
    intro v' w5 hown5 hgrow _
    have hb5 : Below w.heap.size w w5 := ((Below.refl _ _).alloc (Nat.le_refl _) _).grown hgrow (by simp) (by intro kk e; exact own_base H0.out kk e)
    go_wp2_with fail
    go_ret
    exact ⟨_, rfl, hown5, hb5⟩
end Go.Proofs.YtkdnfjafabgioaaGreatDoor.Own
