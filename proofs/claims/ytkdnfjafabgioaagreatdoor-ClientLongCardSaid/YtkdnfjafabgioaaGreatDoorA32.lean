import Derived.Test.YtkdnfjafabgioaaGreatDoorA31
set_option linter.unusedVariables false
set_option linter.unusedSimpArgs false
namespace Go.Proofs.YtkdnfjafabgioaaGreatDoor.Own
open Go.RowKit Go.Shelf

/-- A mailbox as it is written. -/
def boxOf (l : List UInt8) : List UInt8 := if allB atomB l then l else bestOf l

theorem bestOf_len (l : List UInt8) (hl : l.length < 4294967296) : (bestOf l).length ≤ 2 * l.length + 30 := by
  unfold bestOf
  split
  · rename_i q hq
    unfold quotedOf at hq
    split at hq
    · cases hq
      have := escL_len l
      simp
      omega
    · cases hq
  · unfold litOf litHead
    have := dec_len l.length hl
    simp
    omega
theorem boxOf_len (l : List UInt8) (hl : l.length < 4294967296) : (boxOf l).length ≤ 2 * l.length + 30 := by
  unfold boxOf
  split
  · omega
  · exact bestOf_len l hl

set_option maxRecDepth 100000 in
set_option maxHeartbeats 1600000 in
theorem mailbox_any (l : List UInt8) (hl : l.length ≤ 1000000) (w : World) (hE : Env w) :
    Calls Tryz.prog 57 #[.string ⟨l.toArray⟩] w fun e w' => e = .returned (.string ⟨(boxOf l).toArray⟩) ∧ Below w.heap.size w w' := by
  have hat : Calls Tryz.prog 52 #[.string ⟨l.toArray⟩, .func (.func 108) #[] #[]] w fun e w' => e = .returned (.bool (allB atomB l)) ∧ Below w.heap.size w w' := all_atom ⟨l.toArray⟩ (by rw [bsz]; unfold maxLen; omega) w
  obtain ⟨R, hR⟩ : ∃ R, R = boxOf l := ⟨_, rfl⟩
  rw [← hR]
  have HE := Lib.hid hE
  cases h : allB atomB l with
  | true =>
    rw [h] at hat
    have hr : R = l := by rw [hR]; unfold boxOf; rw [if_pos h]
    have HA := Lib.hid hat
    have HR := Lib.hid hr
    clear hat hr hR hE h
    go_enter Tryz.func57, Tryz.ntmps57
    go_wp2_with fail
    refine HA.out.mono ?_
    rintro e w1 ⟨rfl, hb⟩
    go_wp2_with fail
    go_ret
    exact ⟨by rw [HR.out]; rfl, hb⟩
  | false =>
    rw [h] at hat
    have hr : R = bestOf l := by rw [hR]; unfold boxOf; rw [h]; rfl
    have kb := run_bytes ⟨l.toArray⟩
    have HA := Lib.hid hat
    have HR := Lib.hid hr
    clear hat hr hR hE h
    go_enter Tryz.func57, Tryz.ntmps57
    go_wp2_with fail
    refine HA.out.mono ?_
    rintro e w1 ⟨rfl, hb⟩
    have hbb := bytesWorld_below w1 ⟨l.toArray⟩
    have hby : Byt (Lib.bytesWorld w1 5 ⟨l.toArray⟩) (some ⟨w1.heap.size, 0, none⟩) l := (bytesN w1 ⟨l.toArray⟩).byt (by unfold maxLen; show l.length ≤ _; omega)
    have hbst := best_any (some ⟨w1.heap.size, 0, none⟩) (grownCap w1 l.length 0 5) l _ ((HE.out.below hb).below hbb) hby (by omega)
    rw [← HR.out] at hbst
    have HB := Lib.hid (And.intro hb (And.intro hbb hbst))
    have hRl : R.length ≤ 3000000 := by rw [HR.out]; have := bestOf_len l (by omega); omega
    clear hb hbb hby hbst
    go_wp2_with fail
    refine HB.out.2.2.mono ?_
    rintro e w2 ⟨v, rfl, N, c, rfl, h1, h2, h3, h4, h5⟩
    have ks := (h4.byt (by unfold maxLen; omega)).string c
    have HB5 := Lib.hid h5
    clear h4 h5 h2 h3 h1
    go_wp2_with fail
    go_ret
    exact ⟨rfl, HB.out.1.trans ((HB.out.2.1.mono HB.out.1.size).trans (HB5.out.mono (Nat.le_trans HB.out.1.size HB.out.2.1.size)))⟩
end Go.Proofs.YtkdnfjafabgioaaGreatDoor.Own
