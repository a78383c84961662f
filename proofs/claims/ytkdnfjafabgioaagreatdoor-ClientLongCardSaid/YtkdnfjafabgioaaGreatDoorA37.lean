import Derived.Test.YtkdnfjafabgioaaGreatDoorA36
set_option linter.unusedVariables false
set_option linter.unusedSimpArgs false
namespace Go.Proofs.YtkdnfjafabgioaaGreatDoor.Own
open Go.RowKit Go.Shelf

def modeNames : List (List UInt8) := [[70, 76, 65, 71, 83], [43, 70, 76, 65, 71, 83], [45, 70, 76, 65, 71, 83]]
def silentB : List UInt8 := [46, 83, 73, 76, 69, 78, 84]
/-- The word of a mode. -/
def modeOf (m : Nat) (silent : Bool) : List UInt8 := modeNames.getD m [] ++ (if silent then silentB else [])

set_option maxRecDepth 100000 in
set_option maxHeartbeats 3200000 in
theorem writer4 (c : Cmd) (m : Nat) (hm : c.mode = m) (hm3 : m < 3) (hf : c.flags < 32) (SA DA : Option Addr) (sc dc B L : Nat) (ss : List (List UInt8)) (w w0 : World) (hs1 : c.set.length ≤ 1000000) (hsc : c.set.length ≤ sc) (hr : ∀ r ∈ c.set, r.1 < 4294967296 ∧ r.2 < 4294967296) (hS : CellsIn w0 0 SA (rngCells c.set)) (hE : Env w0) (h0 : Below w0.heap.size w0 w) (hB0 : w0.heap.size ≤ B) (h : LineIn w B L ss) (hB : B ≤ L) (hss : ss.length ≤ 100) :
    Calls Tryz.prog 64 #[cmdV c (.slice SA c.set.length sc) (.slice DA c.data.length dc), addF L] w fun e w' => e = .returned (.tuple #[]) ∧ LineIn w' B L (ss ++ [sqPrint c.set, modeOf m c.silent, flagList c.flags]) ∧ Below B w w' := by
  have hLl := h.lt
  obtain ⟨tag, kind, box, set, items, mode, silent, flags, data⟩ := c
  simp only at *
  subst hm
  have hEw : ∀ W, Below B w W → Below w0.heap.size w0 W := fun W hW => h0.trans (hW.mono hB0)
  have hsq : ∀ W, Below B w W → Calls Tryz.prog 62 #[.slice SA set.length sc] W fun e w' => e = .returned (.string ⟨(sqPrint set).toArray⟩) ∧ Below W.heap.size W w' := fun W hW => sqPrint_any SA sc set W (hE.below (hEw W hW)) hs1 hsc hr (hS.below (hEw W hW))
  have hfl : ∀ W, Below B w W → Calls Tryz.prog 59 #[.int .u8 flags] W fun e w' => e = .returned (.string ⟨(flagList flags).toArray⟩) ∧ Below W.heap.size W w' := fun W hW => list_any flags hf W (hE.below (hEw W hW))
  obtain ⟨p1, hp1⟩ : ∃ p, p = sqPrint set := ⟨_, rfl⟩
  obtain ⟨p3, hp3⟩ : ∃ p, p = flagList flags := ⟨_, rfl⟩
  rw [← hp1] at hsq ⊢
  rw [← hp3] at hfl ⊢
  obtain ⟨o, ho⟩ : ∃ o, o = Obj.cells #[.string ⟨tag.toArray⟩, .int .i64 kind, .string ⟨box.toArray⟩, .slice SA set.length sc, .int .i64 items, .int .i64 m, .bool silent, .int .u8 (flags : Int), .slice DA data.length dc] 26 (0, 0) := ⟨_, rfl⟩
  have hBw : B ≤ w.heap.size := by omega
  have hst : WSt w B L ss o (w.alloc o) := ⟨(Below.refl _ _).alloc hBw _, h.below ((Below.refl _ _).alloc (Nat.le_refl _) _), World.alloc_heap_new w o, by simp⟩
  have hst2 := hst.alloc hBw (.cells #[.string ⟨#[70, 76, 65, 71, 83]⟩, .string ⟨#[43, 70, 76, 65, 71, 83]⟩, .string ⟨#[45, 70, 76, 65, 71, 83]⟩] 9)
  have hc3 : ∀ W, WSt w B L ss o W → W.cell? ⟨w.heap.size, 3, none⟩ = some (.slice SA set.length sc) ∧ W.cell? ⟨w.heap.size, 7, none⟩ = some (.int .u8 (flags : Int)) := by
    intro W hW
    have := hW.box
    rw [ho] at this
    constructor <;> simp [World.cell?, this]
  have HM := Lib.hid (And.intro hsq hfl)
  have HST := Lib.hid hst2
  have HC := Lib.hid hc3
  have HO := Lib.hid ho
  clear hsq hfl hst hst2 hc3 h hE h0 hS hEw hp1 hp3 hr
  obtain ⟨M, hM⟩ : ∃ M, M = modeOf m silent := ⟨_, rfl⟩
  rw [← hM]
  unfold cmdV addF
  simp only
  have HMM := Lib.hid hM
  clear hM
  go_enter Tryz.func64, Tryz.ntmps64
  go_upto_region 1 with fail
  go_cut [4] (fun v wx => v = .string ⟨(modeNames.getD m []).toArray⟩ ∧ WSt w B L ss o wx)
  case first =>
    have h3 : m = 0 ∨ m = 1 ∨ m = 2 := by omega
    rcases h3 with rfl | rfl | rfl
    all_goals
      clear ho
      go_wp2_with fail
      go_meet
      have hst1 := HST.out
      rw [HO.out] at hst1
      refine ⟨rfl, ?_⟩
      rw [HO.out]
      exact hst1
  case rest =>
    obtain ⟨rfl, hst1⟩ := hcut
    have hbx := hst1.box
    rw [ho] at hbx
    have c6 : wc.cell? ⟨w.heap.size, 6, none⟩ = some (.bool silent) := by simp [World.cell?, hbx]
    have hst2 := hst1.drew
    have hx1 := HC.out _ hst1
    have c3 := hx1.1
    have c7 := hx1.2
    obtain ⟨M0, hM0⟩ : ∃ M0, M0 = modeNames.getD m [] := ⟨_, rfl⟩
    rw [← hM0]
    have HM0 := Lib.hid hM0
    clear hx1 ho hbx hM0
    cases silent
    · obtain rfl : M0 = M := by rw [HMM.out, HM0.out]; unfold modeOf; simp
      go_wp2_with fail
      go_region_with (first
        | (go_at_call 62; refine (HM.out.1 _ (WSt.bel ‹WSt w B L ss o _›)).mono ?_; rintro e w' ⟨rfl, hb'⟩; have hst' := WSt.below ‹WSt w B L ss o _› hb' hBw; have hx' := HC.out _ hst'; have hx3 := hx'.1; have hx4 := hx'.2; clear hx' hb')
        | (go_at_call 59; refine (HM.out.2 _ (WSt.bel ‹WSt w B L ss o _›)).mono ?_; rintro e w' ⟨rfl, hb'⟩; have hst' := WSt.below ‹WSt w B L ss o _› hb' hBw; have hx' := HC.out _ hst'; have hx3 := hx'.1; have hx4 := hx'.2; clear hx' hb')
        | (go_at_call 30; refine (addWords _ 3 3 B L ss [p1, M0, p3] _ (WSt.line (WSt.alloc ‹WSt w B L ss o _› hBw _)) rfl (new_cells _ [.string ⟨p1.toArray⟩, .string ⟨M0.toArray⟩, .string ⟨p3.toArray⟩] 9) (by simp; omega) hB).mono ?_; rintro e w9 ⟨rfl, hl9, hb9, hk9⟩; have hst9 := WSt.bel (WSt.alloc ‹WSt w B L ss o _› hBw (.cells #[.string ⟨p1.toArray⟩, .string ⟨M0.toArray⟩, .string ⟨p3.toArray⟩] 9))))
      all_goals go_wp2_with fail
      all_goals go_end0
      all_goals exact ⟨rfl, by assumption, Below.trans (by assumption) (by assumption)⟩
    · have hML : M0.length ≤ 10 := by
        rw [HM0.out]
        match m, hm3 with
        | 0, _ => decide
        | 1, _ => decide
        | 2, _ => decide
      have hcat : (⟨M0.toArray⟩ : ByteArray) ++ ⟨#[46, 83, 73, 76, 69, 78, 84]⟩ = ⟨M.toArray⟩ := by
        rw [HMM.out]
        unfold modeOf
        rw [← HM0.out]
        simp only [if_true]
        apply ByteArray.ext
        simp [silentB]
      have HCAT := Lib.hid hcat
      clear hcat
      go_wp2_with fail
      rw [HCAT.out]
      go_region_with (first
        | (go_at_call 62; refine (HM.out.1 _ (WSt.bel ‹WSt w B L ss o _›)).mono ?_; rintro e w' ⟨rfl, hb'⟩; have hst' := WSt.below ‹WSt w B L ss o _› hb' hBw; have hx' := HC.out _ hst'; have hx3 := hx'.1; have hx4 := hx'.2; clear hx' hb')
        | (go_at_call 59; refine (HM.out.2 _ (WSt.bel ‹WSt w B L ss o _›)).mono ?_; rintro e w' ⟨rfl, hb'⟩; have hst' := WSt.below ‹WSt w B L ss o _› hb' hBw; have hx' := HC.out _ hst'; have hx3 := hx'.1; have hx4 := hx'.2; clear hx' hb')
        | (go_at_call 30; refine (addWords _ 3 3 B L ss [p1, M, p3] _ (WSt.line (WSt.alloc ‹WSt w B L ss o _› hBw _)) rfl (new_cells _ [.string ⟨p1.toArray⟩, .string ⟨M.toArray⟩, .string ⟨p3.toArray⟩] 9) (by simp; omega) hB).mono ?_; rintro e w9 ⟨rfl, hl9, hb9, hk9⟩; have hst9 := WSt.bel (WSt.alloc ‹WSt w B L ss o _› hBw (.cells #[.string ⟨p1.toArray⟩, .string ⟨M.toArray⟩, .string ⟨p3.toArray⟩] 9))))
      all_goals go_wp2_with fail
      all_goals go_end0
      all_goals exact ⟨rfl, by assumption, Below.trans (by assumption) (by assumption)⟩
end Go.Proofs.YtkdnfjafabgioaaGreatDoor.Own
