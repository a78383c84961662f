import Derived.Test.YtkdnfjafabgioaaGreatDoorA35
import Derived.Deep.RegionHeld3
set_option linter.unusedVariables false
set_option linter.unusedSimpArgs false
namespace Go.Proofs.YtkdnfjafabgioaaGreatDoor.Own
open Go.RowKit Go.Shelf

/-- What a writer finds in every world of its own. -/
structure WSt (w : World) (B L : Nat) (ss : List (List UInt8)) (o : Obj) (W : World) : Prop where
  bel : Below B w W
  line : LineIn W B L ss
  box : W.heap[w.heap.size]? = some o
  size : w.heap.size + 1 ≤ W.heap.size
theorem WSt.below {w W W' : World} {B L : Nat} {ss : List (List UInt8)} {o : Obj} (h : WSt w B L ss o W) (hb : Below W.heap.size W W') (hB : B ≤ w.heap.size) : WSt w B L ss o W' :=
  ⟨h.bel.trans (hb.mono (by have := h.size; omega)), h.line.below hb, (hb.block _ (Array.getElem?_eq_some_iff.1 h.box).1).trans h.box, Nat.le_trans h.size hb.size⟩
theorem WSt.alloc {w W : World} {B L : Nat} {ss : List (List UInt8)} {o : Obj} (h : WSt w B L ss o W) (hB : B ≤ w.heap.size) (x : Obj) : WSt w B L ss o (W.alloc x) := h.below ((Below.refl _ _).alloc (Nat.le_refl _) x) hB
theorem WSt.drew {w W : World} {B L : Nat} {ss : List (List UInt8)} {o : Obj} (h : WSt w B L ss o W) : WSt w B L ss o W.drew := ⟨h.bel.drew, h.line, h.box, h.size⟩

set_option maxRecDepth 100000 in
set_option maxHeartbeats 3200000 in
theorem writer3 (c : Cmd) (n : Nat) (hn : c.items = n) (hn32 : n < 32) (SA DA : Option Addr) (sc dc B L : Nat) (ss : List (List UInt8)) (w w0 : World) (hs1 : c.set.length ≤ 1000000) (hsc : c.set.length ≤ sc) (hr : ∀ r ∈ c.set, r.1 < 4294967296 ∧ r.2 < 4294967296) (hS : CellsIn w0 0 SA (rngCells c.set)) (hE : Env w0) (h0 : Below w0.heap.size w0 w) (hB0 : w0.heap.size ≤ B) (h : LineIn w B L ss) (hB : B ≤ L) (hss : ss.length ≤ 100) :
    Calls Tryz.prog 61 #[cmdV c (.slice SA c.set.length sc) (.slice DA c.data.length dc), addF L] w fun e w' => e = .returned (.tuple #[]) ∧ LineIn w' B L (ss ++ [sqPrint c.set, itemsOf n]) ∧ Below B w w' := by
  have hLl := h.lt
  obtain ⟨tag, kind, box, set, items, mode, silent, flags, data⟩ := c
  simp only at *
  subst hn
  have hEw : ∀ W, Below B w W → Below w0.heap.size w0 W := fun W hW => h0.trans (hW.mono hB0)
  have hsq : ∀ W, Below B w W → Calls Tryz.prog 62 #[.slice SA set.length sc] W fun e w' => e = .returned (.string ⟨(sqPrint set).toArray⟩) ∧ Below W.heap.size W w' := fun W hW => sqPrint_any SA sc set W (hE.below (hEw W hW)) hs1 hsc hr (hS.below (hEw W hW))
  have hit : ∀ W, Below B w W → Calls Tryz.prog 63 #[.int .i64 (n : Int)] W fun e w' => e = .returned (.string ⟨(itemsOf n).toArray⟩) ∧ Below W.heap.size W w' := fun W hW => items_any n hn32 W (hE.below (hEw W hW))
  obtain ⟨p1, hp1⟩ : ∃ p, p = sqPrint set := ⟨_, rfl⟩
  obtain ⟨p2, hp2⟩ : ∃ p, p = itemsOf n := ⟨_, rfl⟩
  rw [← hp1] at hsq ⊢
  rw [← hp2] at hit ⊢
  obtain ⟨o, ho⟩ : ∃ o, o = Obj.cells #[.string ⟨tag.toArray⟩, .int .i64 kind, .string ⟨box.toArray⟩, .slice SA set.length sc, .int .i64 n, .int .i64 mode, .bool silent, .int .u8 (flags : Int), .slice DA data.length dc] 26 (0, 0) := ⟨_, rfl⟩
  have hBw : B ≤ w.heap.size := by omega
  have hst : WSt w B L ss o (w.alloc o) := ⟨(Below.refl _ _).alloc hBw _, h.below ((Below.refl _ _).alloc (Nat.le_refl _) _), World.alloc_heap_new w o, by simp⟩
  have hc3 : ∀ W, WSt w B L ss o W → W.cell? ⟨w.heap.size, 3, none⟩ = some (.slice SA set.length sc) ∧ W.cell? ⟨w.heap.size, 4, none⟩ = some (.int .i64 n) := by
    intro W hW
    have := hW.box
    rw [ho] at this
    constructor <;> simp [World.cell?, this]
  have HM := Lib.hid (And.intro hsq hit)
  have HST := Lib.hid hst
  have HC := Lib.hid hc3
  have HO := Lib.hid ho
  clear hsq hit hst hc3 h hE h0 hS hEw hp1 hp2 hr
  unfold cmdV addF
  simp only
  go_enter Tryz.func61, Tryz.ntmps61
  go_wp2_with fail
  rw [← HO.out]
  have hx := HC.out _ HST.out
  obtain ⟨W1, hW1⟩ : ∃ W1, W1 = w.alloc o := ⟨_, rfl⟩
  have hst1 := HST.out
  rw [← hW1] at hx hst1 ⊢
  obtain ⟨c3, c4⟩ := hx
  clear hW1 ho
  have hst2 := hst1.drew
  go_region_with (first
      | (go_at_call 62; refine (HM.out.1 _ (WSt.bel ‹WSt w B L ss o _›)).mono ?_; rintro e w' ⟨rfl, hb'⟩; have hst' := WSt.below ‹WSt w B L ss o _› hb' hBw; have hx' := HC.out _ hst'; have hx3 := hx'.1; have hx4 := hx'.2; clear hx' hb')
      | (go_at_call 63; refine (HM.out.2 _ (WSt.bel ‹WSt w B L ss o _›)).mono ?_; rintro e w' ⟨rfl, hb'⟩; have hst' := WSt.below ‹WSt w B L ss o _› hb' hBw; have hx' := HC.out _ hst'; have hx3 := hx'.1; have hx4 := hx'.2; clear hx' hb')
      | (go_at_call 30; refine (addWords _ 2 2 B L ss [p1, p2] _ (WSt.line (WSt.alloc ‹WSt w B L ss o _› hBw _)) rfl (new_cells _ [.string ⟨p1.toArray⟩, .string ⟨p2.toArray⟩] 9) (by simp; omega) hB).mono ?_; rintro e w9 ⟨rfl, hl9, hb9, hk9⟩; have hst9 := WSt.bel (WSt.alloc ‹WSt w B L ss o _› hBw (.cells #[.string ⟨p1.toArray⟩, .string ⟨p2.toArray⟩] 9))))
  all_goals go_wp2_with fail
  all_goals go_end0
  all_goals exact ⟨rfl, by assumption, Below.trans (by assumption) (by assumption)⟩
end Go.Proofs.YtkdnfjafabgioaaGreatDoor.Own
