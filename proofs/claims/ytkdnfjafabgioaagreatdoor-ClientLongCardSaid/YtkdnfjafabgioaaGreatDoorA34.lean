import Derived.Test.YtkdnfjafabgioaaGreatDoorA33
set_option linter.unusedVariables false
set_option linter.unusedSimpArgs false
namespace Go.Proofs.YtkdnfjafabgioaaGreatDoor.Own
open Go.RowKit Go.Shelf

/-- The words of a line, in a variable's cell. -/
def LineIn (w : World) (B L : Nat) (ss : List (List UInt8)) : Prop := ∃ v, w.heap[L]? = some (.cells #[v] 50 (0, 0)) ∧ w.ownsRow B 9 1 v ss.length (strCells ss)
theorem LineIn.below {w w' : World} {B L : Nat} {ss : List (List UInt8)} (h : LineIn w B L ss) (hb : Below w.heap.size w w') : LineIn w' B L ss := by
  obtain ⟨v, h1, h2⟩ := h
  exact ⟨v, (hb.block L (Array.getElem?_eq_some_iff.1 h1).1).trans h1, ownsRow_below h2 hb⟩
theorem LineIn.lt {w : World} {B L : Nat} {ss : List (List UInt8)} (h : LineIn w B L ss) : L < w.heap.size := by
  obtain ⟨v, h1, _⟩ := h
  exact (Array.getElem?_eq_some_iff.1 h1).1
theorem strCells_one (l : List (List UInt8)) : ∀ u ∈ strCells l, u.oneCell' = true := by
  intro u hu
  simp only [strCells, List.mem_map] at hu
  obtain ⟨b, _, rfl⟩ := hu
  rfl

/-- Whatever is neither the line's variable nor a row of strings is kept. -/
def KeepL (L : Nat) (w w' : World) : Prop := ∀ j o, w.heap[j]? = some o → j ≠ L → (∀ cur fz, o ≠ .cells cur 9 fz) → w'.heap[j]? = some o
theorem KeepL.trans {L : Nat} {a b c : World} (h : KeepL L a b) (k : KeepL L b c) : KeepL L a c := fun j o ho hj hc => k j o (h j o ho hj hc) hj hc
theorem KeepL.of_below {L : Nat} {w w' : World} (h : Below w.heap.size w w') : KeepL L w w' := fun j o ho _ _ => (h.block j (Array.getElem?_eq_some_iff.1 ho).1).trans ho

set_option maxRecDepth 100000 in
set_option maxHeartbeats 1600000 in
/-- The closure that Print hands to the writers: it appends words. -/
theorem addWords (b n cp B L : Nat) (ss ps : List (List UInt8)) (w : World) (h : LineIn w B L ss) (hn : n = ps.length) (hs : ∀ j u, (strCells ps)[j]? = some u → w.cell? ((⟨b, 0, none⟩ : Addr).add j) = some u) (hlen : ss.length + ps.length ≤ 1000) (hB : B ≤ L) :
    Calls Tryz.prog 30 #[.slice (some ⟨b, 0, none⟩) n cp, .pointer (some ⟨L, 0, none⟩)] w fun e w' => e = .returned (.tuple #[]) ∧ LineIn w' B L (ss ++ ps) ∧ Below B w w' ∧ KeepL L w w' := by
  obtain ⟨i0, hi, hz0, hz1, hz2⟩ := info_parts info9
  subst hn
  have hL := h.lt
  obtain ⟨v, h1, h2⟩ := h
  obtain ⟨A, c, rfl, _⟩ := own_row0 h2
  have c0 : w.cell? ⟨L, 0, none⟩ = some (.slice A ss.length c) := by simp [World.cell?, h1]
  have HO := Lib.hid (And.intro h1 h2)
  have HS := Lib.hid hs
  clear h1 h2 hs
  go_enter Tryz.func30, Tryz.ntmps30
  go_wp2_with (at_builtin; refine wpList_append_own _ rfl _ _ 50 rfl B 9 i0 (.string ⟨#[]⟩) 1 16 Tryz.underlying50 hi hz0 hz1 hz2 rfl (by decide) _ _ _ rfl HO.out.2 ⟨b, 0, none⟩ ps.length cp (strCells ps) rfl (by simp [strCells]) HS.out (strCells_one ps) (by unfold maxLen; omega) (by omega) (by omega) ?_)
  intro v' w5 hown5 hgrow _
  have hO5 : w5.heap[L]? = some (.cells #[.slice A ss.length c] 50 (0, 0)) := by
    rw [hgrow.block L hL ?_]
    · exact HO.out.1
    · intro e
      rcases own_ne HO.out.2 (k := L) (by rw [HO.out.1]; simp) with h | h
      · rw [h] at e; cases e
      · exact h e.symm
  obtain ⟨A5, c5, rfl, _⟩ := own_row0 hown5
  have k5 : w5.cell? ⟨L, 0, none⟩ = some (.slice A ss.length c) := by simp [World.cell?, hO5]
  have f5 : w5.frozen? ⟨L, 0, none⟩ = false := by simp [World.frozen?, hO5]
  have hb5 : Below B w w5 := (Below.refl _ w).grown hgrow (by omega) (by intro kk e; exact own_base HO.out.2 kk e)
  have hx : strCells ss ++ strCells ps = strCells (ss ++ ps) := by simp [strCells]
  rw [hx] at hown5
  have hkl : KeepL L w w5 := by
    intro j o ho hj hc
    rw [hgrow.block j (Array.getElem?_eq_some_iff.1 ho).1 ?_]
    · exact ho
    · intro e
      rcases HO.out.2.2 with ⟨e1, _⟩ | ⟨g, cap, cur, e1, _, hh, _⟩
      · rw [e1] at e; simp [Value.ownBlock] at e
      · rw [e1] at e
        have : j = g := by simpa [Value.ownBlock] using e
        subst this
        rw [ho] at hh
        exact hc _ _ (Option.some.inj hh)
  have HQ := Lib.hid (And.intro hO5 (And.intro hown5 (And.intro hb5 hkl)))
  clear hO5 hown5 hb5 hgrow hkl
  go_wp2_with fail
  go_end0
  obtain ⟨hO5, hown5, hb5, hkl⟩ := HQ.out
  exact ⟨rfl, ⟨_, heap_setCell_one hO5 _, by rw [List.length_append]; exact hown5.kept (grown_setCell w5 L 0 _) (own_ne hown5 (by rw [hO5]; simp))⟩, hb5.setCell hB _, hkl.trans (fun j o ho hj _ => ((grown_setCell w5 L 0 _).block j (Array.getElem?_eq_some_iff.1 ho).1 (by simpa using hj)).trans ho)⟩
end Go.Proofs.YtkdnfjafabgioaaGreatDoor.Own
