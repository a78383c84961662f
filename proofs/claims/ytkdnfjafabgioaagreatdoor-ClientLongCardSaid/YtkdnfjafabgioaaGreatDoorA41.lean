import Derived.Test.YtkdnfjafabgioaaGreatDoorA40
set_option linter.unusedVariables false
set_option linter.unusedSimpArgs false
namespace Go.Proofs.YtkdnfjafabgioaaGreatDoor.Own
open Go.RowKit Go.Shelf

theorem FrRow.at {w : World} {B : Nat} : ∀ {fs : List (Nat × List UInt8)} {xs : List Value}, FrRow w B fs xs → ∀ (k : Nat) (h : k < fs.length), ∃ v, xs[k * 2]? = some (.int .i64 (fs[k].1 : Int)) ∧ xs[k * 2 + 1]? = some v ∧ w.ownsRow B 5 1 v fs[k].2.length (Lib.byteCells fs[k].2)
  | [], _, _, k, h => absurd h (by simp)
  | (k', d') :: fs, xs, ⟨v', r, e, h1, h2⟩, 0, _ => ⟨v', by rw [e]; rfl, by rw [e]; rfl, h1⟩
  | (k', d') :: fs, xs, ⟨v', r, e, h1, h2⟩, k + 1, h => by
    obtain ⟨v, g1, g2, g3⟩ := FrRow.at h2 k (by simpa using h)
    refine ⟨v, ?_, ?_, g3⟩
    · rw [e, show (k + 1) * 2 = k * 2 + 1 + 1 by omega]; simpa using g1
    · rw [e, show (k + 1) * 2 + 1 = k * 2 + 1 + 1 + 1 by omega]; simpa using g2
theorem readyN_snoc (fs : List (Nat × List UInt8)) (k : Nat) (h : k < fs.length) : readyN (fs.take (k + 1)) = readyN (fs.take k) + if fs[k].1 = 2 then 1 else 0 := by
  unfold readyN
  rw [List.take_succ_eq_append_getElem h, List.filter_append, List.length_append]
  congr 1
  by_cases e : fs[k].1 = 2
  · simp [List.filter, e]
  · have e' : (fs[k].1 == 2) = false := by simpa using e
    simp [List.filter, e, e']
theorem readyN_le (fs : List (Nat × List UInt8)) : readyN fs ≤ fs.length := List.length_filter_le _ _

theorem print_len {c : Cmd} {b : List UInt8} (h : printOf c = some b) (ht : c.tag.length ≤ 1000000) (hs : c.set.length ≤ 1000000) (hr : ∀ r ∈ c.set, r.1 < 4294967296 ∧ r.2 < 4294967296) : b.length ≤ 300000002 := by
  unfold printOf at h
  split at h
  · rename_i hv
    split at h
    · cases h
      have := (words_bound c hv ht hs hr).2
      simp
      omega
    · cases h
  · cases h

set_option maxRecDepth 100000 in
set_option maxHeartbeats 3200000 in
theorem literals_any (c : Cmd) (SA DA : Option Addr) (sc dc : Nat) (w : World) (h : CmdIn w c (.slice SA c.set.length sc) (.slice DA c.data.length dc)) (hE : Env w) (ht : c.tag.length ≤ 1000000) (hs : c.set.length ≤ 1000000) (hr : ∀ r ∈ c.set, r.1 < 4294967296 ∧ r.2 < 4294967296) :
    Calls Tryz.prog 14 #[cmdV c (.slice SA c.set.length sc) (.slice DA c.data.length dc)] w fun e w' => e = .returned (.int .i64 (literalsOf c : Int)) ∧ Below w.heap.size w w' := by
  obtain ⟨tag, kind, box, set, items, mode, silent, flags, data⟩ := c
  simp only at *
  obtain ⟨o, ho⟩ : ∃ o, o = Obj.cells #[.string ⟨tag.toArray⟩, .int .i64 kind, .string ⟨box.toArray⟩, .slice SA set.length sc, .int .i64 items, .int .i64 mode, .bool silent, .int .u8 (flags : Int), .slice DA data.length dc] 26 (0, 0) := ⟨_, rfl⟩
  have hst : PSt w o (w.alloc o) := ⟨(Below.refl _ _).alloc (Nat.le_refl _) _, World.alloc_heap_new w o, by simp⟩
  have hp := print_any ⟨tag, kind, box, set, items, mode, silent, flags, data⟩ SA DA sc dc (w.alloc o) (h.below hst.bel) (hE.below hst.bel) ht hs hr
  unfold PrintP at hp
  obtain ⟨n0, hn0⟩ : ∃ n, n = literalsOf ⟨tag, kind, box, set, items, mode, silent, flags, data⟩ := ⟨_, rfl⟩
  rw [← hn0]
  unfold literalsOf at hn0
  cases hpo : printOf ⟨tag, kind, box, set, items, mode, silent, flags, data⟩ with
  | none =>
    rw [hpo] at hp hn0
    simp only at hp hn0
    subst hn0
    unfold cmdV at *
    simp only at *
    have HP := Lib.hid hp
    have HO := Lib.hid ho
    clear hp ho hpo h hE
    go_enter Tryz.func14, Tryz.ntmps14
    go_wp2_with fail
    rw [← HO.out]
    refine HP.out.mono ?_
    rintro e w1 ⟨hb1, rfl⟩
    go_wp2_with fail
    go_ret
    exact ⟨rfl, hst.bel.trans (hb1.mono (by simp))⟩
  | some b =>
    rw [hpo] at hp hn0
    simp only at hp hn0
    have hbl := print_len hpo ht hs hr
    unfold cmdV at *
    simp only at *
    have HP := Lib.hid hp
    have HO := Lib.hid ho
    have HE := Lib.hid hE
    have HN := Lib.hid hn0
    clear hp ho hpo h hE hn0
    go_enter Tryz.func14, Tryz.ntmps14
    go_wp2_with fail
    rw [← HO.out]
    refine HP.out.mono ?_
    rintro e w1 ⟨hb1, v1, rfl, N, cp, rfl, g1, g2, g3, g4, g5⟩
    have hb2 : Below w.heap.size w w1 := hst.bel.trans (hb1.mono (by simp))
    have hsp := split_frames (some ⟨N, 0, none⟩) cp b w1 (g4.byt (by unfold maxLen; omega)) (by omega) (fun e => by cases e) (HE.out.below hb2)
    obtain ⟨r, hr1⟩ : ∃ r, r = framesS b 0 0 := ⟨_, rfl⟩
    rw [← hr1] at hsp
    obtain ⟨fs, q⟩ := r
    have hlen : fs.length ≤ 400000000 := by have := framesS_len b.length b 0 0 (by omega); rw [← hr1] at this; simp only at this; omega
    have HQ := Lib.hid (And.intro hsp (And.intro hr1 hb2))
    clear hsp hr1 hb1 hb2 g1 g2 g3 g4 g5 hst
    go_wp2_with fail
    refine HQ.out.1.mono ?_
    rintro e w8 ⟨v8, xs, rfl, h1, h2, h3⟩
    have hb8 : Below w.heap.size w w8 := HQ.out.2.2.trans (h3.mono HQ.out.2.2.size)
    simp only at h1 h2
    obtain ⟨A8, c8, rfl, hr0, hlc, _, hcc, _⟩ := own_row0 h1
    have H1 := Lib.hid h1
    have H2 := Lib.hid h2
    have H8 := Lib.hid hb8
    clear h1 h2 h3 hb8 hcc
    go_wp2_with fail
    go_loopw [5, 24] (fun v i wr => ∃ k : Nat, k ≤ fs.length ∧ i = .int .i64 k ∧ v = .int .i64 (readyN (fs.take k) : Nat) ∧ Below w8.heap.size w8 wr)
      (fun _ i _ => fs.length - (intOf i).toNat)
    case atStart => exact ⟨0, by omega, rfl, rfl, Below.refl _ _⟩
    case round =>
      obtain ⟨k, hk, rfl, rfl, hb⟩ := hrel
      by_cases hlt : k < fs.length
      · obtain ⟨v, x1, x2, x3⟩ := FrRow.at H2.out k hlt
        obtain ⟨g, cap, hge⟩ := own_shape H1.out (by omega)
        simp only [Value.slice.injEq] at hge
        obtain ⟨rfl, -, rfl⟩ := hge
        have hg8 : g < w8.heap.size := World.block_lt_of_cell? w8 _ ((World.ownsRow.cellAt H1.out (k * 2) (by omega)).trans x1)
        have cA : wr.cell? ⟨g, k * 2, none⟩ = some (.int .i64 (fs[k].1 : Int)) := (hb.cell (p := ⟨g, k * 2, none⟩) hg8).trans ((World.ownsRow.cellAt H1.out (k * 2) (by omega)).trans x1)
        have cB : wr.cell? ⟨g, k * 2 + 1, none⟩ = some v := (hb.cell (p := ⟨g, k * 2 + 1, none⟩) hg8).trans ((World.ownsRow.cellAt H1.out (k * 2 + 1) (by omega)).trans x2)
        have hv1 : v.oneCell' = true := own_one x3
        have hsn := readyN_snoc fs k hlt
        have hrl := readyN_le (fs.take k)
        have hrl2 : (fs.take k).length ≤ k := List.length_take_le _ _
        obtain ⟨Av, cv, rfl, _⟩ := own_row0 x3
        obtain ⟨m, hm⟩ : ∃ m, m = fs[k].1 := ⟨_, rfl⟩
        rw [← hm] at cA hsn
        obtain ⟨dl, hdl⟩ : ∃ dl, dl = fs[k].2.length := ⟨_, rfl⟩
        rw [← hdl] at cB
        obtain ⟨rn, hrn⟩ : ∃ rn, rn = readyN (fs.take k) := ⟨_, rfl⟩
        rw [← hrn] at hrl hsn ⊢
        have HSN := Lib.hid hsn
        have hbz := hb.size
        have HB := Lib.hid hb
        clear x1 x2 x3 hsn hm hdl hrn hb
        by_cases hm2 : m = 2
        · subst hm2
          go_wp2_with fail
          go_roundw
          case rel => exact ⟨k + 1, by omega, by go_num, by rw [HSN.out, if_pos rfl]; go_num, HB.out.alloc hbz _⟩
          case measure => simp [intOf]; omega
        · have hm3 : ((m : Int) == 2) = false := by rw [beq_eq_false_iff_ne]; omega
          have HM := Lib.hid hm2
          clear hm2
          go_wp2_with fail
          go_roundw
          case rel => exact ⟨k + 1, by omega, by go_num, by rw [HSN.out, if_neg HM.out]; rfl, HB.out.alloc hbz _⟩
          case measure => simp [intOf]; omega
      · obtain rfl : k = fs.length := by omega
        rw [List.take_of_length_le (Nat.le_refl _)]
        have hfin : n0 = readyN fs := by rw [HN.out, ← HQ.out.2.1]
        have HF := Lib.hid hfin
        have HB := Lib.hid hb
        clear hb hfin
        go_wp2_with fail
        go_ret
        exact ⟨by rw [HF.out]; rfl, H8.out.trans (HB.out.mono H8.out.size)⟩
end Go.Proofs.YtkdnfjafabgioaaGreatDoor.Own
