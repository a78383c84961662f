import Derived.Test.YtkdnfjafabgioaaGreatDoorA12
import Derived.Lib.BufferWrite
import Derived.Laws.CopyOwn
set_option linter.unusedVariables false
set_option linter.unusedSimpArgs false
namespace Go.Proofs.YtkdnfjafabgioaaGreatDoor.Own
open Go.RowKit Go.Shelf

def litHead (n : Nat) : List UInt8 := 123 :: (Lib.decDigits n ++ [125, 13, 10])
def litOf (l : List UInt8) : List UInt8 := litHead l.length ++ l
theorem dec_len (n : Nat) (h : n < 4294967296) : (Lib.decDigits n).length ≤ 20 := by
  rw [Lib.decDigits_length]
  by_cases h0 : n = 0
  · subst h0; decide +kernel
  · have := Lib.numDigits_eq n (by omega) (by omega)
    split at this <;> omega
theorem BytN.of_heap {w : World} {N : Nat} {l : List UInt8} (h : w.heap[N]? = some (.cells (Lib.byteCells l).toArray 5 (0, 0))) : BytN w N l := by
  constructor
  · intro j hj
    simp only [World.cell?, h]
    simp [Lib.byteCells, List.getD_eq_getElem?_getD, hj]
  · intro j hj
    simp only [World.frozen?, h]
    simp

/-- Bytes in a new block. -/
def BytRes (w : World) (l : List UInt8) (v : Value) (w' : World) : Prop := ∃ N c, v = .slice (some ⟨N, 0, none⟩) l.length c ∧ l.length ≤ c ∧ w.heap.size ≤ N ∧ N < w'.heap.size ∧ BytN w' N l ∧ Below w.heap.size w w'

set_option maxRecDepth 100000 in
set_option maxHeartbeats 3200000 in
theorem literal_any (A : Option Addr) (cp : Nat) (l : List UInt8) (w : World) (hE : Env w) (hA : Byt w A l) (hl : l.length ≤ 1000000000) :
    Calls Tryz.prog 60 #[.slice A l.length cp] w fun e w' => ∃ v, e = .returned v ∧ BytRes w (litOf l) v w' := by
  obtain ⟨i0, hi, hz0, hz1, hz2⟩ := info_parts info5
  have hdl := dec_len l.length (by omega)
  have HA := Lib.hid hA
  have hdec := decimal_any l.length (by omega) w hE
  have HD := Lib.hid hdec
  obtain ⟨d, hd⟩ : ∃ d, d = (Lib.decDigits l.length).length := ⟨_, rfl⟩
  have HDD := Lib.hid hd
  have hdl0 := hdl
  rw [← hd] at hdl
  obtain ⟨n, hn⟩ : ∃ n, n = l.length := ⟨_, rfl⟩
  obtain ⟨m, hm⟩ : ∃ m, m = d + 4 + n := ⟨_, rfl⟩
  have HM := Lib.hid hm
  have HN := Lib.hid hn
  obtain ⟨S, hS⟩ : ∃ S : ByteArray, S = ⟨#[123]⟩ ++ ⟨(Lib.decDigits l.length).toArray⟩ ++ ⟨#[125]⟩ ++ ⟨#[13, 10]⟩ := ⟨_, rfl⟩
  have hSd : S.data.toList = litHead n := by rw [hS, hn]; simp [litHead]
  have hSz : S.size = d + 4 := by
    have : S.data.toList.length = d + 4 := by rw [hSd]; simp [litHead, hd, hn]
    simpa using this
  have hml : m ≤ 1000000024 := by omega
  have hmd : d + 4 ≤ m := by omega
  have HS := Lib.hid hS
  have HSD := Lib.hid hSd
  have HSZ := Lib.hid hSz
  clear hA hE hdec hd hn hm hS hSd hSz
  go_enter Tryz.func60, Tryz.ntmps60
  go_wp2_with fail
  refine HD.out.mono ?_
  rintro e w1 ⟨rfl, hb1⟩
  go_wp2_with (at_make; go_must (refine wpList_make_full _ rfl _ _ 24 rfl w1.heap.size 5 i0 (.int .u8 0) 1 Tryz.underlying24 hi hz0 hz1 .i64 .i64 _ _ m rfl rfl ?_ ?_ ?_ ?_ (Nat.le_refl _) ?_))
  · have := HM.out; have := HN.out; have := HDD.out; omega
  · have := HM.out; have := HN.out; have := HDD.out; omega
  · rw [hz2]; omega
  · unfold maxLen; omega
  · intro w2 hown2 hg2
    obtain ⟨cur, hcur, hcs⟩ : ∃ cur, w2.heap[w1.heap.size]? = some (.cells cur 5 (0, 0)) ∧ cur.size = m := by
      rcases hown2.2 with ⟨hv, _⟩ | ⟨g, cap, cur, hv, _, hh, _, _, hc, _⟩
      · cases hv
      · cases hv
        exact ⟨cur, hh, by omega⟩
    have hcp := Lib.run_copy_row_string (P := Tryz.prog) w2 24 9 3 5 w1.heap.size 0 m m S cur 5 Tryz.underlying24 (by kernel_rfl) hcur (by rw [HSZ.out]; exact hmd) (by rw [HSZ.out, hcs]; omega)
    rw [HSZ.out] at hcp
    obtain ⟨W3, hW3⟩ : ∃ W3, W3 = w2.setRow w1.heap.size (cur.toList.take 0 ++ Lib.byteCells S.data.toList ++ cur.toList.drop (0 + (d + 4))).toArray := ⟨_, rfl⟩
    rw [← hW3] at hcp
    have hh3 : W3.heap[w1.heap.size]? = some (.cells (Lib.byteCells (litHead n) ++ cur.toList.drop (d + 4)).toArray 5 (0, 0)) := by
      rw [hW3, setRow_heap w2 w1.heap.size _ _ 5 _ hcur, HSD.out]
      simp
    have hb3 : Below w.heap.size w W3 := by
      rw [hW3]
      exact below_setRow (hb1.grown hg2 hb1.size (by simp)) hb1.size _
    have hz3 : w1.heap.size < W3.heap.size := (Array.getElem?_eq_some_iff.1 hh3).1
    have hhl : (litHead n).length = d + 4 := by simp [litHead, HDD.out, HN.out]
    have hll : (litOf l).length = m := by unfold litOf; rw [List.length_append, ← HN.out, hhl, HM.out]
    rw [← HS.out, ← HDD.out]
    have HH3 := Lib.hid hh3
    have HHL := Lib.hid hhl
    have HLL := Lib.hid hll
    clear hown2 hW3 hh3 hcur hhl hll
    by_cases hn0 : n = 0
    · have hl0 : l = [] := List.eq_nil_of_length_eq_zero (by rw [← HN.out]; exact hn0)
      have hmd2 : m = d + 4 := by have := HM.out; omega
      have hcp2 : ∀ (dp : Option Addr) (x y : Nat), (Builtin.copy_ #[24, 24] 3 #[.slice dp x y, .slice A 0 cp]).run Tryz.prog W3 = .ok (goInt 0) W3 := fun dp x y => run_copy_none W3 24 24 3 5 dp A x y 0 cp Tryz.underlying24 (by kernel_rfl) (by simp)
      have hfin : BytN W3 w1.heap.size (litOf l) := by
        apply BytN.of_heap
        rw [HH3.out, List.drop_of_length_le (by simp; omega)]
        unfold litOf
        rw [← HN.out, hl0]
        simp
      have HF := Lib.hid hfin
      clear hfin
      subst hl0
      subst hmd2
      go_wp2_with fail
      all_goals
        go_ret
        exact ⟨_, rfl, w1.heap.size, d + 4, by rw [HLL.out]; rfl, by rw [HLL.out]; exact Nat.le_refl _, hb1.size, hz3, HF.out, hb3⟩
    · obtain ⟨b, o, rfl, hbz, hcell⟩ := HA.out.at (by rw [← HN.out]; omega)
      have hw1 := hb1.size
      have hsrc : ∀ j v, (Lib.byteCells l)[j]? = some v → W3.cell? ((⟨b, o, none⟩ : Addr).add j) = some v := by
        intro j v hj
        have hjl : j < l.length := by
          have := (List.getElem?_eq_some_iff.1 hj).1
          simpa [Lib.byteCells] using this
        have h1 : W3.cell? ⟨b, o + j, none⟩ = some (.int .u8 ((l.getD j 0).toNat : Int)) := (hb3.cell (p := ⟨b, o + j, none⟩) hbz).trans (hcell j hjl)
        have e1 : (⟨b, o, none⟩ : Addr).add j = ⟨b, o + j, none⟩ := by unfold Addr.add; split <;> simp_all
        rw [e1, h1]
        simp only [Lib.byteCells, List.getElem?_map] at hj
        simpa [List.getD_eq_getElem?_getD, hjl] using hj
      have hcp2 := run_copy_row (P := Tryz.prog) W3 24 24 3 5 w1.heap.size (d + 4) (m - (d + 4)) (m - (d + 4)) ⟨b, o, none⟩ l.length cp _ 5 (Lib.byteCells l) Tryz.underlying24 (by kernel_rfl) HH3.out
        (by rw [Lib.byteCells_length, ← HN.out]; have := HM.out; exact (Nat.min_eq_left (by omega)).symm) hsrc (by simp [Lib.byteCells_length, hcs]; rw [HHL.out, ← HN.out]; have := HM.out; omega) (Lib.byteCells_one _)
      rw [Lib.byteCells_length] at hcp2
      obtain ⟨W4, hW4⟩ : ∃ W4, W4 = W3.setRow w1.heap.size (((Lib.byteCells (litHead n) ++ cur.toList.drop (d + 4)).toArray.toList.take (d + 4) ++ Lib.byteCells l ++ (Lib.byteCells (litHead n) ++ cur.toList.drop (d + 4)).toArray.toList.drop (d + 4 + l.length)).toArray) := ⟨_, rfl⟩
      rw [← hW4] at hcp2
      have hfin : BytN W4 w1.heap.size (litOf l) := by
        apply BytN.of_heap
        rw [hW4, setRow_heap W3 w1.heap.size _ _ 5 _ HH3.out]
        have e : ((Lib.byteCells (litHead n) ++ cur.toList.drop (d + 4)).toArray.toList.take (d + 4) ++ Lib.byteCells l ++ (Lib.byteCells (litHead n) ++ cur.toList.drop (d + 4)).toArray.toList.drop (d + 4 + l.length)) = Lib.byteCells (litOf l) := by
          have hk : (Lib.byteCells (litHead n)).length = d + 4 := by rw [Lib.byteCells_length, HHL.out]
          rw [List.take_left' hk, List.drop_of_length_le (by simp [hk, hcs]; rw [← HN.out]; have := HM.out; omega), List.append_nil]
          unfold litOf
          rw [← HN.out]
          simp [Lib.byteCells]
        rw [e]
      have hb4 : Below w.heap.size w W4 := by rw [hW4]; exact below_setRow hb3 hw1 _
      have hz4 : w1.heap.size < W4.heap.size := by rw [hW4]; simpa [World.setRow] using hz3
      have HF := Lib.hid hfin
      have hnm : ¬ m = d + 4 := by have := HM.out; omega
      clear hfin hW4 hsrc hcell
      go_wp2_with fail
      go_ret
      exact ⟨_, rfl, w1.heap.size, m, by rw [HLL.out]; rfl, by rw [HLL.out]; exact Nat.le_refl _, hb1.size, hz4, HF.out, hb4⟩
end Go.Proofs.YtkdnfjafabgioaaGreatDoor.Own
