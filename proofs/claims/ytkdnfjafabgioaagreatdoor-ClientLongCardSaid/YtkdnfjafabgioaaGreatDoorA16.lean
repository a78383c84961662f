import Derived.Test.YtkdnfjafabgioaaGreatDoorA15
set_option linter.unusedVariables false
set_option linter.unusedSimpArgs false
namespace Go.Proofs.YtkdnfjafabgioaaGreatDoor.Own
open Go.RowKit Go.Shelf

/-- What a quoted form holds from place a on; the place behind it. -/
def scanQ (l : List UInt8) (a : Nat) (acc : List UInt8) : Option (List UInt8 × Nat) :=
  if h : a < l.length then
    if l.getD a 0 = 34 then some (acc, a + 1)
    else if l.getD a 0 = 92 then
      if a + 1 < l.length ∧ (l.getD (a + 1) 0 = 34 ∨ l.getD (a + 1) 0 = 92) then scanQ l (a + 2) (acc ++ [l.getD (a + 1) 0]) else none
    else if textB (l.getD a 0) then scanQ l (a + 1) (acc ++ [l.getD a 0]) else none
  else none
termination_by l.length - a
def scanQuoted (l : List UInt8) (a : Nat) : Option (List UInt8 × Nat) := if a < l.length ∧ l.getD a 0 = 34 then scanQ l (a + 1) [] else none

theorem Scn.grown {w w' : World} {N : Nat} {A : Option Addr} {n cp at_ : Nat} {v : Value} {row : Option Nat} (h : Scn w N A n cp at_ v) (hg : w.grownBy w' row) (hne : some N ≠ row) : Scn w' N A n cp at_ v := by
  have hb := hg.block N h.lt hne
  exact ⟨(World.cell?_of_block hb).trans h.c0, (World.cell?_of_block hb).trans h.c1, (World.cell?_of_block hb).trans h.c2, fun j => (World.frozen?_of_block (a := ⟨N, j, none⟩) hb).trans (h.fr j)⟩

/-- What the readers of forms leave. -/
def QPost (B : Nat) (w : World) (N : Nat) (A : Option Addr) (n cp : Nat) (r : Option (List UInt8 × Nat)) (e : Ending) (w' : World) : Prop :=
  Below B w w' ∧ (match r with
    | some (out, p) => e = .returned (.bool true) ∧ ∃ v, Scn w' N A n cp p v ∧ w'.ownsRow (N + 1) 5 1 v out.length (Lib.byteCells out)
    | none => e = .returned (.bool false))
theorem QPost.no {B : Nat} {w : World} {N : Nat} {A : Option Addr} {n cp : Nat} {r : Option (List UInt8 × Nat)} {w' : World} (h : r = none) (hb : Below B w w') : QPost B w N A n cp r (.returned (.bool false)) w' := by subst h; exact ⟨hb, rfl⟩
theorem QPost.yes {B : Nat} {w : World} {N : Nat} {A : Option Addr} {n cp : Nat} {r : Option (List UInt8 × Nat)} {w' : World} {out : List UInt8} {p : Nat} (h : r = some (out, p)) (hb : Below B w w') {v : Value} (h1 : Scn w' N A n cp p v) (h2 : w'.ownsRow (N + 1) 5 1 v out.length (Lib.byteCells out)) : QPost B w N A n cp r (.returned (.bool true)) w' := by subst h; exact ⟨hb, rfl, v, h1, h2⟩

theorem Byt.grownRow {w w' : World} {A : Option Addr} {l : List UInt8} {row : Option Nat} (h : Byt w A l) (hg : w.grownBy w' row) (hne : ∀ k, row = some k → ∀ a, A = some a → a.block ≠ k) : Byt w' A l := by
  refine ⟨h.1, fun hn => ?_⟩
  obtain ⟨b, o, e, hbz, hc⟩ := h.at hn
  refine ⟨b, o, e, fun i hi => ?_⟩
  have h1 := hc i hi
  rw [ints_getD, ← h1]
  exact World.cell?_of_block (hg.block b hbz (fun e2 => hne b e2.symm _ e rfl))
theorem grown_setCell (w : World) (N j : Nat) (v : Value) : w.grownBy (w.setCell ⟨N, j, none⟩ v) (some N) := by
  exact grown_set w N j v 0 0
theorem own_shape {w : World} {base n : Nat} {e : TypeId} {size : Nat} {v : Value} {xs : List Value} (h : w.ownsRow base e size v n xs) (hn : 0 < n) : ∃ g cap, v = .slice (some ⟨g, 0, none⟩) n cap := by
  rcases h.2 with ⟨_, h0⟩ | ⟨g, cap, cur, hv, _⟩
  · omega
  · exact ⟨g, cap, hv⟩
theorem own_one {w : World} {base n : Nat} {e : TypeId} {size : Nat} {v : Value} {xs : List Value} (h : w.ownsRow base e size v n xs) : v.oneCell' = true := by
  rcases h.2 with ⟨rfl, _⟩ | ⟨g, cap, cur, rfl, _⟩ <;> rfl

theorem scan_ends (l : List UInt8) (a : Nat) (h : ¬ a < l.length) (acc : List UInt8) : scanQ l a acc = none := by rw [scanQ, dif_neg h]

set_option maxRecDepth 100000 in
set_option maxHeartbeats 3200000 in
theorem scanQ_any (B N : Nat) (A : Option Addr) (cp a0 : Nat) (l : List UInt8) (w : World) (h : Scn w N A l.length cp a0 (.slice none 0 0)) (hA : Byt w A l) (hlt : ∀ x, A = some x → x.block < N) (hB : B ≤ N) (ha0 : a0 ≤ l.length) (hl : l.length ≤ 1000000000) :
    Calls Tryz.prog 187 #[.pointer (some ⟨N, 0, none⟩)] w (QPost B w N A l.length cp (scanQuoted l a0)) := by
  obtain ⟨i0, hi, hz0, hz1, hz2⟩ := info_parts info5
  have hne : ∀ x, A = some x → x.block ≠ N := fun x hx => Nat.ne_of_lt (hlt x hx)
  obtain ⟨R, hR⟩ : ∃ R, R = scanQuoted l a0 := ⟨_, rfl⟩
  rw [← hR]
  have his := is_any N A cp a0 l 34 34 rfl _ w h hA hne (by unfold maxLen; omega)
  have hlN := h.lt
  have HR := Lib.hid hR
  have HI := Lib.hid his
  have HA := Lib.hid hA
  have HNE := Lib.hid hne
  have HLT := Lib.hid hlt
  have H0 := Lib.hid h
  clear hR his hA hne hlt h
  by_cases hq : a0 < l.length ∧ l.getD a0 0 = 34
  · obtain ⟨hq1, hq2⟩ := hq
    have hr : R = scanQ l (a0 + 1) [] := by rw [HR.out]; unfold scanQuoted; rw [if_pos ⟨hq1, hq2⟩]
    have hnp : nextP l a0 = a0 + 1 := if_pos hq1
    have his2 := HI.out
    rw [decide_eq_true hq1, hq2, hnp] at his2
    have HR2 := Lib.hid hr
    have HI2 := Lib.hid his2
    clear hr his2 hnp hq2
    go_enter Tryz.func187, Tryz.ntmps187
    go_wp2_with fail
    refine HI2.out.mono ?_
    rintro e w1 ⟨rfl, hs1, hg1⟩
    have hb1 : Below B w w1 := (Below.refl _ _).grown hg1 (by omega) (by intro k e; cases e; exact hB)
    have hA1 : Byt w1 A l := HA.out.grown hg1 HNE.out
    have HS1 := Lib.hid hs1
    have HA1 := Lib.hid hA1
    clear hs1 hg1 hA1
    go_wp2_with fail
    go_loopw [3, 4] (fun _ _ wr => ∃ (a : Nat) (acc : List UInt8) (v : Value), a ≤ l.length ∧ acc.length ≤ a ∧ R = scanQ l a acc ∧ Scn wr N A l.length cp a v ∧ wr.ownsRow (N + 1) 5 1 v acc.length (Lib.byteCells acc) ∧ Byt wr A l ∧ Below B w wr)
      (fun _ _ wr => l.length - (intOf ((wr.cell? ⟨N, 1, none⟩).getD undef)).toNat)
    case atStart => exact ⟨a0 + 1, [], _, by omega, by simp, HR2.out, HS1.out, World.ownsRow_nil _ _ _ _, HA1.out, hb1⟩
    case round =>
      obtain ⟨a, acc, v, ha, hal, hr, hs, hown, hAr, hb⟩ := hrel
      have hc1 := hs.c1
      have hNz := hs.lt
      have hsz := hb.size
      have htk := take_any N A cp a l v wr hs hAr HNE.out (by unfold maxLen; omega)
      obtain ⟨x, hx⟩ : ∃ x, x = nextB l a := ⟨_, rfl⟩
      obtain ⟨p, hp⟩ : ∃ p, p = nextP l a := ⟨_, rfl⟩
      rw [← hx, ← hp] at htk
      have HRR := Lib.hid hr
      have HS := Lib.hid hs
      have HO := Lib.hid hown
      have HAR := Lib.hid hAr
      have HC1 := Lib.hid hc1
      clear hr hs hown hAr hc1
      by_cases hlt : a < l.length
      · have hx2 : x = l.getD a 0 := by rw [hx]; exact if_pos hlt
        have hp2 : p = a + 1 := by rw [hp]; exact if_pos hlt
        rw [decide_eq_true hlt] at htk
        have HT := Lib.hid htk
        have HX := Lib.hid hx2
        clear htk hx hp hx2
        subst hp2
        by_cases h34 : x = 34
        · have hfin : R = some (acc, a + 1) := by rw [HRR.out, scanQ, dif_pos hlt, ← HX.out, if_pos h34]
          have ht1 : ((x.toNat : Int) == 34) = true := by rw [h34]; rfl
          have HF := Lib.hid hfin
          clear hfin h34
          go_wp2_with fail
          refine HT.out.mono ?_
          rintro e w2 ⟨rfl, hs2, hg2⟩
          have ho2 : w2.ownsRow (N + 1) 5 1 v acc.length (Lib.byteCells acc) := HO.out.kept hg2 (.inr (by intro e; have := own_base HO.out N e; omega))
          have hb2 : Below B w w2 := hb.grown hg2 (by omega) (by intro k e; cases e; exact hB)
          have HS2 := Lib.hid hs2
          have HO2 := Lib.hid ho2
          clear hs2 hg2 ho2
          go_wp2_with fail
          go_ret
          exact QPost.yes HF.out hb2 HS2.out HO2.out
        · have ht1 : ((x.toNat : Int) == 34) = false := by rw [beq_eq_false_iff_ne]; intro e; exact h34 (UInt8.toNat_inj.1 (by have : (34 : UInt8).toNat = 34 := rfl; omega))
          by_cases h92 : x = 92
          · have ht2 : ((x.toNat : Int) == 92) = true := by rw [h92]; rfl
            have h92' := Lib.hid h92
            have h34' := Lib.hid h34
            clear h92 h34
            go_wp2_with fail
            refine HT.out.mono ?_
            rintro e w2 ⟨rfl, hs2, hg2⟩
            have ho2 : w2.ownsRow (N + 1) 5 1 v acc.length (Lib.byteCells acc) := HO.out.kept hg2 (.inr (by intro e; have := own_base HO.out N e; omega))
            have hb2 : Below B w w2 := hb.grown hg2 (by omega) (by intro k e; cases e; exact hB)
            have hA2 : Byt w2 A l := HAR.out.grown hg2 HNE.out
            have htk2 := take_any N A cp (a + 1) l v w2 hs2 hA2 HNE.out (by unfold maxLen; omega)
            obtain ⟨y, hy⟩ : ∃ y, y = nextB l (a + 1) := ⟨_, rfl⟩
            obtain ⟨p, hp⟩ : ∃ p, p = nextP l (a + 1) := ⟨_, rfl⟩
            rw [← hy, ← hp] at htk2
            have hNz2 := hs2.lt
            have hsz2 := hb2.size
            have HO2 := Lib.hid ho2
            have HA2 := Lib.hid hA2
            clear hs2 hg2 ho2 hA2
            by_cases hl2 : a + 1 < l.length
            · have hy2 : y = l.getD (a + 1) 0 := by rw [hy]; exact if_pos hl2
              have hp2 : p = a + 2 := by rw [hp]; exact if_pos hl2
              rw [decide_eq_true hl2] at htk2
              have HT2 := Lib.hid htk2
              have HY := Lib.hid hy2
              clear htk2 hy hp hy2
              subst hp2
              by_cases hyy : y = 34 ∨ y = 92
              · have hrec : R = scanQ l (a + 2) (acc ++ [y]) := by rw [HRR.out, scanQ, dif_pos hlt, ← HX.out, if_neg h34'.out, if_pos h92'.out, ← HY.out, if_pos ⟨hl2, hyy⟩]
                have htx : textB y = true := by rcases hyy with rfl | rfl <;> decide +kernel
                have hyt : ((y.toNat : Int) != 34) = false ∨ (((y.toNat : Int) != 34) = true ∧ ((y.toNat : Int) != 92) = false) := by rcases hyy with rfl | rfl <;> decide
                have HREC := Lib.hid hrec
                clear hrec hyy
                rcases hyt with hy34 | ⟨hy34, hy92⟩
                all_goals
                  go_wp2_with fail
                  refine HT2.out.mono ?_
                  rintro e w3 ⟨rfl, hs3, hg3⟩
                  have ho3 : w3.ownsRow (N + 1) 5 1 v acc.length (Lib.byteCells acc) := HO2.out.kept hg3 (.inr (by intro e; have := own_base HO2.out N e; omega))
                  have hb3 : Below B w w3 := hb2.grown hg3 (by omega) (by intro k e; cases e; exact hB)
                  have hA3 : Byt w3 A l := HA2.out.grown hg3 HNE.out
                  have HS3 := Lib.hid hs3
                  have HO3 := Lib.hid ho3
                  have HA3 := Lib.hid hA3
                  clear hs3 hg3 ho3 hA3
                  have hc2 := HS3.out.c2
                  have hf2 := HS3.out.fr 2
                  have hzz := HS3.out.lt
                  have hbz := hb3.size
                  go_wp2_with (first | (go_at_call 179; refine (text_any _ _).mono ?_; rintro e w' ⟨rfl, rfl⟩) | (at_builtin; refine wpList_append_own _ rfl _ _ 24 rfl (N + 1) 5 i0 (.int .u8 0) 1 1 Tryz.underlying24 hi hz0 hz1 hz2 rfl (by decide) _ _ _ rfl (HO3.out.alloc _) ⟨w3.heap.size, 0, none⟩ 1 1 [.int .u8 (y.toNat : Int)] rfl rfl (new_cells w3 [.int .u8 (y.toNat : Int)] 5) (by simp [Value.oneCell']) (by unfold maxLen; omega) (by omega) (by simp; omega) ?_))
                  intro v' w5 hown5 hgrow _
                  have hs5 : Scn w5 N A l.length cp (a + 2) v := (HS3.out.grown (below_grown ((Below.refl _ _).alloc (Nat.le_refl _) (.cells #[.int .u8 (y.toNat : Int)] 5)) none) (by simp)).grown hgrow (by intro e; have := own_base HO3.out N e.symm; omega)
                  have hb5 : Below B w w5 := (hb3.alloc (by omega) _).grown hgrow (by simp; omega) (by intro kk e; have := own_base HO3.out kk e; omega)
                  have hA5 : Byt w5 A l := (HA3.out.below ((Below.refl _ _).alloc (Nat.le_refl _) _)).grownRow hgrow (by intro kk e a ha; have := own_base HO3.out kk e; have := HLT.out a ha; omega)
                  rw [byteCells_snoc] at hown5
                  obtain ⟨g', cap', rfl⟩ : ∃ g cap, v' = .slice (some ⟨g, 0, none⟩) (acc.length + 1) cap := own_shape hown5 (by omega)
                  have hs6 := hs5.set2 (.slice (some ⟨g', 0, none⟩) (acc.length + 1) cap') rfl
                  have ho6 : (w5.setCell ⟨N, 2, none⟩ (.slice (some ⟨g', 0, none⟩) (acc.length + 1) cap')).ownsRow (N + 1) 5 1 (.slice (some ⟨g', 0, none⟩) (acc.length + 1) cap') (acc.length + 1) (Lib.byteCells (acc ++ [y])) := ownsRow_setCell_below hown5 (a := ⟨N, 2, none⟩) (Nat.lt_succ_self N) _
                  have hA6 : Byt (w5.setCell ⟨N, 2, none⟩ (.slice (some ⟨g', 0, none⟩) (acc.length + 1) cap')) A l := hA5.grown (grown_setCell w5 N 2 _) HNE.out
                  have hb6 : Below B w (w5.setCell ⟨N, 2, none⟩ (.slice (some ⟨g', 0, none⟩) (acc.length + 1) cap')) := hb5.setCell (p := ⟨N, 2, none⟩) hB _
                  have hc52 := hs5.c2
                  have hf52 := hs5.fr 2
                  have H6 := Lib.hid hs6
                  have HO6 := Lib.hid ho6
                  have HA6 := Lib.hid hA6
                  have HB6 := Lib.hid hb6
                  clear hs5 hb5 hA5 hown5 hgrow hs6 ho6 hA6 hb6 hc2 hf2
                  go_wp2_with fail
                  go_roundw
                  case rel => exact ⟨a + 2, acc ++ [y], _, by omega, by simp; omega, HREC.out, H6.out, by rw [List.length_append]; exact HO6.out, HA6.out, HB6.out⟩
                  case measure => rw [HC1.out, H6.out.c1]; simp [intOf]; omega
              · have hfin : R = none := by rw [HRR.out, scanQ, dif_pos hlt, ← HX.out, if_neg h34'.out, if_pos h92'.out, ← HY.out, if_neg (fun hh => hyy hh.2)]
                have hy34 : ((y.toNat : Int) != 34) = true := by rw [bne_iff_ne]; intro e; exact hyy (.inl (UInt8.toNat_inj.1 (by have : (34 : UInt8).toNat = 34 := rfl; omega)))
                have hy92 : ((y.toNat : Int) != 92) = true := by rw [bne_iff_ne]; intro e; exact hyy (.inr (UInt8.toNat_inj.1 (by have : (92 : UInt8).toNat = 92 := rfl; omega)))
                have HF := Lib.hid hfin
                clear hfin hyy
                go_wp2_with fail
                refine HT2.out.mono ?_
                rintro e w3 ⟨rfl, hs3, hg3⟩
                have hb3 : Below B w w3 := hb2.grown hg3 (by omega) (by intro k e; cases e; exact hB)
                clear hs3 hg3
                go_wp2_with fail
                go_ret
                exact QPost.no HF.out hb3
            · have hfin : R = none := by rw [HRR.out, scanQ, dif_pos hlt, ← HX.out, if_neg h34'.out, if_pos h92'.out, if_neg (fun hh => hl2 hh.1)]
              rw [decide_eq_false hl2] at htk2
              have HT2 := Lib.hid htk2
              have HF := Lib.hid hfin
              clear hfin htk2 hy hp
              go_wp2_with fail
              refine HT2.out.mono ?_
              rintro e w3 ⟨rfl, hs3, hg3⟩
              have hb3 : Below B w w3 := hb2.grown hg3 (by omega) (by intro k e; cases e; exact hB)
              clear hs3 hg3
              go_wp2_with fail
              go_ret
              exact QPost.no HF.out hb3
          · have ht2 : ((x.toNat : Int) == 92) = false := by rw [beq_eq_false_iff_ne]; intro e; exact h92 (UInt8.toNat_inj.1 (by have : (92 : UInt8).toNat = 92 := rfl; omega))
            by_cases htx : textB x = true
            · have hrec : R = scanQ l (a + 1) (acc ++ [x]) := by rw [HRR.out, scanQ, dif_pos hlt, ← HX.out, if_neg h34, if_neg h92, if_pos htx]
              have HREC := Lib.hid hrec
              clear hrec h34 h92
              go_wp2_with fail
              refine HT.out.mono ?_
              rintro e w2 ⟨rfl, hs2, hg2⟩
              have ho2 : w2.ownsRow (N + 1) 5 1 v acc.length (Lib.byteCells acc) := HO.out.kept hg2 (.inr (by intro e; have := own_base HO.out N e; omega))
              have hb2 : Below B w w2 := hb.grown hg2 (by omega) (by intro k e; cases e; exact hB)
              have hA2 : Byt w2 A l := HAR.out.grown hg2 HNE.out
              have HS2 := Lib.hid hs2
              have HO2 := Lib.hid ho2
              have HA2 := Lib.hid hA2
              clear hs2 hg2 ho2 hA2
              have hc2 := HS2.out.c2
              have hf2 := HS2.out.fr 2
              have hzz := HS2.out.lt
              have hbz := hb2.size
              go_wp2_with (first | (go_at_call 179; refine (text_any _ _).mono ?_; rintro e w' ⟨rfl, rfl⟩) | (at_builtin; refine wpList_append_own _ rfl _ _ 24 rfl (N + 1) 5 i0 (.int .u8 0) 1 1 Tryz.underlying24 hi hz0 hz1 hz2 rfl (by decide) _ _ _ rfl (HO2.out.alloc _) ⟨w2.heap.size, 0, none⟩ 1 1 [.int .u8 (x.toNat : Int)] rfl rfl (new_cells w2 [.int .u8 (x.toNat : Int)] 5) (by simp [Value.oneCell']) (by unfold maxLen; omega) (by omega) (by simp; omega) ?_))
              intro v' w5 hown5 hgrow _
              have hs5 : Scn w5 N A l.length cp (a + 1) v := (HS2.out.grown (below_grown ((Below.refl _ _).alloc (Nat.le_refl _) (.cells #[.int .u8 (x.toNat : Int)] 5)) none) (by simp)).grown hgrow (by intro e; have := own_base HO2.out N e.symm; omega)
              have hb5 : Below B w w5 := (hb2.alloc (by omega) _).grown hgrow (by simp; omega) (by intro kk e; have := own_base HO2.out kk e; omega)
              have hA5 : Byt w5 A l := (HA2.out.below ((Below.refl _ _).alloc (Nat.le_refl _) _)).grownRow hgrow (by intro kk e a ha; have := own_base HO2.out kk e; have := HLT.out a ha; omega)
              rw [byteCells_snoc] at hown5
              obtain ⟨g', cap', rfl⟩ : ∃ g cap, v' = .slice (some ⟨g, 0, none⟩) (acc.length + 1) cap := own_shape hown5 (by omega)
              have hs6 := hs5.set2 (.slice (some ⟨g', 0, none⟩) (acc.length + 1) cap') rfl
              have ho6 : (w5.setCell ⟨N, 2, none⟩ (.slice (some ⟨g', 0, none⟩) (acc.length + 1) cap')).ownsRow (N + 1) 5 1 (.slice (some ⟨g', 0, none⟩) (acc.length + 1) cap') (acc.length + 1) (Lib.byteCells (acc ++ [x])) := ownsRow_setCell_below hown5 (a := ⟨N, 2, none⟩) (Nat.lt_succ_self N) _
              have hA6 : Byt (w5.setCell ⟨N, 2, none⟩ (.slice (some ⟨g', 0, none⟩) (acc.length + 1) cap')) A l := hA5.grown (grown_setCell w5 N 2 _) HNE.out
              have hb6 : Below B w (w5.setCell ⟨N, 2, none⟩ (.slice (some ⟨g', 0, none⟩) (acc.length + 1) cap')) := hb5.setCell (p := ⟨N, 2, none⟩) hB _
              have hc52 := hs5.c2
              have hf52 := hs5.fr 2
              have H6 := Lib.hid hs6
              have HO6 := Lib.hid ho6
              have HA6 := Lib.hid hA6
              have HB6 := Lib.hid hb6
              clear hs5 hb5 hA5 hown5 hgrow hs6 ho6 hA6 hb6 hc2 hf2
              go_wp2_with fail
              go_roundw
              case rel => exact ⟨a + 1, acc ++ [x], _, by omega, by simp; omega, HREC.out, H6.out, by rw [List.length_append]; exact HO6.out, HA6.out, HB6.out⟩
              case measure => rw [HC1.out, H6.out.c1]; simp [intOf]; omega
            · have hfin : R = none := by rw [HRR.out, scanQ, dif_pos hlt, ← HX.out, if_neg h34, if_neg h92, if_neg htx]
              rw [Bool.not_eq_true] at htx
              have HF := Lib.hid hfin
              clear hfin h34 h92
              go_wp2_with fail
              refine HT.out.mono ?_
              rintro e w2 ⟨rfl, hs2, hg2⟩
              have hb2 : Below B w w2 := hb.grown hg2 (by omega) (by intro k e; cases e; exact hB)
              clear hs2 hg2
              go_wp2_with (go_at_call 179; refine (text_any _ _).mono ?_; rintro e w' ⟨rfl, rfl⟩)
              go_ret
              exact QPost.no HF.out hb2
      · have hfin : R = none := by rw [HRR.out, scan_ends l a hlt]
        rw [decide_eq_false hlt] at htk
        have HT := Lib.hid htk
        have HF := Lib.hid hfin
        clear htk hfin hx hp
        go_wp2_with fail
        refine HT.out.mono ?_
        rintro e w2 ⟨rfl, hs2, hg2⟩
        have hb2 : Below B w w2 := hb.grown hg2 (by omega) (by intro k e; cases e; exact hB)
        clear hs2 hg2
        go_wp2_with fail
        go_ret
        exact QPost.no HF.out hb2
  · have hfin : R = none := by rw [HR.out]; unfold scanQuoted; rw [if_neg hq]
    have his2 := HI.out
    have hf : (decide (a0 < l.length) && l.getD a0 0 == 34) = false := by
      by_cases h1 : a0 < l.length
      · have : ¬ l.getD a0 0 = 34 := fun e => hq ⟨h1, e⟩
        rw [beq_eq_false_iff_ne.2 this, Bool.and_false]
      · rw [decide_eq_false h1, Bool.false_and]
    rw [hf] at his2
    have HI2 := Lib.hid his2
    have HF := Lib.hid hfin
    clear hfin his2 hf hq
    go_enter Tryz.func187, Tryz.ntmps187
    go_wp2_with fail
    refine HI2.out.mono ?_
    rintro e w1 ⟨rfl, hs1, hg1⟩
    have hb1 : Below B w w1 := (Below.refl _ _).grown hg1 (by omega) (by intro k e; cases e; exact hB)
    clear hs1 hg1
    go_wp2_with fail
    go_ret
    exact QPost.no HF.out hb1
end Go.Proofs.YtkdnfjafabgioaaGreatDoor.Own
