import Derived.Test.YtkdnfjafabgioaaGreatDoorA21
set_option linter.unusedVariables false
set_option linter.unusedSimpArgs false
namespace Go.Proofs.YtkdnfjafabgioaaGreatDoor.Own
open Go.RowKit Go.Shelf

theorem endAt_room (l : List UInt8) (a j : Nat) (ha : a ≤ l.length) (h : endAt l a = j) : a + j + 2 ≤ l.length := by
  have h1 := Lib.index_room (l.drop a) [13, 10] (by unfold endAt at h; omega)
  unfold endAt at h
  rw [h] at h1
  simp at h1
  omega

set_option maxRecDepth 100000 in
set_option maxHeartbeats 3200000 in
theorem next_main (B N cp g a1 j e : Nat) (s : Int) (l : List UInt8) (a k : Nat) (w w0 : World) (hs : Spl w N (.slice (some ⟨g, 0, none⟩) l.length cp) a k s) (ho : w.ownsRow B 5 1 (.slice (some ⟨g, 0, none⟩) l.length cp) l.length (Lib.byteCells l)) (hA : Byt w (some ⟨g, 0, none⟩) l) (hcp : l.length ≤ cp) (hcm : cp ≤ maxLen) (hx : ∀ x, some (⟨g, 0, none⟩ : Addr) = some x → B ≤ x.block ∧ x.block ≠ N ∧ x.block < w.heap.size) (hl : l.length ≤ 1000000000) (hE : Env w0) (h0 : Below w0.heap.size w0 w) (hN0 : w0.heap.size ≤ N) (hBw : B ≤ w.heap.size) (ha1 : a1 = a + k) (hak : a1 ≤ l.length) (r : Option ((Nat × List UInt8) × (List UInt8 × Nat × Nat))) (hi : endAt l a1 = j) (he : e = a1 + j) (hr : r = nextS l a k) :
    Calls Tryz.prog 116 #[.pointer (some ⟨N, 0, none⟩)] w (NextP w B N l r) := by
  have hmf : ∀ (fn : Fn) (first cap : Array Value) (w : World), (Instr.makeFunc fn first cap).run Tryz.prog w = .ok (.func fn first cap) w := fun _ _ _ _ => rfl
  have hNl := hs.lt
  have hroom := endAt_room l a1 j hak hi
  have hb0 : Below w.heap.size w (w.alloc (.cells #[.int .i64 0, .slice none 0 0] 63)) := (Below.refl _ _).alloc (Nat.le_refl _) _
  have hsk := skip_yes N (some ⟨g, 0, none⟩) l.length cp a k s _ (hs.below hb0) hl (by omega)
  rw [← ha1] at hsk
  have hln := fun w1 h1 h2 h3 => line_any N (some ⟨g, 0, none⟩) cp a1 l w1 h1 h2 (.inr ⟨g, rfl⟩) hl hak hcp hcm h3
  rw [hi, if_neg (by omega), decide_eq_true (show 0 ≤ (j : Int) by omega), ← Int.natCast_add, ← he] at hln
  obtain ⟨text, htext⟩ : ∃ t, t = (l.drop a1).take j := ⟨_, rfl⟩
  have htl : text.length = j := by rw [htext]; simp; omega
  have hja : e - a1 = j := by omega
  have hann : ∀ w, Byt w (some ⟨g, 0, none⟩) l → Env w → Calls Tryz.prog 162 #[.slice (some ⟨g, a1, none⟩) (e - a1) (cp - a1)] w fun e w' => e = .returned (annV (announcedOf text)) ∧ Below w.heap.size w w' := by
    intro w hA hE
    have h1 := hA.drop a1
    rw [Nat.zero_add] at h1
    have h2 := announced_any (some ⟨g, a1, none⟩) (cp - a1) text w hE (by rw [htext]; exact h1.take j) (by omega) (by omega)
    rw [htl] at h2
    rw [hja]
    exact h2
  have HSK := Lib.hid hsk
  have HLN := Lib.hid hln
  have HANN := Lib.hid hann
  have HS := Lib.hid hs
  have HO := Lib.hid ho
  have HP := Lib.hid (And.intro hA (And.intro hx (And.intro hE h0)))
  have HB0 := Lib.hid hb0
  have HR := Lib.hid (And.intro hr (And.intro hi (And.intro htext (And.intro htl (And.intro ha1 he)))))
  have hae : a1 ≤ e := by omega
  have hel : e + 2 ≤ l.length := by omega
  have hec : e < cp := by omega
  have hjl : j ≤ l.length := by omega
  have hne : ¬ cp = a1 := by omega
  clear hsk hs ho hA hx hb0 hln hi hE h0 hr htext htl hann hja ha1 he hroom
  go_enter Tryz.func116, Tryz.ntmps116
  go_wp2_with fail
  refine HSK.out.mono ?_
  rintro e w1 ⟨rfl, hs1, hg1⟩
  have hgw1 := grown_trans (below_nat HB0.out N) hg1
  have hA1 := HP.out.1.grown hgw1 (fun x e => (HP.out.2.1 x e).2.1)
  have hE1 := HP.out.2.2.1.below (HP.out.2.2.2.grown hgw1 HP.out.2.2.2.size (by intro kk e; cases e; exact hN0))
  have hc1 := HLN.out w1 hs1 hA1 hE1
  have HC1 := Lib.hid hc1
  have HG1 := Lib.hid hg1
  clear hc1 hs1 hA1 hE1 hg1 hgw1
  go_wp2_with fail
  refine HC1.out.mono ?_
  rintro e' w2 ⟨rfl, ⟨s2, hs2⟩, hg2⟩
  have hg02 := grown_trans HG1.out hg2
  have hgw2 := grown_trans (below_nat HB0.out N) hg02
  have hA2 := HP.out.1.grown hgw2 (fun x e => (HP.out.2.1 x e).2.1)
  have hE2 := HP.out.2.2.1.below (HP.out.2.2.2.grown hgw2 HP.out.2.2.2.size (by intro kk e; cases e; exact hN0))
  have HA2 := Lib.hid hA2
  have HE2 := Lib.hid hE2
  have HGW2 := Lib.hid hgw2
  have HG2 := Lib.hid hg02
  have HS2 := Lib.hid hs2
  have c0 := hs2.c0
  have c1 := hs2.c1
  clear hg02 hg2 hs2 hA2 hE2 hgw2
  go_wp2_with fail
  go_quiet (fail)
  go_wp2_with fail
  refine (HANN.out _ ((HA2.out.below (below_drewN (Below.refl _ _) nq))) (HE2.out.below (below_drewN (Below.refl _ _) nq))).mono ?_
  rintro e' w3 ⟨rfl, hb3⟩
  have hg3 : w2.grownBy w3 (some N) := grown_trans (grown_drewN _ nq _) (below_nat hb3 N)
  have HG3 := Lib.hid hg3
  have hs3 := (HS2.out.drewN nq).below hb3
  have HS3 := Lib.hid hs3
  have hA3 := HA2.out.grown hg3 (fun x e => (HP.out.2.1 x e).2.1)
  have HA3 := Lib.hid hA3
  have hNz := hs3.lt
  clear c0 c1
  have c0 := hs3.c0
  clear hg3 hs3 hb3 hA3
  have hg03 := grown_trans HG2.out HG3.out
  have HG03 := Lib.hid hg03
  have hz03 := hg03.size
  rw [World.size_alloc] at hz03
  clear hg03
  have hje : j = e - a1 := by have := HR.out.2.2.2.2.2; omega
  have HJE := Lib.hid hje
  clear hje
  by_cases h8 : 8192 < e - a1
  · have g1 : decide ((8192 : Int) < ((e - a1 : Nat) : Int)) = true := by simp; omega
    unfold annV
    have hfin : r = some ((3, (l.drop a1).take 8192), (l.drop (e + 2), 0, 0)) := by
      rw [HR.out.1]; unfold nextS; rw [← HR.out.2.2.2.2.1, if_pos hak, HR.out.2.1, if_neg (by omega), Int.toNat_natCast, ← HR.out.2.2.2.2.2]; rw [HJE.out, if_pos h8]
    have HF := Lib.hid hfin
    have hcl : ∀ W, Below w3.heap.size w3 W → Calls Tryz.prog 185 #[.slice (some ⟨g, a1, none⟩) ((l.drop a1).take 8192).length (cp - a1)] W (CloneP ((l.drop a1).take 8192) W) := by
      intro W hW
      have h1 := HA3.out.below hW
      have h2 := h1.drop a1
      rw [Nat.zero_add] at h2
      exact clone_any (some ⟨g, a1, none⟩) (cp - a1) ((l.drop a1).take 8192) W (h2.take _) (by simp; omega) (by simp)
    have hdl : ((l.drop a1).take 8192).length = 8192 := by simp; omega
    have hct := finish_at N (e + 2) cp 3 ((l.drop a1).take 8192) l (some ⟨g, 0, none⟩) (some ⟨g, a1, none⟩) (cp - a1) a1 0 s2 w3 HS3.out HA3.out (.inr ⟨g, rfl⟩) hl (by omega) hcp hcm hcl
    rw [hdl, Int.natCast_add, show ((2 : Nat) : Int) = 2 from rfl] at hct
    have HCT := Lib.hid hct
    have HDL := Lib.hid hdl
    clear hfin hcl hct hdl
    go_wp2_with fail
    refine HCT.out.mono ?_
    rintro e' w4 ⟨v1, v2, rfl, ho1, hs4, ho2, hg4⟩
    have hg04 := grown_trans HG03.out hg4
    obtain ⟨r0, r1, rf0, rf1⟩ := res_at hg04 (by simp; omega)
    obtain ⟨A1, c1, hv1, _⟩ := own_row0 ho1
    rw [HDL.out] at hv1
    subst hv1
    have hgw4 := grown_trans (below_nat HB0.out N) hg04
    have HGW4 := Lib.hid hgw4
    have HO1 := Lib.hid ho1
    have HO2 := Lib.hid ho2
    have HS4 := Lib.hid hs4
    clear ho1 ho2 hs4 hg4 hg04 hgw4
    go_wp2_with fail
    refine bodyPost_ret (v := .tuple #[.agg #[.int .i64 3, .slice A1 8192 c1], .bool true]) ?_ rfl ?_
    · clear hcp hcm hl hN0 hBw hak hNl hae hel hec hjl hne
      simp [results, Tryz.f116, go_sem, *]
    · exact NextP.yes HF.out (resW_grown HGW4.out (.int .i64 3) (.slice A1 8192 c1)) rfl (own_mono (own_res (base := w.heap.size + 1) (own_mono HO1.out hz03) (Nat.lt_succ_self _) _ _) (Nat.le_succ _)) (Sp.fin (B' := B) HS4.out HO2.out (by simp; omega) (by omega) (by omega) (by omega) _ _ (by omega))
  · have g1 : decide ((8192 : Int) < ((e - a1 : Nat) : Int)) = false := by simp; omega
    cases han : announcedOf text with
    | none =>
      unfold annV
      simp only [Option.getD_none, Option.isSome_none]
      have hfin : r = some ((1, l.take e), (l.drop (e + 2), 0, 0)) := by
        rw [HR.out.1]; unfold nextS; rw [← HR.out.2.2.2.2.1, if_pos hak, HR.out.2.1, if_neg (by omega), Int.toNat_natCast, ← HR.out.2.2.2.2.2]; rw [if_neg (by rw [HJE.out]; exact h8), ← HR.out.2.2.1, han]
      have HF := Lib.hid hfin
      have hcl : ∀ W, Below w3.heap.size w3 W → Calls Tryz.prog 185 #[.slice (some ⟨g, 0, none⟩) (l.take e).length cp] W (CloneP (l.take e) W) := by
        intro W hW
        have h1 := HA3.out.below hW
        exact clone_any (some ⟨g, 0, none⟩) cp (l.take e) W (h1.take _) (by simp; omega) (by simp)
      have hdl : (l.take e).length = e := by simp; omega
      have hct := finish_at N (e + 2) cp 1 (l.take e) l (some ⟨g, 0, none⟩) (some ⟨g, 0, none⟩) cp a1 0 s2 w3 HS3.out HA3.out (.inr ⟨g, rfl⟩) hl (by omega) hcp hcm hcl
      rw [hdl, Int.natCast_add, show ((2 : Nat) : Int) = 2 from rfl] at hct
      have HCT := Lib.hid hct
      have HDL := Lib.hid hdl
      clear hfin hcl hct hdl
      go_wp2_with fail
      refine HCT.out.mono ?_
      rintro e' w4 ⟨v1, v2, rfl, ho1, hs4, ho2, hg4⟩
      have hg04 := grown_trans HG03.out hg4
      obtain ⟨r0, r1, rf0, rf1⟩ := res_at hg04 (by simp; omega)
      obtain ⟨A1, c1, hv1, _⟩ := own_row0 ho1
      rw [HDL.out] at hv1
      subst hv1
      have hgw4 := grown_trans (below_nat HB0.out N) hg04
      have HGW4 := Lib.hid hgw4
      have HO1 := Lib.hid ho1
      have HO2 := Lib.hid ho2
      have HS4 := Lib.hid hs4
      clear ho1 ho2 hs4 hg4 hg04 hgw4
      go_wp2_with fail
      refine bodyPost_ret (v := .tuple #[.agg #[.int .i64 1, .slice A1 e c1], .bool true]) ?_ rfl ?_
      · clear hcp hcm hl hN0 hBw hak hNl hae hel hec hjl hne
        simp [results, Tryz.f116, go_sem, *]
      · exact NextP.yes HF.out (resW_grown HGW4.out (.int .i64 1) (.slice A1 e c1)) rfl (own_mono (own_res (base := w.heap.size + 1) (own_mono HO1.out hz03) (Nat.lt_succ_self _) _ _) (Nat.le_succ _)) (Sp.fin (B' := B) HS4.out HO2.out (by simp; omega) (by omega) (by omega) (by omega) _ _ (by omega))
    | some n =>
      unfold annV
      simp only [Option.getD_some, Option.isSome_some]
      by_cases hn6 : 65536 < n
      · have g2 : decide ((65536 : Int) < (n : Int)) = true := by simp; omega
        have hfin : r = some ((4, l.take e), (l.drop (e + 2), 0, 0)) := by
          rw [HR.out.1]; unfold nextS; rw [← HR.out.2.2.2.2.1, if_pos hak, HR.out.2.1, if_neg (by omega), Int.toNat_natCast, ← HR.out.2.2.2.2.2]; rw [if_neg (by rw [HJE.out]; exact h8), ← HR.out.2.2.1, han]; exact if_pos hn6
        have HF := Lib.hid hfin
        have hcl : ∀ W, Below w3.heap.size w3 W → Calls Tryz.prog 185 #[.slice (some ⟨g, 0, none⟩) (l.take e).length cp] W (CloneP (l.take e) W) := by
          intro W hW
          have h1 := HA3.out.below hW
          exact clone_any (some ⟨g, 0, none⟩) cp (l.take e) W (h1.take _) (by simp; omega) (by simp)
        have hdl : (l.take e).length = e := by simp; omega
        have hct := finish_at N (e + 2) cp 4 (l.take e) l (some ⟨g, 0, none⟩) (some ⟨g, 0, none⟩) cp a1 0 s2 w3 HS3.out HA3.out (.inr ⟨g, rfl⟩) hl (by omega) hcp hcm hcl
        rw [hdl, Int.natCast_add, show ((2 : Nat) : Int) = 2 from rfl] at hct
        have HCT := Lib.hid hct
        have HDL := Lib.hid hdl
        clear hfin hcl hct hdl
        go_wp2_with fail
        refine HCT.out.mono ?_
        rintro e' w4 ⟨v1, v2, rfl, ho1, hs4, ho2, hg4⟩
        have hg04 := grown_trans HG03.out hg4
        obtain ⟨r0, r1, rf0, rf1⟩ := res_at hg04 (by simp; omega)
        obtain ⟨A1, c1, hv1, _⟩ := own_row0 ho1
        rw [HDL.out] at hv1
        subst hv1
        have hgw4 := grown_trans (below_nat HB0.out N) hg04
        have HGW4 := Lib.hid hgw4
        have HO1 := Lib.hid ho1
        have HO2 := Lib.hid ho2
        have HS4 := Lib.hid hs4
        clear ho1 ho2 hs4 hg4 hg04 hgw4
        go_wp2_with fail
        refine bodyPost_ret (v := .tuple #[.agg #[.int .i64 4, .slice A1 e c1], .bool true]) ?_ rfl ?_
        · clear hcp hcm hl hN0 hBw hak hNl hae hel hec hjl hne
          simp [results, Tryz.f116, go_sem, *]
        · exact NextP.yes HF.out (resW_grown HGW4.out (.int .i64 4) (.slice A1 e c1)) rfl (own_mono (own_res (base := w.heap.size + 1) (own_mono HO1.out hz03) (Nat.lt_succ_self _) _ _) (Nat.le_succ _)) (Sp.fin (B' := B) HS4.out HO2.out (by simp; omega) (by omega) (by omega) (by omega) _ _ (by omega))
      · have g2 : decide ((65536 : Int) < (n : Int)) = false := by simp; omega
        have hfin : r = some ((2, []), (l, e + 2, n)) := by
          rw [HR.out.1]; unfold nextS; rw [← HR.out.2.2.2.2.1, if_pos hak, HR.out.2.1, if_neg (by omega), Int.toNat_natCast, ← HR.out.2.2.2.2.2]; rw [if_neg (by rw [HJE.out]; exact h8), ← HR.out.2.2.1, han]; exact if_neg hn6
        have HF := Lib.hid hfin
        clear hfin
        obtain ⟨r0, r1, rf0, rf1⟩ := res_at HG03.out (by simp; omega)
        have c1 := HS3.out.c1
        have c2 := HS3.out.c2
        have f1 := HS3.out.fr 1
        have f2 := HS3.out.fr 2
        go_wp2_with fail
        refine bodyPost_ret (v := .tuple #[.agg #[.int .i64 2, .slice none 0 0], .bool true]) ?_ rfl ?_
        · have n1 : ¬ w.heap.size = N := by omega
          have n2 : ¬ N = w.heap.size := by omega
          clear hcp hcm hl hN0 hBw hak hNl hae hel hec hjl hne
          simp [results, Tryz.f116, go_sem, *]
        · have hg : w.grownBy _ (some N) := resW_grown (grown_trans (grown_trans (grown_trans (below_nat HB0.out N) HG03.out) (grown_setCell _ N 1 (.int .i64 ((e + 2 : Nat) : Int)))) (grown_setCell _ N 2 (.int .i64 (n : Int)))) (.int .i64 2) (.slice none 0 0)
          exact NextP.yes HF.out hg rfl (World.ownsRow_nil _ _ _ _) (Sp.of (a := e + 2) (k := n) HO.out HP.out.1 (.inr ⟨g, rfl⟩) hcp hcm HP.out.2.1 hl hg (((HS3.out.set1 _).set2 _).res (by omega) _ _) (by omega) (by omega))
end Go.Proofs.YtkdnfjafabgioaaGreatDoor.Own
