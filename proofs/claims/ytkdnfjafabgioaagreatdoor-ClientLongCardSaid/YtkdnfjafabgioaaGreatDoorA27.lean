import Derived.Test.YtkdnfjafabgioaaGreatDoorA26
set_option linter.unusedVariables false
set_option linter.unusedSimpArgs false
namespace Go.Proofs.YtkdnfjafabgioaaGreatDoor.Own
open Go.RowKit Go.Shelf
attribute [local go_sem] Oper.semAt_some

theorem info63 : (Tryz.prog.info? 63).map (fun i => (i.zero, i.size, i.bytes)) = some (some (.agg #[.int .i64 0, .slice none 0 0]), 2, 32) := by kernel_rfl

/-- What Split holds between two rounds. -/
def SplitI (O L0 B : Nat) (rec : Loop) (fs : List (Nat × List UInt8)) (W : World) : Prop :=
  W.heap[L0 + 1]? = some (.loop rec) ∧ W.heap[L0]? = some (.deferred (some [])) ∧ ∃ v xs, W.heap[O]? = some (.cells #[v] 59 (0, 0)) ∧ W.ownsRow L0 63 2 v fs.length xs ∧ FrRow W B fs xs
theorem FrRow.grown {w w' : World} {B N : Nat} (hg : w.grownBy w' (some N)) (hN : N < B) : ∀ {fs : List (Nat × List UInt8)} {xs : List Value}, FrRow w B fs xs → FrRow w' B fs xs
  | [], _, e => e
  | _ :: _, _, ⟨v, r, e, h1, h2⟩ => ⟨v, r, e, h1.kept hg (by
      cases hb : v.ownBlock with
      | none => exact .inl rfl
      | some k => exact .inr (fun e => by cases e; have := own_base h1 _ hb; omega)), FrRow.grown hg hN h2⟩
theorem SplitI.grown {O L0 B N : Nat} {rec : Loop} {fs : List (Nat × List UInt8)} {W W' : World} (h : SplitI O L0 B rec fs W) (hg : W.grownBy W' (some N)) (hN : N < B) (hO : N < O) (hL : N < L0) : SplitI O L0 B rec fs W' := by
  obtain ⟨h1, h2, v, xs, h3, h4, h5⟩ := h
  refine ⟨(hg.block _ (Array.getElem?_eq_some_iff.1 h1).1 (by simp; omega)).trans h1, (hg.block _ (Array.getElem?_eq_some_iff.1 h2).1 (by simp; omega)).trans h2, v, xs, (hg.block _ (Array.getElem?_eq_some_iff.1 h3).1 (by simp; omega)).trans h3, h4.kept hg ?_, h5.grown hg hN⟩
  cases hb : v.ownBlock with
  | none => exact .inl rfl
  | some k => exact .inr (fun e => by cases e; have := own_base h4 _ hb; omega)

theorem own_ne {w : World} {base n : Nat} {e : TypeId} {size : Nat} {v : Value} {xs : List Value} (h : w.ownsRow base e size v n xs) {k : Nat} (hk : ∀ cur fz, w.heap[k]? ≠ some (.cells cur e fz)) : v.ownBlock = none ∨ v.ownBlock ≠ some k := by
  rcases h.2 with ⟨rfl, _⟩ | ⟨g, cap, cur, rfl, _, hh, _⟩
  · exact .inl rfl
  · exact .inr (fun e => by cases e; exact hk _ _ hh)

theorem own_none {w : World} {base n : Nat} {e : TypeId} {size : Nat} {v : Value} {xs : List Value} (h : w.ownsRow base e size v n xs) : v.ownBlock = none ∨ v.ownBlock ≠ none := by
  cases v.ownBlock with
  | none => exact .inl rfl
  | some k => exact .inr (by simp)
theorem FrRow.drewN {w : World} {B : Nat} (m : Nat) : ∀ {fs : List (Nat × List UInt8)} {xs : List Value}, FrRow w B fs xs → FrRow (w.drewN m) B fs xs
  | [], _, e => e
  | _ :: _, _, ⟨v, r, e, h1, h2⟩ => ⟨v, r, e, h1.kept (grown_drewN w m none) (own_none h1), FrRow.drewN m h2⟩
theorem FrRow.mono {w : World} {B B' : Nat} (hB : B' ≤ B) : ∀ {fs : List (Nat × List UInt8)} {xs : List Value}, FrRow w B fs xs → FrRow w B' fs xs
  | [], _, e => e
  | _ :: _, _, ⟨v, r, e, h1, h2⟩ => ⟨v, r, e, own_mono h1 hB, FrRow.mono hB h2⟩

theorem heap_setCell_one {w : World} {O : Nat} {x : Value} {t : TypeId} (h : w.heap[O]? = some (.cells #[x] t (0, 0))) (v : Value) : (w.setCell ⟨O, 0, none⟩ v).heap[O]? = some (.cells #[v] t (0, 0)) := by
  simp [World.setCell, Array.getElem?_modify, h]

/-- What Split leaves. -/
def SplitP (w : World) (r : List (Nat × List UInt8) × Nat) (e : Ending) (w' : World) : Prop := ∃ v xs, e = .returned (.tuple #[v, .int .i64 (r.2 : Int)]) ∧ w'.ownsRow w.heap.size 63 2 v r.1.length xs ∧ FrRow w' w.heap.size r.1 xs ∧ Below w.heap.size w w'

set_option maxRecDepth 100000 in
set_option maxHeartbeats 3200000 in
theorem split_frames (A : Option Addr) (cp : Nat) (l : List UInt8) (w : World) (hA : Byt w A l) (hl : l.length ≤ 1000000000) (hn : A = none → l = [] ∧ cp = 0) (hE : Env w) :
    Calls Tryz.prog 32 #[.slice A l.length cp] w (SplitP w (framesS l 0 0)) := by
  obtain ⟨i0, hi, hz0, hz1, hz2⟩ := info_parts info63
  obtain ⟨R, hR⟩ : ∃ R, R = framesS l 0 0 := ⟨_, rfl⟩
  have hRl : (framesS l 0 0).1.length ≤ 1000000000 := Nat.le_trans (framesS_len l.length l 0 0 (by omega)) hl
  rw [← hR]
  have hfd := fun w1 h1 h2 => feed_new w.heap.size A cp l w1 h1 h2 hl hn
  have HFD := Lib.hid hfd
  have HR := Lib.hid hR
  have HA := Lib.hid hA
  have HE := Lib.hid hE
  clear hfd hR hA hE
  obtain ⟨n, hn6⟩ : ∃ n : Nat, 6 ≤ n := ⟨6, Nat.le_refl _⟩
  refine (callsIn_wide (n := n)).1 ?_
  refine callsIn_of_wp_marks Tryz.func32 rfl trivial ?_ rfl
  simp only [Tryz.ntmps32, List.size_toArray, List.length_cons, List.length_nil, Nat.reduceAdd, Nat.reduceSub, Array.replicate_succ, Array.replicate_zero, List.push_toArray, List.append_toArray, List.nil_append, List.cons_append]
  gi_wp2_with fail
  refine ⟨trivial, fun _ => by omega, (callsIn_wide.2 (new_any _)).mono ?_⟩
  rintro e w1 ⟨rfl, rfl⟩
  gi_wp2_with fail
  refine ⟨trivial, fun _ => by omega, (callsIn_wide.2 (HFD.out _ ?_ (HA.out.below ((Below.refl _ _).alloc (Nat.le_refl _) _)))).mono ?_⟩
  · exact ⟨by simp, by simp, by simp, by simp, fun j => by simp [World.frozen?, World.alloc, -World.alloc_eq]⟩
  rintro e w2 ⟨rfl, hg2, hs2⟩
  have hw2 : Below w.heap.size w w2 := ((Below.refl _ w).alloc (Nat.le_refl _) _).grown hg2 (by simp) (by intro k e; cases e; exact Nat.le_refl _)
  have hz2' := hg2.size
  rw [World.size_alloc] at hz2' hs2
  have HS2 := Lib.hid (And.intro hw2 hs2)
  clear hg2 hs2 hw2
  gi_wp2_with fail
  refine ⟨trivial, fun _ => by omega, (callsIn_wide.2 (all_at _ _)).mono ?_⟩
  rintro e w3 ⟨rfl, rfl⟩
  gi_wp2_with fail
  obtain ⟨W0, hW0⟩ : ∃ W0, W0 = (w2.alloc (.cells #[.slice none 0 0] 59)).alloc (.cells #[.pointer (some ⟨w.heap.size, 0, none⟩)] 110) := ⟨_, rfl⟩
  rw [← hW0]
  have hz0' : W0.heap.size = w2.heap.size + 2 := by rw [hW0]; simp
  have hb0 : Below w2.heap.size w2 W0 := by rw [hW0]; exact ((Below.refl _ _).alloc (Nat.le_refl _) _).alloc (by simp) _
  have hO0 : W0.heap[w2.heap.size]? = some (.cells #[.slice none 0 0] 59) := by
    rw [hW0]; exact (Below.heap_alloc _ _ _ (by simp)).trans (World.alloc_heap_new w2 _)
  have hX0 : W0.heap[w2.heap.size + 1]? = some (.cells #[.pointer (some ⟨w.heap.size, 0, none⟩)] 110) := by
    rw [hW0]; have := World.alloc_heap_new (w2.alloc (.cells #[.slice none 0 0] 59)) (.cells #[.pointer (some ⟨w.heap.size, 0, none⟩)] 110); rwa [World.size_alloc] at this
  refine rangeFunc_on rfl (by omega) (gf := 115) (lb := #[.pointer (some ⟨w2.heap.size + 1, 0, none⟩)]) rfl trivial (enters_of Tryz.func115 (by kernel_rfl) rfl) ?_
  intro fn _
  generalize hrec : recOf fn _ _ _ _ _ = rec
  have hb1 : Below W0.heap.size W0 (loopW W0 rec) := ((Below.refl _ _).alloc (Nat.le_refl _) _).alloc (by simp) _
  have hL0 : (loopW W0 rec).heap[W0.heap.size]? = some (.deferred (some [])) := (Below.heap_alloc _ _ _ (by simp)).trans (World.alloc_heap_new W0 _)
  have hl0 : (loopW W0 rec).heap[W0.heap.size + 1]? = some (.loop rec) := by
    have := World.alloc_heap_new (W0.alloc (.deferred (some []))) (.loop rec); rwa [World.size_alloc] at this
  refine (all1_in (n - 1) (by omega) (W0.heap.size + 1) (w2.heap.size + 1) w.heap.size (w.heap.size + 1) w HE.out (Nat.le_refl _) (by omega) (SplitI w2.heap.size W0.heap.size (w.heap.size + 1) rec) l ?_ ?_ (loopW W0 rec) ?_ ?_ ?_ ?_ ?_).mono ?_
  · intro fs W W' h hg
    exact h.grown hg (by omega) (by omega) (by omega)
  · intro fs kind d v W lw a k hI ho hs hX hbW hlen
    obtain ⟨h1, h2, v0, xs, h3, h4, h5⟩ := hI
    obtain ⟨Av, cv, rfl, _⟩ := own_row0 ho
    have hlt := (Array.getElem?_eq_some_iff.1 h1).1
    have hy : YieldAt Fence.wide (n - 1 - 1) Tryz.prog (W0.heap.size + 1) #[.agg #[.int .i64 (kind : Int), .slice Av d.length cv]] W _ :=
      yield_on (rec := rec) (R := fun W3 => (∃ v' xs', W3.heap[w2.heap.size]? = some (.cells #[v'] 59 (0, 0)) ∧ W3.ownsRow W0.heap.size 63 2 v' (fs.length + 1) xs' ∧ FrRow W3 (w.heap.size + 1) (fs ++ [(kind, d)]) xs') ∧ Keep w2.heap.size (W0.heap.size + 1) W W3) trivial h1 (by rw [← hrec]; rfl) (by rw [← hrec]; rfl) (by rw [← hrec]; rfl) (by
        have hW1 := (Below.heap_alloc W (.cells #[.int .i64 (kind : Int), .slice Av d.length cv] 63) _ hlt).trans h1
        have hst : Keep w2.heap.size (W0.heap.size + 1) W ((W.alloc (.cells #[.int .i64 (kind : Int), .slice Av d.length cv] 63)).putObj (W0.heap.size + 1) (.loop (recB rec))) :=
          (Keep.of_grown (World.grownBy_alloc W _ none) (by simp)).trans (Keep.of_grown (grownBy_putObj' _ (W0.heap.size + 1) (.loop (recB rec))) (by intro r e; cases e; exact ⟨.inr (Nat.le_refl _), by intro cur fz; rw [hW1]; simp⟩))
        have hO2 : ((W.alloc (.cells #[.int .i64 (kind : Int), .slice Av d.length cv] 63)).putObj (W0.heap.size + 1) (.loop (recB rec))).heap[w2.heap.size]? = some (.cells #[v0] 59 (0, 0)) :=
          (World.putObj_heap_other (by omega)).trans ((Below.heap_alloc _ _ _ (Array.getElem?_eq_some_iff.1 h3).1).trans h3)
        have hF2 : ((W.alloc (.cells #[.int .i64 (kind : Int), .slice Av d.length cv] 63)).putObj (W0.heap.size + 1) (.loop (recB rec))).heap[W.heap.size]? = some (.cells #[.int .i64 (kind : Int), .slice Av d.length cv] 63) :=
          (World.putObj_heap_other (by omega)).trans (World.alloc_heap_new W _)
        have hL2 : ((W.alloc (.cells #[.int .i64 (kind : Int), .slice Av d.length cv] 63)).putObj (W0.heap.size + 1) (.loop (recB rec))).heap[W0.heap.size + 1]? = some (.loop (recB rec)) := World.putObj_heap_same (by simp; omega)
        have hr2 : ((W.alloc (.cells #[.int .i64 (kind : Int), .slice Av d.length cv] 63)).putObj (W0.heap.size + 1) (.loop (recB rec))).ownsRow W0.heap.size 63 2 v0 fs.length xs := (h4.alloc _).kept (grownBy_putObj' _ (W0.heap.size + 1) (.loop (recB rec))) (own_ne (h4.alloc _) (by rw [hW1]; simp))
        generalize hw5 : (W.alloc (.cells #[.int .i64 (kind : Int), .slice Av d.length cv] 63)).putObj (W0.heap.size + 1) (.loop (recB rec)) = W2 at *
        generalize hrb : recB rec = rb at *
        have hzz : W.heap.size + 1 ≤ W2.heap.size := by rw [← hw5]; simp
        have hzW : W0.heap.size + 2 ≤ W2.heap.size := by omega
        have hzO : w2.heap.size + 2 ≤ W0.heap.size := by omega
        rw [← hrec] at h1 hW1 ⊢
        unfold recOf at *
        dsimp only at *
        have HU := Lib.hid (And.intro hW1 (And.intro hw5 hrb))
        clear hlt hW1 hw5 hrb h1
        obtain ⟨A0, c0', rfl, _⟩ := own_row0 h4
        have c0 : W2.cell? ⟨w2.heap.size, 0, none⟩ = some (.slice A0 fs.length c0') := by simp [World.cell?, hO2]
        have f0 : W2.frozen? ⟨w2.heap.size, 0, none⟩ = false := by simp [World.frozen?, hO2]
        have d0 : W2.cell? ⟨W.heap.size, 0, none⟩ = some (.int .i64 (kind : Int)) := by simp [World.cell?, hF2]
        have d1 : W2.cell? ⟨W.heap.size, 1, none⟩ = some (.slice Av d.length cv) := by simp [World.cell?, hF2]
        have hD2 : W2.heap[W0.heap.size]? = some (.deferred (some [])) := hst.same _ _ h2 (.inl ⟨Nat.lt_succ_self _, by omega⟩)
        have HH := Lib.hid (And.intro hst (And.intro hO2 (And.intro hL2 (And.intro hr2 (And.intro h5 (And.intro ho hD2))))))
        have HLN := Lib.hid hlen
        have hfl : fs.length < 1000000000 := by omega
        clear hz0' hW0
        clear hst hO2 hL2 hr2 h5 ho hD2 hF2 h3 h4 h2 hs hX hbW hL0 hl0 hX0 hO0 hb0 hb1 hlen
        gi_wp2_with fail
        refine ⟨HU.out.1, ?_⟩
        rw [HU.out.2.1]
        gi_wp2_with (gi_at_builtin; refine wpListIn_append_own _ rfl _ _ 59 rfl W0.heap.size 63 i0 (.agg #[.int .i64 0, .slice none 0 0]) 2 32 Tryz.underlying59 hi hz0 hz1 hz2 rfl (by decide) _ _ _ rfl (HH.out.2.2.2.1.alloc _) ⟨W2.heap.size, 0, none⟩ 1 1 [.int .i64 (kind : Int), .slice Av d.length cv] rfl rfl (new_cells W2 [.int .i64 (kind : Int), .slice Av d.length cv] 63) (by simp [Value.oneCell']) (by unfold maxLen; omega) (by omega) (by simp; omega) ?_)
        intro v' w5 hown5 hgrow _
        obtain ⟨hst, hO2, hL2, hr2, h5, ho, hD2⟩ := HH.out
        have hk5 : Keep w2.heap.size (W0.heap.size + 1) W2 w5 := (Keep.of_grown (World.grownBy_alloc W2 _ none) (by simp)).trans (Keep.of_grown hgrow (by
          intro r e
          rcases hr2.2 with ⟨e1, _⟩ | ⟨g, cap, cur, e1, hb, hh, _⟩
          · rw [e1] at e; simp [Value.ownBlock] at e
          · rw [e1] at e
            have : g = r := by simpa [Value.ownBlock] using e
            subst this
            refine ⟨.inr ?_, ?_⟩
            · have : g ≠ W0.heap.size := by intro e2; rw [e2, hD2] at hh; cases hh
              omega
            · intro cur' fz
              rw [Below.heap_alloc _ _ _ (Array.getElem?_eq_some_iff.1 hh).1, hh]
              simp))
        have hO5 : w5.heap[w2.heap.size]? = some (.cells #[.slice A0 fs.length c0'] 59 (0, 0)) := by
          rw [hgrow.block _ (by have := (Array.getElem?_eq_some_iff.1 hO2).1; simp; omega) ?_]
          · exact (Below.heap_alloc _ _ _ (Array.getElem?_eq_some_iff.1 hO2).1).trans hO2
          · intro e; have := own_base hr2 _ e.symm; omega
        have hL5 : w5.heap[W0.heap.size + 1]? = some (.loop rb) := by
          rw [hgrow.block _ (by have := (Array.getElem?_eq_some_iff.1 hL2).1; simp; omega) ?_]
          · exact (Below.heap_alloc _ _ _ (Array.getElem?_eq_some_iff.1 hL2).1).trans hL2
          · intro e
            rcases hr2.2 with ⟨e1, _⟩ | ⟨g, cap, cur, e1, hb, hh, _⟩
            · rw [e1] at e; simp [Value.ownBlock] at e
            · rw [e1] at e
              have : W0.heap.size + 1 = g := by simpa [Value.ownBlock] using e
              subst this
              rw [hL2] at hh; cases hh
        obtain ⟨A1, c1, rfl, _⟩ := own_row0 hown5
        have c5 : w5.cell? ⟨w2.heap.size, 0, none⟩ = some (.slice A0 fs.length c0') := by simp [World.cell?, hO5]
        have f5 : w5.frozen? ⟨w2.heap.size, 0, none⟩ = false := by simp [World.frozen?, hO5]
        have hkw : Keep w2.heap.size (W0.heap.size + 1) W (w5.setCell ⟨w2.heap.size, 0, none⟩ (.slice A1 (fs.length + 1) c1)) := (hst.trans hk5).trans (Keep.of_grown (grown_setCell w5 w2.heap.size 0 _) (by intro r e; cases e; exact ⟨.inl rfl, by intro cur fz; rw [hO5]; simp⟩))
        have HQ := Lib.hid (And.intro hkw (And.intro hO5 (And.intro hL5 (And.intro hown5 (And.intro h5 ho)))))
        clear hst hO2 hL2 hr2 h5 ho hD2 hk5 hO5 hL5 hown5 hkw c0 f0 d0 d1 hgrow
        gi_wp2_with fail
        obtain ⟨hkw, hO5, hL5, hown5, h5, ho⟩ := HQ.out
        refine ⟨?_, ⟨_, heap_setCell_one hO5 _, _, ?_, FrRow.snoc (hkw.own ho) (hkw.frRow h5)⟩, hkw⟩
        · rw [(grown_setCell w5 w2.heap.size 0 _).block _ (Array.getElem?_eq_some_iff.1 hL5).1 (by simp; omega)]; exact hL5
        · exact hown5.kept (grown_setCell w5 w2.heap.size 0 _) (own_ne hown5 (by rw [hO5]; simp)))
    obtain ⟨fn1, tm1, as1, bo1, hy1, hy2⟩ := hy
    refine ⟨fn1, tm1, as1, bo1, hy1, hy2.mono ?_⟩
    rintro e W' ⟨rfl, W3, ⟨⟨v', xs', g1, g2, g3⟩, hk⟩, hl3, rfl⟩
    have hg := grownBy_putObj' W3 (W0.heap.size + 1) (.loop rec)
    have hk2 : Keep w2.heap.size (W0.heap.size + 1) W3 (W3.putObj (W0.heap.size + 1) (.loop rec)) := Keep.of_grown hg (by intro r e; cases e; exact ⟨.inr (Nat.le_refl _), by intro cur fz; rw [hl3]; simp⟩)
    have hk3 := hk.trans hk2
    exact ⟨rfl, ⟨World.putObj_heap_same (Array.getElem?_eq_some_iff.1 hl3).1, hk3.same _ _ h2 (.inl ⟨Nat.lt_succ_self _, by omega⟩), v', xs', (World.putObj_heap_other (by omega)).trans g1, by rw [List.length_append]; exact g2.kept hg (own_ne g2 (by rw [hl3]; simp)), hk2.frRow g3⟩, hk3.sp hs (by omega) (by omega), hk3.cell hX (by omega) (by omega), hk3.below hbW (by omega) (by omega), hk3.size⟩
  · exact ⟨hl0, hL0, _, [], (hb1.block _ (by omega)).trans hO0, World.ownsRow_nil _ _ _ _, rfl⟩
  · exact (HS2.out.2.grown (below_grown hb0 none) (by simp)).grown (below_grown hb1 none) (by simp)
  · have := (hb1.block _ (by omega)).trans hX0
    simp [World.cell?, this]
  · exact HS2.out.1.trans ((hb0.mono HS2.out.1.size).trans (hb1.mono (by omega)))
  · have := hb1.size; omega
  · rintro e W2 ⟨⟨v0, rfl⟩, hI, ⟨lw, a, k, hs, hlw⟩, hbW⟩
    obtain ⟨h1, h2, v, xs, h3, h4, h5⟩ := hI
    refine ⟨⟨_, rfl⟩, h1, ?_⟩
    obtain ⟨oX, hoX⟩ : ∃ o, o = (Obj.loop { rec with state := .exhausted }) := ⟨_, rfl⟩
    rw [← hoX]
    have hg := grownBy_putObj' W2 (W0.heap.size + 1) oX
    have hlN : W0.heap.size + 1 ≠ w.heap.size := by omega
    have hs3 : Sp (W2.putObj (W0.heap.size + 1) oX) (w.heap.size + 1) w.heap.size lw a k := hs.grown hg (by simp; omega) (by intro r e cur fz; cases e; rw [h1]; simp)
    have hD3 : (W2.putObj (W0.heap.size + 1) oX).heap[W0.heap.size]? = some (.deferred (some [])) := (World.putObj_heap_other (by omega)).trans h2
    have hO3 : (W2.putObj (W0.heap.size + 1) oX).heap[w2.heap.size]? = some (.cells #[v] 59 (0, 0)) := (World.putObj_heap_other (by omega)).trans h3
    have hr3 : (W2.putObj (W0.heap.size + 1) oX).ownsRow W0.heap.size 63 2 v (framesS l 0 0).1.length xs := h4.kept hg (own_ne h4 (by rw [h1]; simp))
    have hf3 : FrRow (W2.putObj (W0.heap.size + 1) oX) (w.heap.size + 1) (framesS l 0 0).1 xs := by
      have := Keep.of_grown (O := w2.heap.size) (l := W0.heap.size) hg (by intro r e; cases e; exact ⟨.inr (by omega), by intro cur fz; rw [h1]; simp⟩)
      exact this.frRow h5
    have hb3 : Below w.heap.size w (W2.putObj (W0.heap.size + 1) oX) := hbW.grown hg hbW.size (by intro k e; cases e; omega)
    generalize W2.putObj (W0.heap.size + 1) oX = W3 at *
    have HX := Lib.hid (And.intro hs3 (And.intro hD3 (And.intro hr3 (And.intro hf3 (And.intro hb3 hlw)))))
    have c0 : W3.cell? ⟨w2.heap.size, 0, none⟩ = some v := by simp [World.cell?, hO3]
    have hle := fun m => left_any _ _ _ _ _ (W3.drewN m) (hs3.grown (grown_drewN W3 m none) (by simp))
    have HLE := Lib.hid hle
    clear hs3 hD3 hO3 hr3 hf3 hb3 hle h1 h2 h3 h4 h5 hg hoX hs hlw hbW hL0 hl0 hX0 hO0 hb0 hb1
    gi_wp2_with fail
    refine wpIn_wide.2 ?_
    go_quiet ((go_at_call 68; exact Calls.quiet_of_same (HLE.out _)))
    gi_wp2_with fail
    obtain ⟨hs3, hD3, hr3, hf3, hb3, hlw⟩ := HX.out
    have hK : (W3.drewN nq).heap[w2.heap.size + 1 + 1]? = some (.deferred (some [])) := by rw [show w2.heap.size + 1 + 1 = W0.heap.size by omega]; exact hD3
    refine ⟨by simp, .inl ⟨_, _, rfl, run_takeDeferred hK, ?_⟩⟩
    have hg4 := grownBy_putObj' (W3.drewN nq) (w2.heap.size + 1 + 1) (.deferred none)
    have hk4 := Keep.of_grown (O := w2.heap.size) (l := W0.heap.size) hg4 (by intro r e; cases e; exact ⟨.inr (by omega), by intro cur fz; rw [hK]; simp⟩)
    have hr4 : ((W3.drewN nq).putObj (w2.heap.size + 1 + 1) (.deferred none)).ownsRow W0.heap.size 63 2 v (framesS l 0 0).1.length xs := (hr3.kept (grown_drewN W3 nq none) (own_none hr3)).kept hg4 (own_ne (hr3.kept (grown_drewN W3 nq none) (own_none hr3)) (by rw [hK]; simp))
    have hf4 : FrRow ((W3.drewN nq).putObj (w2.heap.size + 1 + 1) (.deferred none)) w.heap.size (framesS l 0 0).1 xs := (hk4.frRow (hf3.drewN nq)).mono (Nat.le_succ _)
    have hb4 : Below w.heap.size w ((W3.drewN nq).putObj (w2.heap.size + 1 + 1) (.deferred none)) := (below_drewN hb3 nq).grown hg4 (by have := hb3.size; exact this) (by intro k e; cases e; omega)
    exact ⟨_, results_tmp2 rfl _ _ _, v, xs, by rw [HR.out, ← hlw]; rfl, by rw [HR.out]; exact own_mono hr4 (by omega), by rw [HR.out]; exact hf4, hb4⟩
end Go.Proofs.YtkdnfjafabgioaaGreatDoor.Own
