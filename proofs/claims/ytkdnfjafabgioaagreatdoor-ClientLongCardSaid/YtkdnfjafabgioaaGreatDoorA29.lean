import Derived.Test.YtkdnfjafabgioaaGreatDoorA28
set_option linter.unusedVariables false
set_option linter.unusedSimpArgs false
namespace Go.Proofs.YtkdnfjafabgioaaGreatDoor.Own
open Go.RowKit Go.Shelf

theorem list_eq_of_get (a b : List UInt8) (hl : a.length = b.length) (h : ∀ j, j < a.length → a.getD j 0 = b.getD j 0) : a = b := by
  apply List.ext_getElem hl
  intro i h1 h2
  have := h i h1
  simpa [List.getD_eq_getElem?_getD, h1, h2] using this
theorem u8_beq (x y : UInt8) : ((x.toNat : Int) == (y.toNat : Int)) = (x == y) := by
  by_cases e : x = y
  · subst e; simp
  · have : ¬ (x.toNat : Int) = (y.toNat : Int) := fun e2 => e (UInt8.toNat_inj.1 (by omega))
    rw [beq_eq_false_iff_ne.2 this, beq_eq_false_iff_ne.2 e]

set_option maxRecDepth 100000 in
set_option maxHeartbeats 1600000 in
/-- slices.Equal at bytes. -/
theorem eqBytes_any (A B : Option Addr) (ca cb : Nat) (a b : List UInt8) (w : World) (hA : Byt w A a) (hB : Byt w B b) :
    Calls Tryz.prog 13 #[.slice A a.length ca, .slice B b.length cb] w fun e w' => e = .returned (.bool (decide (a = b))) ∧ Below w.heap.size w w' := by
  have hal := hA.1
  unfold maxLen at hal
  obtain ⟨R, hR⟩ : ∃ R, R = decide (a = b) := ⟨_, rfl⟩
  rw [← hR]
  by_cases hl : a.length = b.length
  · have HA := Lib.hid hA
    have HB := Lib.hid hB
    have HR := Lib.hid (And.intro hR hl)
    rw [← hl]
    clear hA hB hR hl
    go_enter Tryz.func13, Tryz.ntmps13
    go_wp2_with fail
    go_loopw [13] (fun i wr => ∃ k q : Nat, k ≤ a.length ∧ i = .int .i64 k ∧ (∀ j, j < k → a.getD j 0 = b.getD j 0) ∧ wr = w.drewN q)
      (fun i _ => a.length - (intOf i).toNat)
    case atStart => exact ⟨0, 0, by omega, rfl, by intro j hj; omega, rfl⟩
    case round =>
      obtain ⟨k, q, hk, rfl, hpre, rfl⟩ := hrel
      have HP := Lib.hid hpre
      clear hpre
      by_cases hlt : k < a.length
      · have hbl : k < b.length := by rw [← HR.out.2]; exact hlt
        obtain ⟨ba, oa, rfl, hza, hca⟩ := HA.out.at (by omega)
        obtain ⟨bb, ob, rfl, hzb, hcb⟩ := HB.out.at (by omega)
        obtain ⟨x, hx⟩ : ∃ x, x = a.getD k 0 := ⟨_, rfl⟩
        obtain ⟨y, hy⟩ : ∃ y, y = b.getD k 0 := ⟨_, rfl⟩
        have ka := hca k hlt
        have kb := hcb k hbl
        rw [← hx] at ka
        rw [← hy] at kb
        have hxy := u8_beq x y
        have HX := Lib.hid (And.intro hx hy)
        clear hca hcb hx hy hbl
        by_cases he : x = y
        · have g1 : ((x.toNat : Int) == (y.toNat : Int)) = true := by rw [hxy]; simpa using he
          have HE := Lib.hid he
          clear hxy he
          go_wp2_with fail
          go_quiet (fail)
          go_wp2_with fail
          go_roundw
          case rel => exact ⟨k + 1, _, by omega, by simp, fun j hj => by
            rcases Nat.lt_succ_iff_lt_or_eq.1 hj with h | rfl
            · exact HP.out j h
            · rw [← HX.out.1, ← HX.out.2, HE.out], rfl⟩
          case measure => simp only [intOf]; omega
        · have g1 : ((x.toNat : Int) == (y.toNat : Int)) = false := by rw [hxy]; simpa using he
          have HE := Lib.hid he
          clear hxy he
          go_wp2_with fail
          go_quiet (fail)
          go_wp2_with fail
          go_ret
          exact ⟨by rw [HR.out.1, decide_eq_false (fun e => HE.out (by rw [HX.out.1, HX.out.2, e]))]; rfl, below_drewN (below_drewN (Below.refl _ _) _) _⟩
      · obtain rfl : k = a.length := by omega
        go_wp2_with fail
        go_ret
        exact ⟨by rw [HR.out.1, decide_eq_true (list_eq_of_get a b HR.out.2 (fun j hj => HP.out j hj))]; rfl, below_drewN (Below.refl _ _) _⟩
  · have g1 : ((a.length : Int) == (b.length : Int)) = false := by rw [beq_eq_false_iff_ne]; omega
    have HR := Lib.hid hR
    have HL := Lib.hid hl
    clear hR hl hA hB
    go_enter Tryz.func13, Tryz.ntmps13
    go_wp2_with fail
    go_ret
    exact ⟨by rw [HR.out, decide_eq_false (fun e => HL.out (by rw [e]))]; rfl, Below.refl _ _⟩

theorem rng_eq_of_get (a b : List (Nat × Nat)) (hl : a.length = b.length) (h : ∀ j, j < a.length → a.getD j (0, 0) = b.getD j (0, 0)) : a = b := by
  apply List.ext_getElem hl
  intro i h1 h2
  have := h i h1
  simpa [List.getD_eq_getElem?_getD, h1, h2] using this
theorem nat_beq (x y : Nat) : ((x : Int) == (y : Int)) = (x == y) := by
  by_cases e : x = y
  · subst e; simp
  · rw [beq_eq_false_iff_ne.2 (by omega), beq_eq_false_iff_ne.2 e]
theorem rngAt {w : World} {base : Nat} {A : Option Addr} {l : List (Nat × Nat)} (h : CellsIn w base A (rngCells l)) {k : Nat} (hk : k < l.length) : ∃ b o, A = some ⟨b, o, none⟩ ∧ b < w.heap.size ∧ ∀ j, j < l.length → w.cell? ⟨b, o + j * 2, none⟩ = some (.int .u32 ((l.getD j (0, 0)).1 : Int)) ∧ w.cell? ⟨b, o + j * 2 + 1, none⟩ = some (.int .u32 ((l.getD j (0, 0)).2 : Int)) := by
  obtain ⟨b, o, e, _, hz, hc⟩ := h (by intro e; have := (rngCells_get l k hk).1; rw [e] at this; simp at this)
  refine ⟨b, o, e, hz, fun j hj => ?_⟩
  have h1 := rngCells_get l j hj
  have hg : l.getD j (0, 0) = l[j] := by simp [List.getD_eq_getElem?_getD, hj]
  rw [hg]
  exact ⟨hc _ _ h1.1, hc _ _ h1.2⟩

set_option maxRecDepth 100000 in
set_option maxHeartbeats 1600000 in
/-- slices.Equal at ranges. -/
theorem eqRanges_any (A B : Option Addr) (ca cb base : Nat) (a b : List (Nat × Nat)) (w : World) (hA : CellsIn w base A (rngCells a)) (hB : CellsIn w base B (rngCells b)) (hal : a.length ≤ 1000000000) :
    Calls Tryz.prog 105 #[.slice A a.length ca, .slice B b.length cb] w fun e w' => e = .returned (.bool (decide (a = b))) ∧ Below w.heap.size w w' := by
  obtain ⟨R, hR⟩ : ∃ R, R = decide (a = b) := ⟨_, rfl⟩
  rw [← hR]
  by_cases hl : a.length = b.length
  · have HA := Lib.hid hA
    have HB := Lib.hid hB
    have HR := Lib.hid (And.intro hR hl)
    rw [← hl]
    clear hA hB hR hl
    go_enter Tryz.func105, Tryz.ntmps105
    go_wp2_with fail
    go_loopw [13] (fun i wr => ∃ k q : Nat, k ≤ a.length ∧ i = .int .i64 k ∧ (∀ j, j < k → a.getD j (0, 0) = b.getD j (0, 0)) ∧ wr = w.drewN q)
      (fun i _ => a.length - (intOf i).toNat)
    case atStart => exact ⟨0, 0, by omega, rfl, by intro j hj; omega, rfl⟩
    case round =>
      obtain ⟨k, q, hk, rfl, hpre, rfl⟩ := hrel
      have HP := Lib.hid hpre
      clear hpre
      by_cases hlt : k < a.length
      · have hbl : k < b.length := by rw [← HR.out.2]; exact hlt
        obtain ⟨ba, oa, rfl, hza, hca⟩ := rngAt HA.out hlt
        obtain ⟨bb, ob, rfl, hzb, hcb⟩ := rngAt HB.out hbl
        obtain ⟨⟨x1, x2⟩, hx⟩ : ∃ x, x = a.getD k (0, 0) := ⟨_, rfl⟩
        obtain ⟨⟨y1, y2⟩, hy⟩ : ∃ y, y = b.getD k (0, 0) := ⟨_, rfl⟩
        have ka := hca k hlt
        have kb := hcb k hbl
        rw [← hx] at ka
        rw [← hy] at kb
        obtain ⟨ka1, ka2⟩ := ka
        obtain ⟨kb1, kb2⟩ := kb
        have hxy1 := nat_beq x1 y1
        have hxy2 := nat_beq x2 y2
        have HX := Lib.hid (And.intro hx hy)
        clear hca hcb hx hy hbl
        by_cases he1 : x1 = y1
        · have g1 : ((x1 : Int) == (y1 : Int)) = true := by rw [hxy1]; simpa using he1
          have HE1 := Lib.hid he1
          clear hxy1 he1
          by_cases he2 : x2 = y2
          · have g2 : ((x2 : Int) == (y2 : Int)) = true := by rw [hxy2]; simpa using he2
            have HE2 := Lib.hid he2
            clear hxy2 he2
            go_wp2_with fail
            go_quiet (fail)
            go_wp2_with fail
            go_roundw
            case rel => exact ⟨k + 1, _, by omega, by simp, fun j hj => by
              rcases Nat.lt_succ_iff_lt_or_eq.1 hj with h | rfl
              · exact HP.out j h
              · rw [← HX.out.1, ← HX.out.2, HE1.out, HE2.out], rfl⟩
            case measure => simp only [intOf]; omega
          · have g2 : ((x2 : Int) == (y2 : Int)) = false := by rw [hxy2]; simpa using he2
            have HE2 := Lib.hid he2
            clear hxy2 he2
            go_wp2_with fail
            go_quiet (fail)
            go_wp2_with fail
            go_ret
            exact ⟨by rw [HR.out.1, decide_eq_false (fun e => HE2.out (by have h1 := HX.out.1; have h2 := HX.out.2; rw [e, ← h2] at h1; exact (Prod.mk.inj h1).2))]; rfl, below_drewN (below_drewN (Below.refl _ _) _) _⟩
        · have g1 : ((x1 : Int) == (y1 : Int)) = false := by rw [hxy1]; simpa using he1
          have HE1 := Lib.hid he1
          clear hxy1 he1
          go_wp2_with fail
          go_quiet (fail)
          go_wp2_with fail
          go_ret
          exact ⟨by rw [HR.out.1, decide_eq_false (fun e => HE1.out (by have h1 := HX.out.1; have h2 := HX.out.2; rw [e, ← h2] at h1; exact (Prod.mk.inj h1).1))]; rfl, below_drewN (below_drewN (Below.refl _ _) _) _⟩
      · obtain rfl : k = a.length := by omega
        go_wp2_with fail
        go_ret
        exact ⟨by rw [HR.out.1, decide_eq_true (rng_eq_of_get a b HR.out.2 (fun j hj => HP.out j hj))]; rfl, below_drewN (Below.refl _ _) _⟩
  · have g1 : ((a.length : Int) == (b.length : Int)) = false := by rw [beq_eq_false_iff_ne]; omega
    have HR := Lib.hid hR
    have HL := Lib.hid hl
    clear hR hl hA hB
    go_enter Tryz.func105, Tryz.ntmps105
    go_wp2_with fail
    go_ret
    exact ⟨by rw [HR.out, decide_eq_false (fun e => HL.out (by rw [e]))]; rfl, Below.refl _ _⟩
end Go.Proofs.YtkdnfjafabgioaaGreatDoor.Own
