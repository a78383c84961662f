import Derived.Test.YtkdnfjafabgioaaGreatDoorA19
set_option linter.unusedVariables false
set_option linter.unusedSimpArgs false
namespace Go.Proofs.YtkdnfjafabgioaaGreatDoor.Own
open Go.RowKit Go.Shelf

/-- What slices.Clone leaves. -/
def CloneP (l : List UInt8) (w : World) (e : Ending) (w' : World) : Prop := ∃ v, e = .returned v ∧ w'.ownsRow w.heap.size 5 1 v l.length (Lib.byteCells l) ∧ Below w.heap.size w w'
/-- What finish leaves. -/
def FinP (w : World) (N : Nat) (kind : Int) (d r : List UInt8) (e : Ending) (w' : World) : Prop := ∃ v1 v2, e = .returned (.tuple #[.agg #[.int .i64 kind, v1], .bool true]) ∧ w'.ownsRow w.heap.size 5 1 v1 d.length (Lib.byteCells d) ∧ Spl w' N v2 0 0 0 ∧ w'.ownsRow w.heap.size 5 1 v2 r.length (Lib.byteCells r) ∧ w.grownBy w' (some N)

theorem grown_fresh {w w' : World} {row : Option Nat} (h : w.grownBy w' row) (R j : Nat) (v : Value) (hR : w.heap.size ≤ R) : w.grownBy (w'.setCell ⟨R, j, none⟩ v) row :=
  ⟨h.os, h.tape, h.output, by simpa using h.size, fun k hk hne => by
    have : R ≠ k := by omega
    rw [← h.block k hk hne]
    simp [World.setCell, Array.getElem?_modify, this]⟩
theorem Spl.set0 {w : World} {N : Nat} {v : Value} {a k s : Int} (h : Spl w N v a k s) (x : Value) (hx : x.oneCell' = true) : Spl (w.setCell ⟨N, 0, none⟩ x) N x a k s :=
  ⟨World.cell?_setCell_same' _ _ _ (by rw [h.c0]; rfl), (World.cell?_setCell_other _ _ _ _ (by simp)).trans h.c1, (World.cell?_setCell_other _ _ _ _ (by simp)).trans h.c2, (World.cell?_setCell_other _ _ _ _ (by simp)).trans h.c3, fun j => by rw [World.frozen?_setCell]; exact h.fr j⟩
theorem own_mono {w : World} {base base' n : Nat} {e : TypeId} {size : Nat} {v : Value} {xs : List Value} (h : w.ownsRow base e size v n xs) (hb : base' ≤ base) : w.ownsRow base' e size v n xs :=
  ⟨h.1, h.2.imp id fun ⟨g, cap, cur, hv, h1, h2⟩ => ⟨g, cap, cur, hv, Nat.le_trans hb h1, h2⟩⟩
theorem ownsRow_below {B : Nat} {e : TypeId} {k : Nat} {v : Value} {n : Nat} {xs : List Value} {w w' : World} (h : w.ownsRow B e k v n xs) (hb : Below w.heap.size w w') : w'.ownsRow B e k v n xs :=
  ⟨h.1, h.2.imp id fun ⟨g, cap, cur, hv, h1, h2, h3⟩ => ⟨g, cap, cur, hv, h1, by rw [hb.block g (Array.getElem?_eq_some_iff.1 h2).1]; exact h2, h3⟩⟩

set_option maxRecDepth 100000 in
set_option maxHeartbeats 1600000 in
theorem finish_at (N n cp : Nat) (kind : Int) (d l : List UInt8) (A D : Option Addr) (dc : Nat) (a k s : Int) (w : World) (h : Spl w N (.slice A l.length cp) a k s) (hA : Byt w A l) (hr : Row0 A cp) (hl : l.length ≤ 1000000000) (hnl : n ≤ l.length) (hcp : l.length ≤ cp) (hcm : cp ≤ maxLen) (hD : ∀ W, Below w.heap.size w W → Calls Tryz.prog 185 #[.slice D d.length dc] W (CloneP d W)) :
    Calls Tryz.prog 163 #[.pointer (some ⟨N, 0, none⟩), .int .i64 kind, .slice D d.length dc, .int .i64 n] w (FinP w N kind d (l.drop n)) := by
  have H := Lib.hid h
  have HD := Lib.hid hD
  by_cases hac : n < cp
  · rcases hr with ⟨rfl, rfl⟩ | ⟨g, rfl⟩
    · omega
    have hC : ∀ W, Below w.heap.size w W → Calls Tryz.prog 185 #[.slice (some ⟨g, n, none⟩) (l.length - n) (cp - n)] W (CloneP (l.drop n) W) := by
      intro W hW
      have := clone_any (some ⟨g, n, none⟩) (cp - n) (l.drop n) W (by have := (hA.below hW).drop n; rw [Nat.zero_add] at this; exact this) (by simp; omega) (by simp)
      rw [List.length_drop] at this
      exact this.mono fun e w' h => by unfold CloneP; rw [List.length_drop]; exact h
    have hne : ¬ cp = n := by omega
    have HC := Lib.hid hC
    clear h hD hA hC
    go_enter Tryz.func163, Tryz.ntmps163
    go_wp2_with fail
    refine (HD.out _ ((Below.refl _ w).alloc (Nat.le_refl _) _)).mono ?_
    rintro e w1 ⟨v1, rfl, ho1, hb1⟩
    have hb1' : Below w.heap.size w w1 := ((Below.refl _ w).alloc (Nat.le_refl _) _).trans (hb1.mono (by simp))
    have hr1 : w1.cell? ⟨w.heap.size, 0, none⟩ = some (.int .i64 0) ∧ w1.cell? ⟨w.heap.size, 1, none⟩ = some (.slice none 0 0) ∧ ∀ j, w1.frozen? ⟨w.heap.size, j, none⟩ = false := by
      have hb := hb1.block w.heap.size (by simp)
      exact ⟨(World.cell?_of_block hb).trans (by simp), (World.cell?_of_block hb).trans (by simp), fun j => (World.frozen?_of_block (a := ⟨w.heap.size, j, none⟩) hb).trans (by simp)⟩
    obtain ⟨r0, r1, rf⟩ := hr1
    have rf0 := rf 0
    have rf1 := rf 1
    have hz1 := hb1'.size
    have hz2 := hb1.size
    rw [World.size_alloc] at hz2
    obtain ⟨A1, c1, rfl, _⟩ := own_row0 ho1
    have hs1 := H.out.below hb1'
    have c0 := hs1.c0
    have hN := hs1.lt
    have hO1 := Lib.hid ho1
    have hB1 := Lib.hid hb1
    have HS1 := Lib.hid hs1
    clear ho1 hb1 hs1 rf
    go_wp2_with fail
    refine (HC.out _ (hb1'.trans ((Below.refl _ w1).alloc (Nat.le_refl _) _ |>.mono hz1))).mono ?_
    rintro e w2 ⟨v2, rfl, ho2, hb2⟩
    have hbz := hb2.size
    rw [World.size_alloc] at hbz
    have hbx : Below w1.heap.size w1 w2 := ((Below.refl _ w1).alloc (Nat.le_refl _) _).trans (hb2.mono (by simp))
    have hbw : Below w.heap.size w w2 := hb1'.trans (hbx.mono hz1)
    have hr2 := hbx.block w.heap.size (by omega)
    have rr0 : w2.cell? ⟨w.heap.size, 0, none⟩ = some (.int .i64 0) := (World.cell?_of_block hr2).trans r0
    have rr1 : w2.cell? ⟨w.heap.size, 1, none⟩ = some (.slice none 0 0) := (World.cell?_of_block hr2).trans r1
    have rf2 : w2.frozen? ⟨w.heap.size, 0, none⟩ = false := (World.frozen?_of_block (a := ⟨w.heap.size, 0, none⟩) hr2).trans rf0
    have rf3 : w2.frozen? ⟨w.heap.size, 1, none⟩ = false := (World.frozen?_of_block (a := ⟨w.heap.size, 1, none⟩) hr2).trans rf1
    have hf2 := hb2.block w1.heap.size (by simp)
    have fc0 : w2.cell? ⟨w1.heap.size, 0, none⟩ = some (.int .i64 kind) := (World.cell?_of_block hf2).trans (by simp)
    have fc1 : w2.cell? ⟨w1.heap.size, 1, none⟩ = some (.slice A1 d.length c1) := (World.cell?_of_block hf2).trans (by simp)
    have hs2 := HS1.out.below hbx
    clear c0 r0 r1 rf0 rf1 hr2 hf2
    have c0 := hs2.c0
    have c1' := hs2.c1
    have c2 := hs2.c2
    have c3 := hs2.c3
    have f0 := hs2.fr 0
    have f1 := hs2.fr 1
    have f2 := hs2.fr 2
    have f3 := hs2.fr 3
    have hNw := H.out.lt
    obtain ⟨A2, cc2, rfl, _⟩ := own_row0 ho2
    have ho1 := hO1.out
    have ho1' : w2.ownsRow (w.heap.size + 1) 5 1 (.slice A1 d.length c1) d.length (Lib.byteCells d) := ownsRow_below (own_mono ho1 (by simp)) hbx
    have ho2' : w2.ownsRow (w.heap.size + 1) 5 1 (.slice A2 (l.drop n).length cc2) (l.drop n).length (Lib.byteCells (l.drop n)) := own_mono ho2 (by simp; omega)
    have HS2 := Lib.hid hs2
    have HO1 := Lib.hid ho1'
    have HO2 := Lib.hid ho2'
    have HBW := Lib.hid hbw
    clear hs2 ho1 ho1' ho2' ho2 hb2 hbw
    go_wp2_with fail
    refine bodyPost_ret (v := .tuple #[.agg #[.int .i64 kind, .slice A1 d.length c1], .bool true]) ?_ rfl ?_
    · clear hne hac hnl hcp hcm hl
      simp [results, Tryz.f163, go_sem, *]
    · exact ⟨_, _, rfl,
        own_mono (ownsRow_setCell_below (ownsRow_setCell_below (ownsRow_setCell_below (ownsRow_setCell_below (ownsRow_setCell_below (ownsRow_setCell_below HO1.out (by simp; omega) _) (by simp; omega) _) (by simp; omega) _) (by simp; omega) _) (by simp) _) (by simp) _) (Nat.le_succ _),
        ((((((HS2.out.set0 _ rfl).set1 0).set2 0).set3 0).grown (grown_setCell _ w.heap.size 0 _) (by simp; omega)).grown (grown_setCell _ w.heap.size 1 _) (by simp; omega)),
        by rw [← List.length_drop]; exact own_mono (ownsRow_setCell_below (ownsRow_setCell_below (ownsRow_setCell_below (ownsRow_setCell_below (ownsRow_setCell_below (ownsRow_setCell_below HO2.out (by simp; omega) _) (by simp; omega) _) (by simp; omega) _) (by simp; omega) _) (by simp) _) (by simp) _) (Nat.le_succ _),
        grown_fresh (grown_fresh (grown_trans (below_nat HBW.out N) (grown_trans (grown_setCell _ N 0 _) (grown_trans (grown_setCell _ N 1 _) (grown_trans (grown_setCell _ N 2 _) (grown_setCell _ N 3 _))))) _ _ _ (Nat.le_refl _)) _ _ _ (Nat.le_refl _)⟩
  · obtain rfl : n = cp := by omega
    obtain rfl : n = l.length := by omega
    have hC : ∀ A' W, Calls Tryz.prog 185 #[.slice A' 0 0] W (CloneP (l.drop l.length) W) := by
      intro A' W
      have := clone_any A' 0 [] W (Byt.nil _ _) (by simp) (by simp)
      rw [List.drop_length]
      exact this
    have hz : (l.drop l.length).length = 0 := by simp
    have HC := Lib.hid hC
    clear h hD hA hC
    rcases hr with ⟨rfl, h0⟩ | ⟨g, rfl⟩
    · go_enter Tryz.func163, Tryz.ntmps163
      go_wp2_with fail
      refine (HD.out _ ((Below.refl _ w).alloc (Nat.le_refl _) _)).mono ?_
      rintro e w1 ⟨v1, rfl, ho1, hb1⟩
      have hb1' : Below w.heap.size w w1 := ((Below.refl _ w).alloc (Nat.le_refl _) _).trans (hb1.mono (by simp))
      have hr1 : w1.cell? ⟨w.heap.size, 0, none⟩ = some (.int .i64 0) ∧ w1.cell? ⟨w.heap.size, 1, none⟩ = some (.slice none 0 0) ∧ ∀ j, w1.frozen? ⟨w.heap.size, j, none⟩ = false := by
        have hb := hb1.block w.heap.size (by simp)
        exact ⟨(World.cell?_of_block hb).trans (by simp), (World.cell?_of_block hb).trans (by simp), fun j => (World.frozen?_of_block (a := ⟨w.heap.size, j, none⟩) hb).trans (by simp)⟩
      obtain ⟨r0, r1, rf⟩ := hr1
      have rf0 := rf 0
      have rf1 := rf 1
      have hz1 := hb1'.size
      have hz2 := hb1.size
      rw [World.size_alloc] at hz2
      obtain ⟨A1, c1, rfl, _⟩ := own_row0 ho1
      have hs1 := H.out.below hb1'
      have c0 := hs1.c0
      have hN := hs1.lt
      have hO1 := Lib.hid ho1
      have hB1 := Lib.hid hb1
      have HS1 := Lib.hid hs1
      clear ho1 hb1 hs1 rf
      go_wp2_with fail
      refine (HC.out _ _).mono ?_
      rintro e w2 ⟨v2, rfl, ho2, hb2⟩
      have hbz := hb2.size
      rw [World.size_alloc] at hbz
      have hbx : Below w1.heap.size w1 w2 := ((Below.refl _ w1).alloc (Nat.le_refl _) _).trans (hb2.mono (by simp))
      have hbw : Below w.heap.size w w2 := hb1'.trans (hbx.mono hz1)
      have hr2 := hbx.block w.heap.size (by omega)
      have rr0 : w2.cell? ⟨w.heap.size, 0, none⟩ = some (.int .i64 0) := (World.cell?_of_block hr2).trans r0
      have rr1 : w2.cell? ⟨w.heap.size, 1, none⟩ = some (.slice none 0 0) := (World.cell?_of_block hr2).trans r1
      have rf2 : w2.frozen? ⟨w.heap.size, 0, none⟩ = false := (World.frozen?_of_block (a := ⟨w.heap.size, 0, none⟩) hr2).trans rf0
      have rf3 : w2.frozen? ⟨w.heap.size, 1, none⟩ = false := (World.frozen?_of_block (a := ⟨w.heap.size, 1, none⟩) hr2).trans rf1
      have hf2 := hb2.block w1.heap.size (by simp)
      have fc0 : w2.cell? ⟨w1.heap.size, 0, none⟩ = some (.int .i64 kind) := (World.cell?_of_block hf2).trans (by simp)
      have fc1 : w2.cell? ⟨w1.heap.size, 1, none⟩ = some (.slice A1 d.length c1) := (World.cell?_of_block hf2).trans (by simp)
      have hs2 := HS1.out.below hbx
      clear c0 r0 r1 rf0 rf1 hr2 hf2
      have c0 := hs2.c0
      have c1' := hs2.c1
      have c2 := hs2.c2
      have c3 := hs2.c3
      have f0 := hs2.fr 0
      have f1 := hs2.fr 1
      have f2 := hs2.fr 2
      have f3 := hs2.fr 3
      have hNw := H.out.lt
      obtain ⟨A2, cc2, rfl, _⟩ := own_row0 ho2
      have ho1 := hO1.out
      have ho1' : w2.ownsRow (w.heap.size + 1) 5 1 (.slice A1 d.length c1) d.length (Lib.byteCells d) := ownsRow_below (own_mono ho1 (by simp)) hbx
      have ho2' : w2.ownsRow (w.heap.size + 1) 5 1 (.slice A2 (l.drop l.length).length cc2) (l.drop l.length).length (Lib.byteCells (l.drop l.length)) := own_mono ho2 (by simp; omega)
      have HS2 := Lib.hid hs2
      have HO1 := Lib.hid ho1'
      have HO2 := Lib.hid ho2'
      have HBW := Lib.hid hbw
      clear hs2 ho1 ho1' ho2' ho2 hb2 hbw
      go_wp2_with fail
      refine bodyPost_ret (v := .tuple #[.agg #[.int .i64 kind, .slice A1 d.length c1], .bool true]) ?_ rfl ?_
      · clear hac hnl hcp hcm hl
        simp [results, Tryz.f163, go_sem, *]
      · exact ⟨_, _, rfl,
          own_mono (ownsRow_setCell_below (ownsRow_setCell_below (ownsRow_setCell_below (ownsRow_setCell_below (ownsRow_setCell_below (ownsRow_setCell_below HO1.out (by simp; omega) _) (by simp; omega) _) (by simp; omega) _) (by simp; omega) _) (by simp) _) (by simp) _) (Nat.le_succ _),
          ((((((HS2.out.set0 _ rfl).set1 0).set2 0).set3 0).grown (grown_setCell _ w.heap.size 0 _) (by simp; omega)).grown (grown_setCell _ w.heap.size 1 _) (by simp; omega)),
          by have h2 := HO2.out; simp only [hz] at h2 ⊢; exact own_mono (ownsRow_setCell_below (ownsRow_setCell_below (ownsRow_setCell_below (ownsRow_setCell_below (ownsRow_setCell_below (ownsRow_setCell_below h2 (by simp; omega) _) (by simp; omega) _) (by simp; omega) _) (by simp; omega) _) (by simp) _) (by simp) _) (Nat.le_succ _),
          grown_fresh (grown_fresh (grown_trans (below_nat HBW.out N) (grown_trans (grown_setCell _ N 0 _) (grown_trans (grown_setCell _ N 1 _) (grown_trans (grown_setCell _ N 2 _) (grown_setCell _ N 3 _))))) _ _ _ (Nat.le_refl _)) _ _ _ (Nat.le_refl _)⟩
    · go_enter Tryz.func163, Tryz.ntmps163
      go_wp2_with fail
      refine (HD.out _ ((Below.refl _ w).alloc (Nat.le_refl _) _)).mono ?_
      rintro e w1 ⟨v1, rfl, ho1, hb1⟩
      have hb1' : Below w.heap.size w w1 := ((Below.refl _ w).alloc (Nat.le_refl _) _).trans (hb1.mono (by simp))
      have hr1 : w1.cell? ⟨w.heap.size, 0, none⟩ = some (.int .i64 0) ∧ w1.cell? ⟨w.heap.size, 1, none⟩ = some (.slice none 0 0) ∧ ∀ j, w1.frozen? ⟨w.heap.size, j, none⟩ = false := by
        have hb := hb1.block w.heap.size (by simp)
        exact ⟨(World.cell?_of_block hb).trans (by simp), (World.cell?_of_block hb).trans (by simp), fun j => (World.frozen?_of_block (a := ⟨w.heap.size, j, none⟩) hb).trans (by simp)⟩
      obtain ⟨r0, r1, rf⟩ := hr1
      have rf0 := rf 0
      have rf1 := rf 1
      have hz1 := hb1'.size
      have hz2 := hb1.size
      rw [World.size_alloc] at hz2
      obtain ⟨A1, c1, rfl, _⟩ := own_row0 ho1
      have hs1 := H.out.below hb1'
      have c0 := hs1.c0
      have hN := hs1.lt
      have hO1 := Lib.hid ho1
      have hB1 := Lib.hid hb1
      have HS1 := Lib.hid hs1
      clear ho1 hb1 hs1 rf
      go_wp2_with fail
      refine (HC.out _ _).mono ?_
      rintro e w2 ⟨v2, rfl, ho2, hb2⟩
      have hbz := hb2.size
      rw [World.size_alloc] at hbz
      have hbx : Below w1.heap.size w1 w2 := ((Below.refl _ w1).alloc (Nat.le_refl _) _).trans (hb2.mono (by simp))
      have hbw : Below w.heap.size w w2 := hb1'.trans (hbx.mono hz1)
      have hr2 := hbx.block w.heap.size (by omega)
      have rr0 : w2.cell? ⟨w.heap.size, 0, none⟩ = some (.int .i64 0) := (World.cell?_of_block hr2).trans r0
      have rr1 : w2.cell? ⟨w.heap.size, 1, none⟩ = some (.slice none 0 0) := (World.cell?_of_block hr2).trans r1
      have rf2 : w2.frozen? ⟨w.heap.size, 0, none⟩ = false := (World.frozen?_of_block (a := ⟨w.heap.size, 0, none⟩) hr2).trans rf0
      have rf3 : w2.frozen? ⟨w.heap.size, 1, none⟩ = false := (World.frozen?_of_block (a := ⟨w.heap.size, 1, none⟩) hr2).trans rf1
      have hf2 := hb2.block w1.heap.size (by simp)
      have fc0 : w2.cell? ⟨w1.heap.size, 0, none⟩ = some (.int .i64 kind) := (World.cell?_of_block hf2).trans (by simp)
      have fc1 : w2.cell? ⟨w1.heap.size, 1, none⟩ = some (.slice A1 d.length c1) := (World.cell?_of_block hf2).trans (by simp)
      have hs2 := HS1.out.below hbx
      clear c0 r0 r1 rf0 rf1 hr2 hf2
      have c0 := hs2.c0
      have c1' := hs2.c1
      have c2 := hs2.c2
      have c3 := hs2.c3
      have f0 := hs2.fr 0
      have f1 := hs2.fr 1
      have f2 := hs2.fr 2
      have f3 := hs2.fr 3
      have hNw := H.out.lt
      obtain ⟨A2, cc2, rfl, _⟩ := own_row0 ho2
      have ho1 := hO1.out
      have ho1' : w2.ownsRow (w.heap.size + 1) 5 1 (.slice A1 d.length c1) d.length (Lib.byteCells d) := ownsRow_below (own_mono ho1 (by simp)) hbx
      have ho2' : w2.ownsRow (w.heap.size + 1) 5 1 (.slice A2 (l.drop l.length).length cc2) (l.drop l.length).length (Lib.byteCells (l.drop l.length)) := own_mono ho2 (by simp; omega)
      have HS2 := Lib.hid hs2
      have HO1 := Lib.hid ho1'
      have HO2 := Lib.hid ho2'
      have HBW := Lib.hid hbw
      clear hs2 ho1 ho1' ho2' ho2 hb2 hbw
      go_wp2_with fail
      refine bodyPost_ret (v := .tuple #[.agg #[.int .i64 kind, .slice A1 d.length c1], .bool true]) ?_ rfl ?_
      · clear hac hnl hcp hcm hl
        simp [results, Tryz.f163, go_sem, *]
      · exact ⟨_, _, rfl,
          own_mono (ownsRow_setCell_below (ownsRow_setCell_below (ownsRow_setCell_below (ownsRow_setCell_below (ownsRow_setCell_below (ownsRow_setCell_below HO1.out (by simp; omega) _) (by simp; omega) _) (by simp; omega) _) (by simp; omega) _) (by simp) _) (by simp) _) (Nat.le_succ _),
          ((((((HS2.out.set0 _ rfl).set1 0).set2 0).set3 0).grown (grown_setCell _ w.heap.size 0 _) (by simp; omega)).grown (grown_setCell _ w.heap.size 1 _) (by simp; omega)),
          by have h2 := HO2.out; simp only [hz] at h2 ⊢; exact own_mono (ownsRow_setCell_below (ownsRow_setCell_below (ownsRow_setCell_below (ownsRow_setCell_below (ownsRow_setCell_below (ownsRow_setCell_below h2 (by simp; omega) _) (by simp; omega) _) (by simp; omega) _) (by simp; omega) _) (by simp) _) (by simp) _) (Nat.le_succ _),
          grown_fresh (grown_fresh (grown_trans (below_nat HBW.out N) (grown_trans (grown_setCell _ N 0 _) (grown_trans (grown_setCell _ N 1 _) (grown_trans (grown_setCell _ N 2 _) (grown_setCell _ N 3 _))))) _ _ _ (Nat.le_refl _)) _ _ _ (Nat.le_refl _)⟩
end Go.Proofs.YtkdnfjafabgioaaGreatDoor.Own
