import Derived.Test.YtkdnfjafabgioaaGreatDoorA20
set_option linter.unusedVariables false
set_option linter.unusedSimpArgs false
namespace Go.Proofs.YtkdnfjafabgioaaGreatDoor.Own
open Go.RowKit Go.Shelf

/-- A splitter: the bytes that wait, the line's place, the bytes to skip. -/
def Sp (w : World) (B N : Nat) (l : List UInt8) (a k : Nat) : Prop := ∃ A cp, (∃ s : Int, Spl w N (.slice A l.length cp) a k s) ∧ w.ownsRow B 5 1 (.slice A l.length cp) l.length (Lib.byteCells l) ∧ Byt w A l ∧ Row0 A cp ∧ l.length ≤ cp ∧ cp ≤ maxLen ∧ (∀ x, A = some x → B ≤ x.block ∧ x.block ≠ N ∧ x.block < w.heap.size) ∧ a ≤ l.length ∧ k ≤ 4294967296 ∧ l.length ≤ 1000000000

/-- The next frame of a stream: kind, bytes; then what waits. -/
def nextS (l : List UInt8) (a k : Nat) : Option ((Nat × List UInt8) × (List UInt8 × Nat × Nat)) :=
  if a + k ≤ l.length then
    if endAt l (a + k) < 0 then none
    else
      if 8192 < (endAt l (a + k)).toNat then some ((3, (l.drop (a + k)).take 8192), (l.drop (a + k + (endAt l (a + k)).toNat + 2), 0, 0))
      else match announcedOf ((l.drop (a + k)).take (endAt l (a + k)).toNat) with
        | none => some ((1, l.take (a + k + (endAt l (a + k)).toNat)), (l.drop (a + k + (endAt l (a + k)).toNat + 2), 0, 0))
        | some n =>
          if 65536 < n then some ((4, l.take (a + k + (endAt l (a + k)).toNat)), (l.drop (a + k + (endAt l (a + k)).toNat + 2), 0, 0))
          else some ((2, []), (l, a + k + (endAt l (a + k)).toNat + 2, n))
  else none
/-- What Next leaves. -/
def NextP (w : World) (B N : Nat) (l : List UInt8) (r : Option ((Nat × List UInt8) × (List UInt8 × Nat × Nat))) (e : Ending) (w' : World) : Prop := w.grownBy w' (some N) ∧ (match r with
  | none => e = .returned (.tuple #[.agg #[.int .i64 0, .slice none 0 0], .bool false]) ∧ ∃ a k, Sp w' B N l a k
  | some ((kind, d), (l', a', k')) => ∃ v, e = .returned (.tuple #[.agg #[.int .i64 (kind : Int), v], .bool true]) ∧ w'.ownsRow w.heap.size 5 1 v d.length (Lib.byteCells d) ∧ Sp w' B N l' a' k')
theorem NextP.no {w : World} {B N : Nat} {l : List UInt8} {r : Option ((Nat × List UInt8) × (List UInt8 × Nat × Nat))} {w' : World} (hr : r = none) (hg : w.grownBy w' (some N)) {a k : Nat} (h : Sp w' B N l a k) : NextP w B N l r (.returned (.tuple #[.agg #[.int .i64 0, .slice none 0 0], .bool false])) w' := by
  subst hr; exact ⟨hg, rfl, a, k, h⟩
theorem NextP.yes {w : World} {B N : Nat} {l : List UInt8} {r : Option ((Nat × List UInt8) × (List UInt8 × Nat × Nat))} {w' : World} {kind : Nat} {d l' : List UInt8} {a' k' : Nat} (hr : r = some ((kind, d), (l', a', k'))) (hg : w.grownBy w' (some N)) {kv : Int} (hk : kv = kind) {v : Value} (hv : w'.ownsRow w.heap.size 5 1 v d.length (Lib.byteCells d)) (h : Sp w' B N l' a' k') : NextP w B N l r (.returned (.tuple #[.agg #[.int .i64 kv, v], .bool true])) w' := by
  subst hr; subst hk; exact ⟨hg, v, rfl, hv, h⟩
theorem Sp.of {w w' : World} {B N : Nat} {l : List UInt8} {A : Option Addr} {cp : Nat} (ho : w.ownsRow B 5 1 (.slice A l.length cp) l.length (Lib.byteCells l)) (hA : Byt w A l) (hr : Row0 A cp) (hcp : l.length ≤ cp) (hcm : cp ≤ maxLen) (hx : ∀ x, A = some x → B ≤ x.block ∧ x.block ≠ N ∧ x.block < w.heap.size) (hl : l.length ≤ 1000000000) (hg : w.grownBy w' (some N)) {a k : Nat} {s : Int} (h : Spl w' N (.slice A l.length cp) a k s) (ha : a ≤ l.length) (hk : k ≤ 4294967296) : Sp w' B N l a k :=
  ⟨A, cp, ⟨s, h⟩, ho.kept hg (by cases A with | none => exact .inl rfl | some x => exact .inr (by intro e; exact (hx x rfl).2.1 (by simpa [Value.ownBlock] using e))), hA.grown hg (fun x e => (hx x e).2.1), hr, hcp, hcm, fun x e => ⟨(hx x e).1, (hx x e).2.1, Nat.lt_of_lt_of_le (hx x e).2.2 hg.size⟩, ha, hk, hl⟩

theorem res_at {w w' : World} {x y : Value} {t : TypeId} {row : Option Nat} (hg : (w.alloc (.cells #[x, y] t)).grownBy w' row) (hne : some w.heap.size ≠ row) : w'.cell? ⟨w.heap.size, 0, none⟩ = some x ∧ w'.cell? ⟨w.heap.size, 1, none⟩ = some y ∧ w'.frozen? ⟨w.heap.size, 0, none⟩ = false ∧ w'.frozen? ⟨w.heap.size, 1, none⟩ = false := by
  have hb := hg.block w.heap.size (by simp) hne
  exact ⟨(World.cell?_of_block hb).trans (by simp), (World.cell?_of_block hb).trans (by simp), (World.frozen?_of_block (a := ⟨w.heap.size, 0, none⟩) hb).trans (by simp), (World.frozen?_of_block (a := ⟨w.heap.size, 1, none⟩) hb).trans (by simp)⟩
/-- The world with a result of two cells written. -/
def resW (w' : World) (R : Nat) (x y : Value) : World := (w'.setCell ⟨R, 0, none⟩ x).setCell ⟨R, 1, none⟩ y
theorem resW_grown {w w' : World} {row : Option Nat} (h : w.grownBy w' row) (x y : Value) : w.grownBy (resW w' w.heap.size x y) row := grown_fresh (grown_fresh h _ _ _ (Nat.le_refl _)) _ _ _ (Nat.le_refl _)
theorem Spl.res {w : World} {N R : Nat} {v : Value} {a k s : Int} (h : Spl w N v a k s) (hne : N ≠ R) (x y : Value) : Spl (resW w R x y) N v a k s := (h.grown (grown_setCell _ R 0 _) (by simpa using hne)).grown (grown_setCell _ R 1 _) (by simpa using hne)
theorem own_res {w : World} {base n : Nat} {e : TypeId} {size : Nat} {v : Value} {xs : List Value} (h : w.ownsRow base e size v n xs) {R : Nat} (hR : R < base) (x y : Value) : (resW w R x y).ownsRow base e size v n xs := ownsRow_setCell_below (ownsRow_setCell_below h hR _) hR _
theorem Sp.fin {w4 : World} {B N R : Nat} {r : List UInt8} {v : Value} (hs : Spl w4 N v 0 0 0) (ho : w4.ownsRow B 5 1 v r.length (Lib.byteCells r)) (hr : r.length ≤ 1000000000) (hNB : N < B) (hRB : R < B) (hNR : N ≠ R) (x y : Value) {B' : Nat} (hB : B' ≤ B) : Sp (resW w4 R x y) B' N r 0 0 := by
  obtain ⟨A, cp, rfl, h1, h2, h3, h4, h5⟩ := own_row0 (own_res ho hRB x y)
  exact ⟨A, cp, ⟨0, hs.res hNR x y⟩, own_mono (own_res ho hRB x y) hB, h4.byt (by simp [maxLen]; omega), h1, h2, h3, fun a ha => ⟨Nat.le_trans hB (h5 a ha).1, by have := (h5 a ha).1; omega, (h5 a ha).2⟩, by omega, by omega, hr⟩

set_option maxRecDepth 100000 in
set_option maxHeartbeats 1600000 in
theorem next_no (B N : Nat) (l : List UInt8) (a k : Nat) (w w0 : World) (h : Sp w B N l a k) (hak : ¬ a + k ≤ l.length) :
    Calls Tryz.prog 116 #[.pointer (some ⟨N, 0, none⟩)] w (NextP w B N l (nextS l a k)) := by
  have hmf : ∀ (fn : Fn) (first cap : Array Value) (w : World), (Instr.makeFunc fn first cap).run Tryz.prog w = .ok (.func fn first cap) w := fun _ _ _ _ => rfl
  obtain ⟨A, cp, ⟨s, hs⟩, ho, hA, hr, hcp, hcm, hx, ha, hk, hl⟩ := h
  have hNl := hs.lt
  have hb0 : Below w.heap.size w (w.alloc (.cells #[.int .i64 0, .slice none 0 0] 63)) := (Below.refl _ _).alloc (Nat.le_refl _) _
  obtain ⟨r, hr0⟩ : ∃ r, r = nextS l a k := ⟨_, rfl⟩
  rw [← hr0]
  have hsk := skip_no N A l.length cp a k s _ (hs.below hb0) hl ha hk (by omega)
  have hfin : r = none := by rw [hr0]; unfold nextS; rw [if_neg hak]
  have HSK := Lib.hid hsk
  have HF := Lib.hid hfin
  have HS := Lib.hid hs
  have HO := Lib.hid ho
  have HP := Lib.hid (And.intro hA (And.intro hr hx))
  have HB0 := Lib.hid hb0
  clear hsk hfin hs ho hA hr hx hr0 hb0
  go_enter Tryz.func116, Tryz.ntmps116
  go_wp2_with fail
  refine HSK.out.mono ?_
  rintro e w1 ⟨rfl, q, rfl⟩
  go_wp2_with fail
  refine bodyPost_ret (v := .tuple #[.agg #[.int .i64 0, .slice none 0 0], .bool false]) ?_ rfl ?_
  · simp [results, Tryz.f116, go_sem, *]
  · have hg : w.grownBy _ (some N) := resW_grown (grown_trans (below_nat HB0.out N) (grown_drewN _ q _)) (.int .i64 0) (.slice none 0 0)
    exact NextP.no HF.out hg (Sp.of HO.out HP.out.1 HP.out.2.1 hcp hcm HP.out.2.2 hl hg (((HS.out.below HB0.out).drewN q).res (by omega) _ _) ha hk)

set_option maxRecDepth 100000 in
set_option maxHeartbeats 1600000 in
theorem next_line (B N cp : Nat) (s : Int) (l : List UInt8) (a k : Nat) (w w0 : World) (A : Option Addr) (hs : Spl w N (.slice A l.length cp) a k s) (ho : w.ownsRow B 5 1 (.slice A l.length cp) l.length (Lib.byteCells l)) (hA : Byt w A l) (hr : Row0 A cp) (hcp : l.length ≤ cp) (hcm : cp ≤ maxLen) (hx : ∀ x, A = some x → B ≤ x.block ∧ x.block ≠ N ∧ x.block < w.heap.size) (hl : l.length ≤ 1000000000) (hE : Env w0) (h0 : Below w0.heap.size w0 w) (hN0 : w0.heap.size ≤ N) (hBw : B ≤ w.heap.size) (hak : a + k ≤ l.length) (r : Option ((Nat × List UInt8) × (List UInt8 × Nat × Nat))) (hi : endAt l (a + k) < 0) (hfin : r = none) :
    Calls Tryz.prog 116 #[.pointer (some ⟨N, 0, none⟩)] w (NextP w B N l r) := by
  have hmf : ∀ (fn : Fn) (first cap : Array Value) (w : World), (Instr.makeFunc fn first cap).run Tryz.prog w = .ok (.func fn first cap) w := fun _ _ _ _ => rfl
  have hNl := hs.lt
  have hb0 : Below w.heap.size w (w.alloc (.cells #[.int .i64 0, .slice none 0 0] 63)) := (Below.refl _ _).alloc (Nat.le_refl _) _
  have hsk := skip_yes N A l.length cp a k s _ (hs.below hb0) hl hak
  have hln := fun w1 h1 h2 h3 => line_any N A cp (a + k) l w1 h1 h2 hr hl hak hcp hcm h3
  rw [if_pos hi, decide_eq_false (show ¬ 0 ≤ endAt l (a + k) by omega)] at hln
  have HSK := Lib.hid hsk
  have HLN := Lib.hid hln
  have HF := Lib.hid hfin
  have HS := Lib.hid hs
  have HO := Lib.hid ho
  have HP := Lib.hid (And.intro hA (And.intro hr (And.intro hx (And.intro hE h0))))
  have HB0 := Lib.hid hb0
  clear hsk hfin hs ho hA hr hx hb0 hln hi hE h0
  go_enter Tryz.func116, Tryz.ntmps116
  go_wp2_with fail
  refine HSK.out.mono ?_
  rintro e w1 ⟨rfl, hs1, hg1⟩
  have hgw1 := grown_trans (below_nat HB0.out N) hg1
  have hA1 := HP.out.1.grown hgw1 (fun x e => (HP.out.2.2.1 x e).2.1)
  have hE1 := HP.out.2.2.2.1.below (HP.out.2.2.2.2.grown hgw1 HP.out.2.2.2.2.size (by intro kk e; cases e; exact hN0))
  have hc1 := HLN.out w1 hs1 hA1 hE1
  have HC1 := Lib.hid hc1
  have HG1 := Lib.hid hg1
  clear hc1 hs1 hA1 hE1 hg1 hgw1
  go_wp2_with fail
  refine HC1.out.mono ?_
  rintro e w2 ⟨rfl, ⟨s2, hs2⟩, hg2⟩
  have hg02 := grown_trans HG1.out hg2
  obtain ⟨r0, r1, rf0, rf1⟩ := res_at hg02 (by simp; omega)
  have HG2 := Lib.hid hg02
  have HS2 := Lib.hid hs2
  clear hg02 hg2 hs2
  go_wp2_with fail
  refine bodyPost_ret (v := .tuple #[.agg #[.int .i64 0, .slice none 0 0], .bool false]) ?_ rfl ?_
  · simp [results, Tryz.f116, go_sem, *]
  · have hg : w.grownBy _ (some N) := resW_grown (grown_trans (below_nat HB0.out N) HG2.out) (.int .i64 0) (.slice none 0 0)
    exact NextP.no HF.out hg (Sp.of (a := a + k) (k := 0) (s := s2) HO.out HP.out.1 HP.out.2.1 hcp hcm HP.out.2.2.1 hl hg (HS2.out.res (show N ≠ w.heap.size by omega) _ _) hak (by omega))
end Go.Proofs.YtkdnfjafabgioaaGreatDoor.Own
