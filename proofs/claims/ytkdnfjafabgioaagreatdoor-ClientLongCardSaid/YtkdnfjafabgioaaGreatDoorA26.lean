import Derived.Test.YtkdnfjafabgioaaGreatDoorA25
set_option linter.unusedVariables false
set_option linter.unusedSimpArgs false
namespace Go.Proofs.YtkdnfjafabgioaaGreatDoor.Own
open Go.RowKit Go.Shelf
attribute [local go_sem] Oper.semAt_some

/-- The frames' cells: a kind, then the bytes. -/
def FrRow (w : World) (B : Nat) : List (Nat × List UInt8) → List Value → Prop
  | [], xs => xs = []
  | (k, d) :: fs, xs => ∃ v r, xs = .int .i64 (k : Int) :: v :: r ∧ w.ownsRow B 5 1 v d.length (Lib.byteCells d) ∧ FrRow w B fs r
theorem FrRow.snoc {w : World} {B : Nat} {k : Nat} {d : List UInt8} {v : Value} (hv : w.ownsRow B 5 1 v d.length (Lib.byteCells d)) : ∀ {fs : List (Nat × List UInt8)} {xs : List Value}, FrRow w B fs xs → FrRow w B (fs ++ [(k, d)]) (xs ++ [.int .i64 (k : Int), v])
  | [], xs, h => by
    have : xs = [] := h
    subst this
    exact ⟨v, [], rfl, hv, rfl⟩
  | (k', d') :: fs, xs, ⟨v', r, e, h1, h2⟩ => by
    subst e
    exact ⟨v', _, rfl, h1, FrRow.snoc hv h2⟩

/-- What a round keeps: whatever lay below l, but for O; and every row of bytes. -/
structure Keep (O l : Nat) (W W' : World) : Prop where
  os : W'.os = W.os
  tape : W'.tape = W.tape
  output : W'.output = W.output
  size : W.heap.size ≤ W'.heap.size
  same : ∀ j o, W.heap[j]? = some o → ((j < l ∧ j ≠ O) ∨ ∃ cur fz, o = .cells cur 5 fz) → W'.heap[j]? = some o
theorem Keep.trans {O l : Nat} {A B C : World} (h : Keep O l A B) (k : Keep O l B C) : Keep O l A C :=
  ⟨k.os.trans h.os, k.tape.trans h.tape, k.output.trans h.output, Nat.le_trans h.size k.size, fun j o ho hc => k.same j o (h.same j o ho hc) hc⟩
theorem Keep.of_grown {O l : Nat} {W W' : World} {row : Option Nat} (hg : W.grownBy W' row) (hr : ∀ r, row = some r → (r = O ∨ l ≤ r) ∧ ∀ cur fz, W.heap[r]? ≠ some (.cells cur 5 fz)) : Keep O l W W' :=
  ⟨hg.os, hg.tape, hg.output, hg.size, fun j o ho hc => by
    have hj := (Array.getElem?_eq_some_iff.1 ho).1
    rw [hg.block j hj (fun e => ?_)]
    · exact ho
    · obtain ⟨h1, h2⟩ := hr j e.symm
      rcases hc with ⟨hc1, hc2⟩ | ⟨cur, fz, rfl⟩
      · rcases h1 with h1 | h1
        · exact hc2 h1
        · omega
      · exact h2 cur fz ho⟩
theorem Keep.own {O l : Nat} {W W' : World} (h : Keep O l W W') {base n : Nat} {v : Value} {xs : List Value} (ho : W.ownsRow base 5 1 v n xs) : W'.ownsRow base 5 1 v n xs :=
  ⟨ho.1, ho.2.imp id fun ⟨g, cap, cur, hv, h1, h2, h3⟩ => ⟨g, cap, cur, hv, h1, h.same g _ h2 (.inr ⟨_, _, rfl⟩), h3⟩⟩
theorem Keep.frRow {O l : Nat} {W W' : World} (h : Keep O l W W') {B : Nat} : ∀ {fs : List (Nat × List UInt8)} {xs : List Value}, FrRow W B fs xs → FrRow W' B fs xs
  | [], _, e => e
  | _ :: _, _, ⟨v, r, e, h1, h2⟩ => ⟨v, r, e, h.own h1, h.frRow h2⟩
theorem Keep.block {O l : Nat} {W W' : World} (h : Keep O l W W') {j : Nat} (hj : j < W.heap.size) (h1 : j < l) (h2 : j ≠ O) : W'.heap[j]? = W.heap[j]? := by
  have : W.heap[j]? = some W.heap[j] := Array.getElem?_eq_getElem hj
  rw [this]
  exact h.same j _ this (.inl ⟨h1, h2⟩)
theorem Keep.cell {O l : Nat} {W W' : World} (h : Keep O l W W') {X j : Nat} {v : Value} (hc : W.cell? ⟨X, j, none⟩ = some v) (h1 : X < l) (h2 : X ≠ O) : W'.cell? ⟨X, j, none⟩ = some v :=
  (World.cell?_of_block (h.block (World.block_lt_of_cell? W _ hc) h1 h2)).trans hc
theorem Keep.below {O l : Nat} {w0 W W' : World} (h : Keep O l W W') (hb : Below w0.heap.size w0 W) (h1 : w0.heap.size ≤ O) (h2 : w0.heap.size ≤ l) : Below w0.heap.size w0 W' :=
  ⟨h.os.trans hb.os, h.tape.trans hb.tape, h.output.trans hb.output, Nat.le_trans hb.size h.size, fun j hj => (h.block (Nat.lt_of_lt_of_le hj hb.size) (by omega) (by omega)).trans (hb.block j hj)⟩
theorem Keep.sp {O l : Nat} {W W' : World} (h : Keep O l W W') {B N : Nat} {lw : List UInt8} {a k : Nat} (hs : Sp W B N lw a k) (h1 : N < l) (h2 : N ≠ O) : Sp W' B N lw a k := by
  obtain ⟨A, cp, ⟨s, hs⟩, ho, hA, hr0, hcp, hcm, hx, ha, hk, hl⟩ := hs
  have ho' := h.own ho
  obtain ⟨A', cp', e, g1, g2, g3, g4, g5⟩ := own_row0 ho'
  cases e
  have hb := h.block hs.lt h1 h2
  exact ⟨A, cp, ⟨s, (World.cell?_of_block hb).trans hs.c0, (World.cell?_of_block hb).trans hs.c1, (World.cell?_of_block hb).trans hs.c2, (World.cell?_of_block hb).trans hs.c3, fun j => (World.frozen?_of_block (a := ⟨N, j, none⟩) hb).trans (hs.fr j)⟩, ho', g4.byt (by unfold maxLen; omega), g1, g2, g3, fun x e => ⟨(g5 x e).1, (hx x e).2.1, (g5 x e).2⟩, ha, hk, hl⟩

set_option maxRecDepth 100000 in
set_option maxHeartbeats 800000 in
theorem left_any (B N : Nat) (l : List UInt8) (a k : Nat) (w : World) (h : Sp w B N l a k) :
    Calls Tryz.prog 68 #[.pointer (some ⟨N, 0, none⟩)] w fun e w' => e = .returned (.int .i64 (l.length : Int)) ∧ w' = w := by
  obtain ⟨A, cp, ⟨s, hs⟩, _⟩ := h
  have c0 := hs.c0
  clear hs
  go_enter Tryz.func68, Tryz.ntmps68
  go_wp2
  go_ret
  exact ⟨rfl, rfl⟩
set_option maxRecDepth 100000 in
set_option maxHeartbeats 800000 in
theorem all_at (N : Nat) (w : World) :
    Calls Tryz.prog 67 #[.pointer (some ⟨N, 0, none⟩)] w fun e w' => e = .returned (.func (.func 115) #[] #[.pointer (some ⟨w.heap.size, 0, none⟩)]) ∧ w' = w.alloc (.cells #[.pointer (some ⟨N, 0, none⟩)] 110) := by
  have hmf : ∀ (fn : Fn) (first cap : Array Value) (w : World), (Instr.makeFunc fn first cap).run Tryz.prog w = .ok (.func fn first cap) w := fun _ _ _ _ => rfl
  go_enter Tryz.func67, Tryz.ntmps67
  go_wp2
  go_ret
  exact ⟨rfl, rfl⟩
end Go.Proofs.YtkdnfjafabgioaaGreatDoor.Own
