import Derived.Test.YtkdnfjafabgioaaGreatDoorA24
set_option linter.unusedVariables false
set_option linter.unusedSimpArgs false
namespace Go.Proofs.YtkdnfjafabgioaaGreatDoor.Own
open Go.RowKit Go.Shelf
attribute [local go_sem] Oper.semAt_some

theorem nextS_lt {l : List UInt8} {a k : Nat} {f : Nat × List UInt8} {l' : List UInt8} {a' k' : Nat} (h : nextS l a k = some (f, (l', a', k'))) : l'.length - a' < l.length - a := by
  unfold nextS at h
  split at h
  · rename_i hak
    split at h
    · cases h
    · rename_i hi
      obtain ⟨j, hj⟩ := Int.eq_ofNat_of_zero_le (show 0 ≤ endAt l (a + k) by omega)
      have hroom := endAt_room l (a + k) j hak hj
      rw [hj, Int.toNat_natCast] at h
      split at h
      · simp only [Option.some.injEq, Prod.mk.injEq] at h
        obtain ⟨_, rfl, rfl, rfl⟩ := h
        simp; omega
      · split at h
        · simp only [Option.some.injEq, Prod.mk.injEq] at h
          obtain ⟨_, rfl, rfl, rfl⟩ := h
          simp; omega
        · split at h
          · simp only [Option.some.injEq, Prod.mk.injEq] at h
            obtain ⟨_, rfl, rfl, rfl⟩ := h
            simp; omega
          · simp only [Option.some.injEq, Prod.mk.injEq] at h
            obtain ⟨_, rfl, rfl, rfl⟩ := h
            omega
  · cases h

/-- The frames of a stream, and how many bytes are left. -/
def framesS (l : List UInt8) (a k : Nat) : List (Nat × List UInt8) × Nat :=
  match h : nextS l a k with
  | none => ([], l.length)
  | some (f, (l', a', k')) => (f :: (framesS l' a' k').1, (framesS l' a' k').2)
termination_by l.length - a
decreasing_by all_goals exact nextS_lt h

theorem framesS_none {l : List UInt8} {a k : Nat} (h : nextS l a k = none) : framesS l a k = ([], l.length) := by
  rw [framesS]
  split
  · rfl
  · rename_i e; rw [h] at e; cases e
theorem framesS_some {l : List UInt8} {a k : Nat} {f : Nat × List UInt8} {l' : List UInt8} {a' k' : Nat} (h : nextS l a k = some (f, (l', a', k'))) : framesS l a k = (f :: (framesS l' a' k').1, (framesS l' a' k').2) := by
  rw [framesS]
  split
  · rename_i e; rw [h] at e; cases e
  · rename_i e; rw [h] at e; cases e; rfl

theorem Sp.grown {w w' : World} {B N : Nat} {l : List UInt8} {a k : Nat} {row : Option Nat} (h : Sp w B N l a k) (hg : w.grownBy w' row) (hN : some N ≠ row) (hr : ∀ r, row = some r → ∀ cur fz, w.heap[r]? ≠ some (.cells cur 5 fz) := by intro r e; cases e) : Sp w' B N l a k := by
  obtain ⟨A, cp, ⟨s, hs⟩, ho, hA, hr0, hcp, hcm, hx, ha, hk, hl⟩ := h
  have ho' : w'.ownsRow B 5 1 (.slice A l.length cp) l.length (Lib.byteCells l) := by
    refine ho.kept hg ?_
    cases A with
    | none => exact .inl rfl
    | some x =>
      refine .inr (fun e => ?_)
      rcases ho.2 with ⟨e1, _⟩ | ⟨g, cap, cur, e1, _, hh, _⟩
      · cases e1
      · cases e1
        exact hr g e.symm _ _ hh
  obtain ⟨A', cp', e, h1, h2, h3, h4, h5⟩ := own_row0 ho'
  cases e
  exact ⟨A, cp, ⟨s, hs.grown hg hN⟩, ho', h4.byt (by unfold maxLen; omega), h1, h2, h3, fun x e => ⟨(h5 x e).1, (hx x e).2.1, (h5 x e).2⟩, ha, hk, hl⟩

theorem framesS_len : ∀ (m : Nat) (l : List UInt8) (a k : Nat), l.length - a ≤ m → (framesS l a k).1.length ≤ m
  | 0, l, a, k, h => by
    cases hx : nextS l a k with
    | none => rw [framesS_none hx]; simp
    | some p => obtain ⟨f, l', a', k'⟩ := p; have := nextS_lt hx; omega
  | m + 1, l, a, k, h => by
    cases hx : nextS l a k with
    | none => rw [framesS_none hx]; simp
    | some p =>
      obtain ⟨f, l', a', k'⟩ := p
      have := nextS_lt hx
      have h2 := framesS_len m l' a' k' (by omega)
      rw [framesS_some hx]
      simp
      exact h2

/-- How far the splitter is from its end. -/
def spLeft (N : Nat) (W : World) : Nat := (match W.cell? ⟨N, 0, none⟩ with | some (.slice _ n _) => n | _ => 0) - (intOf ((W.cell? ⟨N, 1, none⟩).getD undef)).toNat
theorem Sp.left {w : World} {B N : Nat} {l : List UInt8} {a k : Nat} (h : Sp w B N l a k) : spLeft N w = l.length - a := by
  obtain ⟨A, cp, ⟨s, hs⟩, _⟩ := h
  unfold spLeft
  rw [hs.c0, hs.c1]
  rfl

set_option maxRecDepth 100000 in
set_option maxHeartbeats 3200000 in
theorem all1_in (n : Nat) (hn : 2 ≤ n) (l X N B : Nat) (w0 : World) (hE : Env w0) (hN0 : w0.heap.size ≤ N) (hXN : X ≠ N) (Inv : List (Nat × List UInt8) → World → Prop) (l0 : List UInt8)
    (hI : ∀ fs W W', Inv fs W → W.grownBy W' (some N) → Inv fs W')
    (hY : ∀ fs (kind : Nat) d v W lw a k, Inv fs W → W.ownsRow B 5 1 v d.length (Lib.byteCells d) → Sp W B N lw a k → W.cell? ⟨X, 0, none⟩ = some (.pointer (some ⟨N, 0, none⟩)) → Below w0.heap.size w0 W → fs.length < (framesS l0 0 0).1.length →
      YieldAt Fence.wide (n - 1) Tryz.prog l #[.agg #[.int .i64 (kind : Int), v]] W fun e W' => e = .returned (.bool true) ∧ Inv (fs ++ [(kind, d)]) W' ∧ Sp W' B N lw a k ∧ W'.cell? ⟨X, 0, none⟩ = some (.pointer (some ⟨N, 0, none⟩)) ∧ Below w0.heap.size w0 W' ∧ W.heap.size ≤ W'.heap.size)
    (W : World) (h0 : Inv [] W) (hs : Sp W B N l0 0 0) (hX : W.cell? ⟨X, 0, none⟩ = some (.pointer (some ⟨N, 0, none⟩))) (hb0 : Below w0.heap.size w0 W) (hB : B ≤ W.heap.size) :
    CallsIn Fence.wide n Tryz.prog 115 #[.func (.yield l) #[] #[], .pointer (some ⟨X, 0, none⟩)] W fun e W' => (∃ v, e = .returned v) ∧ Inv (framesS l0 0 0).1 W' ∧ (∃ lw a k, Sp W' B N lw a k ∧ lw.length = (framesS l0 0 0).2) ∧ Below w0.heap.size w0 W' := by
  obtain ⟨R, hR⟩ : ∃ R, R = framesS l0 0 0 := ⟨_, rfl⟩
  rw [← hR]
  have HR := Lib.hid hR
  have HE := Lib.hid hE
  have HI := Lib.hid hI
  have HY := Lib.hid hY
  have H0 := Lib.hid (And.intro h0 (And.intro hs (And.intro hX hb0)))
  clear hR hE hI hY h0 hs hX hb0
  refine callsIn_of_wp Tryz.func115 rfl trivial ?_ rfl
  simp only [Tryz.ntmps115, List.size_toArray, List.length_cons, List.length_nil, Nat.reduceAdd, Nat.reduceSub, Array.replicate_succ, Array.replicate_zero, List.push_toArray, List.append_toArray, List.nil_append, List.cons_append]
  gi_wp2_with fail
  gi_loopw [4] (fun _ wr => ∃ fs lw a k, R = (fs ++ (framesS lw a k).1, (framesS lw a k).2) ∧ Inv fs wr ∧ Sp wr B N lw a k ∧ wr.cell? ⟨X, 0, none⟩ = some (.pointer (some ⟨N, 0, none⟩)) ∧ Below w0.heap.size w0 wr ∧ B ≤ wr.heap.size)
    (fun _ wr => spLeft N wr)
  case atStart => exact ⟨[], l0, 0, 0, by rw [HR.out]; rfl, H0.out.1, H0.out.2.1, H0.out.2.2.1, H0.out.2.2.2, hB⟩
  case round =>
    obtain ⟨fs, lw, a, k, hr, hi, hs, hX, hb0, hBr⟩ := hrel
    have hnx := next_any B N lw a k wr w0 hs HE.out hb0 hN0 hBr
    have hNl : N < wr.heap.size := by obtain ⟨A, cp, ⟨s, hs⟩, _⟩ := hs; exact hs.lt
    have HS := Lib.hid (And.intro hr (And.intro hi (And.intro hs hb0)))
    have hXl : X < wr.heap.size := World.block_lt_of_cell? wr _ hX
    cases hx : nextS lw a k with
    | none =>
      rw [hx] at hnx
      rw [framesS_none hx, List.append_nil] at hr
      have HN := Lib.hid hnx
      have HR2 := Lib.hid hr
      clear hnx hr hi hs hb0 hx
      gi_wp2_with fail
      refine ⟨trivial, fun _ => by omega, (callsIn_wide.2 HN.out).mono ?_⟩
      rintro e w2 ⟨hg, rfl, a2, k2, hs2⟩
      have HG := Lib.hid (And.intro hg hs2)
      clear hg hs2
      gi_wp2_with fail
      all_goals refine ⟨fun _ _ => trivial, ?_⟩
      all_goals gi_wp2_with fail
      all_goals
        have hg3 : wr.grownBy (w2.alloc (.cells #[.int .i64 0, .slice none 0 0] 63)) (some N) := grown_trans HG.out.1 (World.grownBy_alloc _ _ _)
        have hs3 : Sp (w2.alloc (.cells #[.int .i64 0, .slice none 0 0] 63)) B N lw a2 k2 := HG.out.2.grown (World.grownBy_alloc _ _ none) (by simp)
        refine bodyPost_ret (results_none rfl _ _ _) rfl ⟨⟨_, rfl⟩, ?_, ⟨lw, a2, k2, hs3, ?_⟩, HS.out.2.2.2.grown hg3 HS.out.2.2.2.size (by intro kk e; cases e; exact hN0)⟩
        · rw [HR2.out]; exact HI.out _ _ _ HS.out.2.1 hg3
        · rw [HR2.out]
    | some p =>
      obtain ⟨⟨kind, d⟩, l', a', k'⟩ := p
      rw [hx] at hnx
      have hlt := nextS_lt hx
      rw [framesS_some hx] at hr
      have HN := Lib.hid hnx
      have HR2 := Lib.hid hr
      clear hnx hr hi hs hb0 hx
      gi_wp2_with fail
      refine ⟨trivial, fun _ => by omega, (callsIn_wide.2 HN.out).mono ?_⟩
      rintro e w2 ⟨hg, v, rfl, ho, hs2⟩
      obtain ⟨A1, c1, rfl, _⟩ := own_row0 ho
      have hg3 : wr.grownBy (w2.alloc (.cells #[.int .i64 (kind : Int), .slice A1 d.length c1] 63)) (some N) := grown_trans hg (World.grownBy_alloc _ _ _)
      have ho3 := own_mono (ho.alloc (.cells #[.int .i64 (kind : Int), .slice A1 d.length c1] 63)) hBr
      have hs3 : Sp (w2.alloc (.cells #[.int .i64 (kind : Int), .slice A1 d.length c1] 63)) B N l' a' k' := hs2.grown (World.grownBy_alloc _ _ none) (by simp)
      have hX3 := (World.cell?_of_block (hg3.block X hXl (by simpa using hXN))).trans hX
      have hb3 := HS.out.2.2.2.grown hg3 HS.out.2.2.2.size (by intro kk e; cases e; exact hN0)
      obtain ⟨fn, tmps, assign, body, hy, hR⟩ := HY.out fs kind d _ _ l' a' k' (HI.out _ _ _ HS.out.2.1 hg3) ho3 hs3 hX3 hb3 (by rw [← HR.out, HR2.out]; simp)
      have HYR := Lib.hid hR
      have hz2 := hg.size
      clear hg3 ho3 hs3 hX3 hb3 hg ho hs2 hR
      gi_wp2_with fail
      refine ⟨fun _ => by omega, HYR.out.mono ?_⟩
      rintro e W3 ⟨rfl, hi3, hs3, hX3, hb3, hz3⟩
      have HF3 := Lib.hid (And.intro hi3 (And.intro hs3 (And.intro hX3 (And.intro hb3 hz3))))
      have hz4 : w2.heap.size + 1 ≤ W3.heap.size := by simpa using hz3
      clear hi3 hs3 hX3 hb3 hz3
      gi_wp2_with fail
      go_roundw
      case rel => exact ⟨fs ++ [(kind, d)], l', a', k', by rw [HR2.out]; simp, HF3.out.1, HF3.out.2.1, HF3.out.2.2.1, HF3.out.2.2.2.1, by omega⟩
      case measure => rw [HF3.out.2.1.left, HS.out.2.2.1.left]; exact hlt
end Go.Proofs.YtkdnfjafabgioaaGreatDoor.Own
