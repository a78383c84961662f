import Derived.Test.YtkdnfjafabgioaaGreatDoorA22
set_option linter.unusedVariables false
set_option linter.unusedSimpArgs false
namespace Go.Proofs.YtkdnfjafabgioaaGreatDoor.Own
open Go.RowKit Go.Shelf

theorem next_any (B N : Nat) (l : List UInt8) (a k : Nat) (w w0 : World) (h : Sp w B N l a k) (hE : Env w0) (h0 : Below w0.heap.size w0 w) (hN0 : w0.heap.size ≤ N) (hBw : B ≤ w.heap.size) :
    Calls Tryz.prog 116 #[.pointer (some ⟨N, 0, none⟩)] w (NextP w B N l (nextS l a k)) := by
  by_cases hak : a + k ≤ l.length
  · obtain ⟨A, cp, ⟨s, hs⟩, ho, hA, hr, hcp, hcm, hx, ha, hk, hl⟩ := h
    by_cases hi : endAt l (a + k) < 0
    · exact next_line B N cp s l a k w w0 A hs ho hA hr hcp hcm hx hl hE h0 hN0 hBw hak _ hi (by unfold nextS; rw [if_pos hak, if_pos hi])
    · obtain ⟨j, hj⟩ := Int.eq_ofNat_of_zero_le (show 0 ≤ endAt l (a + k) by omega)
      have hroom := endAt_room l (a + k) j hak hj
      rcases hr with ⟨rfl, rfl⟩ | ⟨g, rfl⟩
      · omega
      · exact next_main B N cp g (a + k) j _ s l a k w w0 hs ho hA hcp hcm hx hl hE h0 hN0 hBw rfl hak _ hj rfl rfl
  · exact next_no B N l a k w w0 h hak

set_option maxRecDepth 100000 in
set_option maxHeartbeats 1600000 in
theorem new_any (w : World) :
    Calls Tryz.prog 65 #[] w fun e w' => e = .returned (.pointer (some ⟨w.heap.size, 0, none⟩)) ∧ w' = w.alloc (.cells #[.slice none 0 0, .int .i64 0, .int .i64 0, .int .i64 0] 156) := by
  go_enter Tryz.func65, Tryz.ntmps65
  go_wp2
  go_ret
  exact ⟨rfl, rfl⟩

theorem ownsRow_kept_set {w : World} {base n : Nat} {e : TypeId} {size : Nat} {v : Value} {xs : List Value} (h : w.ownsRow base e size v n xs) (N j : Nat) (x : Value) (hN : ∀ k, v.ownBlock = some k → k ≠ N) : (w.setCell ⟨N, j, none⟩ x).ownsRow base e size v n xs := by
  cases hb : v.ownBlock with
  | none => exact h.kept (grown_setCell w N j x) (.inl hb)
  | some k => exact h.kept (grown_setCell w N j x) (.inr (by rw [hb]; simpa using hN k hb))
set_option maxRecDepth 100000 in
set_option maxHeartbeats 1600000 in
/-- Feed at a splitter that is new. -/
theorem feed_new (N : Nat) (A : Option Addr) (cp : Nat) (l : List UInt8) (w : World) (h : Spl w N (.slice none 0 0) 0 0 0) (hA : Byt w A l) (hl : l.length ≤ 1000000000) (hn : A = none → l = [] ∧ cp = 0) :
    Calls Tryz.prog 66 #[.pointer (some ⟨N, 0, none⟩), .slice A l.length cp] w fun e w' => e = .returned (.tuple #[]) ∧ w.grownBy w' (some N) ∧ Sp w' w.heap.size N l 0 0 := by
  obtain ⟨i0, hi, hz0, hz1, hz2⟩ := info_parts info5
  have c0 := h.c0
  have f0 := h.fr 0
  have hN := h.lt
  have H := Lib.hid h
  have HA := Lib.hid hA
  clear h hA
  cases A with
  | none =>
    obtain ⟨rfl, rfl⟩ := hn rfl
    go_enter Tryz.func66, Tryz.ntmps66
    go_wp2_with (at_builtin; refine wpList_append_own_none rfl _ _ 24 rfl w.heap.size 5 i0 1 Tryz.underlying24 hi _ _ _ rfl (World.ownsRow_nil _ _ _ _) rfl ?_)
    go_end0
    exact ⟨rfl, grown_setCell _ N 0 _, none, 0, ⟨0, H.out.set0 _ rfl⟩, World.ownsRow_nil _ _ _ _, Byt.nil _ _, .inl ⟨rfl, rfl⟩, Nat.le_refl _, by simp [maxLen], by simp, Nat.le_refl _, by omega, by omega⟩
  | some x =>
    go_enter Tryz.func66, Tryz.ntmps66
    go_wp2_with (at_builtin; refine wpList_append_own _ rfl _ _ 24 rfl w.heap.size 5 i0 (.int .u8 0) 1 1 Tryz.underlying24 hi hz0 hz1 hz2 rfl (by decide) _ _ _ rfl (World.ownsRow_nil _ _ _ _) x l.length cp (Lib.byteCells l) rfl (by rw [Lib.byteCells_length]; omega) HA.out.src (byteCells_one l) (by unfold maxLen; omega) (by omega) (by simp) ?_)
    intro v' w5 hown5 hgrow _
    obtain ⟨A2, c2, rfl, hr2, h1, h2, h3, h4⟩ := own_row0 hown5
    have hs5 := H.out.grown hgrow (by simp [Value.ownBlock])
    have f0' := hs5.fr 0
    have c0' := hs5.c0
    have hB5 := h3.byt (by unfold maxLen; omega)
    have hg5 : w.grownBy w5 (some N) := by
      have : Below w.heap.size w w5 := (Below.refl _ w).grown hgrow (Nat.le_refl _) (by intro k e; simp [Value.ownBlock] at e)
      exact below_nat this N
    have HS5 := Lib.hid hs5
    have HO5 := Lib.hid hown5
    have HX := Lib.hid (And.intro hg5 (And.intro hB5 (And.intro hr2 h4)))
    clear hs5 hB5 hr2 h3 h4 hown5 hgrow hg5
    go_wp2_with fail
    go_end0
    have hg : w.grownBy (w5.setCell ⟨N, 0, none⟩ (.slice A2 l.length c2)) (some N) := grown_trans HX.out.1 (grown_setCell _ N 0 _)
    exact ⟨rfl, hg, A2, c2, ⟨0, HS5.out.set0 _ rfl⟩, ownsRow_kept_set HO5.out N 0 _ (by intro j e; have := own_base HO5.out j e; omega), HX.out.2.1.grown (grown_setCell _ N 0 _) (fun a ha => by have := HX.out.2.2.2 a ha; omega), HX.out.2.2.1, h1, h2, fun a ha => by have := HX.out.2.2.2 a ha; rw [World.size_setCell]; exact ⟨this.1, by omega, this.2⟩, Nat.zero_le _, by omega, hl⟩
end Go.Proofs.YtkdnfjafabgioaaGreatDoor.Own
