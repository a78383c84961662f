import Derived.Test.YtkdnfjafabgioaaGreatDoorA18
set_option linter.unusedVariables false
set_option linter.unusedSimpArgs false
namespace Go.Proofs.YtkdnfjafabgioaaGreatDoor.Own
open Go.RowKit Go.Shelf

set_option maxRecDepth 100000 in
set_option maxHeartbeats 1600000 in
theorem line_flat (N cp : Nat) (A : Option Addr) (l : List UInt8) (w : World) (h : Spl w N (.slice A l.length cp) cp 0 cp) (hA : (A = none ∧ cp = 0) ∨ ∃ g, A = some ⟨g, 0, none⟩) (hl : l.length ≤ 1000000000) (ha : l.length = cp) (hE : Env w) :
    Calls Tryz.prog 161 #[.pointer (some ⟨N, 0, none⟩)] w fun e w' => e = .returned (.tuple #[.int .i64 (if endAt l cp < 0 then 0 else cp + endAt l cp), .bool (decide (0 ≤ endAt l cp))]) ∧ (∃ s, Spl w' N (.slice A l.length cp) cp 0 s) ∧ w.grownBy w' (some N) := by
  have hi : endAt l cp = -1 := by unfold endAt; rw [List.drop_of_length_le (by omega)]; rfl
  rw [hi]
  have c0 := h.c0
  have c3 := h.c3
  have hNl := h.lt
  have kc : ∀ (w : World) (C : Array Value) (n c : Nat), (convert 24 24 (.slice (some ⟨w.heap.size, 0, none⟩) n c)).run Tryz.prog (w.alloc (.cells C 5)).drew = .ok (.slice (some ⟨w.heap.size, 0, none⟩) n c) (w.alloc (.cells C 5 (C.size, C.size + 1))).drew := fun w C n c => Lib.run_convert_bytes_const (P := Tryz.prog) w.drew 24 5 C n c Tryz.underlying24 Tryz.underlying5
  have hcd : ∀ A', Calls Tryz.prog 181 #[.slice A' 0 0, .slice (some ⟨w.heap.size, 0, none⟩) 2 2] (crlfW w) fun e w' => e = .returned (.int .i64 (-1)) ∧ Below w.heap.size w w' := by
    intro A'
    refine (crlf_any A' 0 [] w.heap.size 2 (crlfW w) (Byt.nil _ _) (Nat.le_refl _) (by simp) (hE.below (crlfW_below w)) (crlfW_byt w)).mono ?_
    rintro e w' ⟨rfl, q, rfl⟩
    exact ⟨rfl, below_drewN (crlfW_below w) q⟩
  unfold crlfW at hcd
  rw [ha] at c0 ⊢
  rw [ha] at h
  have hn : (cp : Int) - (cp : Int) = 0 := by omega
  have hn2 : cp - cp = 0 := by omega
  have H := Lib.hid h
  have HC := Lib.hid hcd
  clear h hcd hi hE
  rcases hA with ⟨rfl, rfl⟩ | ⟨g, rfl⟩
  · go_enter Tryz.func161, Tryz.ntmps161
    go_upto_region 1 with fail
    go_cut [4] (fun v wx => v = .int .i64 (-1) ∧ Below w.heap.size w wx)
    case first =>
      go_region_with (go_at_call 181; refine (HC.out _).mono ?_; rintro e w1 ⟨rfl, hb1⟩)
      all_goals
        go_wp2_with fail
        go_meet
        exact ⟨rfl, by assumption⟩
    case rest =>
      obtain ⟨rfl, hb1⟩ := hcut
      clear c0 c3 kc
      have hs1 := H.out.below hb1
      have c0 := hs1.c0
      have c3 := hs1.c3
      have f3 := hs1.fr 3
      have H1 := Lib.hid hs1
      clear hs1
      go_wp2_with fail
      go_still_tail 14, (by kernel_rfl)
      go_wp2_with fail
      go_ret2
      exact ⟨rfl, ⟨_, (H1.out.drewN 1).set3 _⟩, grown_trans (below_nat hb1 N) (grown_set _ _ _ _ 1 0)⟩
  · go_enter Tryz.func161, Tryz.ntmps161
    go_upto_region 1 with fail
    go_cut [4] (fun v wx => v = .int .i64 (-1) ∧ Below w.heap.size w wx)
    case first =>
      go_region_with (go_at_call 181; refine (HC.out _).mono ?_; rintro e w1 ⟨rfl, hb1⟩)
      all_goals
        go_wp2_with fail
        go_meet
        exact ⟨rfl, by assumption⟩
    case rest =>
      obtain ⟨rfl, hb1⟩ := hcut
      clear c0 c3 kc
      have hs1 := H.out.below hb1
      have c0 := hs1.c0
      have c3 := hs1.c3
      have f3 := hs1.fr 3
      have H1 := Lib.hid hs1
      clear hs1
      go_wp2_with fail
      go_still_tail 14, (by kernel_rfl)
      go_wp2_with fail
      go_ret2
      exact ⟨rfl, ⟨_, (H1.out.drewN 1).set3 _⟩, grown_trans (below_nat hb1 N) (grown_set _ _ _ _ 1 0)⟩

/-- Where a row's bytes lie. -/
def Row0 (A : Option Addr) (cp : Nat) : Prop := (A = none ∧ cp = 0) ∨ ∃ g, A = some ⟨g, 0, none⟩
theorem own_row0 {w : World} {base n : Nat} {e : TypeId} {size : Nat} {v : Value} {xs : List Value} (h : w.ownsRow base e size v n xs) : ∃ A cp, v = .slice A n cp ∧ Row0 A cp ∧ n ≤ cp ∧ cp ≤ maxLen ∧ CellsIn w base A xs ∧ (∀ x, A = some x → base ≤ x.block ∧ x.block < w.heap.size) := by
  obtain ⟨A, cp, rfl, h1, h2, h3⟩ := own_cells h
  refine ⟨A, cp, rfl, ?_, h1, h2, h3, ?_⟩
  · rcases h.2 with ⟨e1, _⟩ | ⟨g, cap, cur, e1, _⟩
    · cases e1; exact .inl ⟨rfl, rfl⟩
    · cases e1; exact .inr ⟨g, rfl⟩
  · rcases h.2 with ⟨e1, _⟩ | ⟨g, cap, cur, e1, hb, hh, _⟩
    · cases e1; simp
    · cases e1; intro x hx; cases hx; exact ⟨hb, (Array.getElem?_eq_some_iff.1 hh).1⟩

theorem line_any (N : Nat) (A : Option Addr) (cp a : Nat) (l : List UInt8) (w : World) (h : Spl w N (.slice A l.length cp) a 0 a) (hA : Byt w A l) (hr : Row0 A cp) (hl : l.length ≤ 1000000000) (ha : a ≤ l.length) (hcp : l.length ≤ cp) (hcm : cp ≤ maxLen) (hE : Env w) :
    Calls Tryz.prog 161 #[.pointer (some ⟨N, 0, none⟩)] w fun e w' => e = .returned (.tuple #[.int .i64 (if endAt l a < 0 then 0 else a + endAt l a), .bool (decide (0 ≤ endAt l a))]) ∧ (∃ s, Spl w' N (.slice A l.length cp) a 0 s) ∧ w.grownBy w' (some N) := by
  by_cases hac : a < cp
  · rcases hr with ⟨rfl, rfl⟩ | ⟨g, rfl⟩
    · omega
    · exact line_some N g cp a l w h hA hl ha hcp hac hcm hE
  · obtain rfl : a = cp := by omega
    exact line_flat N a A l w h hr hl (by omega) hE
end Go.Proofs.YtkdnfjafabgioaaGreatDoor.Own
