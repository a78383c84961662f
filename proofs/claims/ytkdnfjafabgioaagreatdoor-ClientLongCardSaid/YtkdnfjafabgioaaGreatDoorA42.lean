import Derived.Test.YtkdnfjafabgioaaGreatDoorA41
set_option linter.unusedVariables false
set_option linter.unusedSimpArgs false
namespace Go.Proofs.YtkdnfjafabgioaaGreatDoor.Own
open Go.RowKit Go.Shelf

def aliveC : Cmd := ⟨[97], 7, [], [(1, 0)], 3, 0, false, 0, []⟩
def aliveT : List UInt8 := [97, 32, 70, 69, 84, 67, 72, 32, 49, 58, 42, 32, 40, 70, 76, 65, 71, 83, 32, 85, 73, 68, 41]
theorem alive_text : textOf aliveC = aliveT := by decide +kernel
theorem alive_valid : validOf aliveC = true := by decide +kernel
theorem alive_print : printOf aliveC = some (aliveT ++ [13, 10]) := by
  have hf := frames_line aliveT (by decide) (by decide +kernel)
  rw [if_neg (by decide)] at hf
  unfold printOf sendB
  rw [if_pos alive_valid, alive_text, hf]
  rfl

/-- A command without set and data. -/
theorem cmdIn_plain (w : World) (t b : List UInt8) (k : Int) : CmdIn w ⟨t, k, b, [], 0, 0, false, 0, []⟩ (.slice none 0 0) (.slice none 0 0) :=
  ⟨⟨none, 0, rfl, Nat.le_refl _, CellsIn.nil _ _ _⟩, ⟨none, 0, rfl, Nat.le_refl _, Byt.nil _ _⟩, fun cp e => ⟨rfl, by cases e; rfl⟩, fun cp e => ⟨rfl, by cases e; rfl⟩⟩
theorem alive_in (w : World) : CmdIn (w.alloc (.cells #[.int .u32 1, .int .u32 0] 48)) aliveC (.slice (some ⟨w.heap.size, 0, none⟩) 1 1) (.slice none 0 0) :=
  ⟨⟨some ⟨w.heap.size, 0, none⟩, 1, rfl, Nat.le_refl _, fun _ => ⟨w.heap.size, 0, rfl, Nat.zero_le _, by simp, fun j v hj => by
      rw [Nat.zero_add, World.cell?_alloc_new]
      have e : rngCells aliveC.set = [.int .u32 1, .int .u32 0] := rfl
      rw [e] at hj
      simpa using hj⟩⟩, ⟨none, 0, rfl, Nat.le_refl _, Byt.nil _ _⟩, fun cp e => (by cases e), fun cp e => ⟨rfl, by cases e; rfl⟩⟩

set_option maxRecDepth 100000 in
set_option maxHeartbeats 1600000 in
theorem alive_any (w : World) (hE : Env w) :
    Calls Tryz.prog 10 #[] w fun e w' => e = .returned (.bool true) ∧ Below w.heap.size w w' := by
  have hb0 : Below w.heap.size w (w.alloc (.cells #[.int .u32 1, .int .u32 0] 48)) := (Below.refl _ _).alloc (Nat.le_refl _) _
  have hp := print_any aliveC (some ⟨w.heap.size, 0, none⟩) none 1 0 _ (alive_in w) (hE.below hb0) (by decide) (by decide) (by decide)
  unfold PrintP at hp
  rw [alive_print] at hp
  simp only at hp
  have HP := Lib.hid hp
  clear hp hE
  go_enter Tryz.func10, Tryz.ntmps10
  go_wp2_with fail
  refine HP.out.mono ?_
  rintro e w1 ⟨hb1, v1, rfl, N, cp, rfl, g1, g2, g3, g4, g5⟩
  have ks : (convert 24 9 (.slice (some ⟨N, 0, none⟩) 25 cp)).run Tryz.prog w1 = .ok (.string ⟨(aliveT ++ [13, 10]).toArray⟩) w1 := (g4.byt (by simp [maxLen, aliveT])).string cp
  have hbw : Below w.heap.size w w1 := hb0.trans (hb1.mono (by simp))
  have e25 : (aliveT ++ [13, 10]).length = 25 := rfl
  have eT : aliveT ++ [13, 10] = [97, 32, 70, 69, 84, 67, 72, 32, 49, 58, 42, 32, 40, 70, 76, 65, 71, 83, 32, 85, 73, 68, 41, 13, 10] := rfl
  rw [e25]
  rw [eT] at ks
  clear e25 eT
  clear g4 g5 hb1 hb0
  go_wp2_with fail
  go_ret
  exact ⟨rfl, hbw⟩

theorem rep_one (c : UInt8) : ∀ n : Nat, Lib.repeatL [c] n = List.replicate n c
  | 0 => rfl
  | n + 1 => by
    show [c] ++ Lib.repeatL [c] n = _
    rw [rep_one c n]
    rfl
theorem repeat_at (c : UInt8) (n : Nat) (hn : n ≤ 1000000) (w : World) :
    Calls Tryz.prog 20 #[.string ⟨#[c]⟩, .int .i64 (n : Int)] w fun e w' => e = .returned (.string ⟨(List.replicate n c).toArray⟩) ∧ Below w.heap.size w w' := by
  have h := Tryz.strings_Repeat ⟨#[c]⟩ n w (by omega) (by show 1 * n ≤ _; omega)
  rw [show (⟨#[c]⟩ : ByteArray).data.toList = [c] from rfl, rep_one] at h
  exact h

set_option maxRecDepth 100000 in
set_option maxHeartbeats 3200000 in
theorem longw_0 (x : Int) (hx0 : 0 ≤ x) (hx1 : x ≤ 255) (hx : x % 3 = 0) (w : World) (hE : Env w) :
    Calls Tryz.prog 5 #[.int .u8 x] w fun e w' => e = .returned (.bool true) ∧ Below w.heap.size w w' := by
  obtain ⟨b1, hb1⟩ : ∃ b, b = List.replicate 8182 (120 : UInt8) := ⟨_, rfl⟩
  obtain ⟨b2, hb2⟩ : ∃ b, b = List.replicate 8191 (0 : UInt8) := ⟨_, rfl⟩
  have hr1 : ∀ W, Calls Tryz.prog 20 #[.string ⟨#[120]⟩, .int .i64 8182] W fun e w' => e = .returned (.string ⟨b1.toArray⟩) ∧ Below W.heap.size W w' := fun W => by rw [hb1]; exact repeat_at 120 8182 (by omega) W
  have hr2 : ∀ W, Calls Tryz.prog 20 #[.string ⟨#[0]⟩, .int .i64 8191] W fun e w' => e = .returned (.string ⟨b2.toArray⟩) ∧ Below W.heap.size W w' := fun W => by rw [hb2]; exact repeat_at 0 8191 (by omega) W
  have hp1 : ∀ W, Below w.heap.size w W → Calls Tryz.prog 11 #[cmdV ⟨[97], 5, b1, [], 0, 0, false, 0, []⟩ (.slice none 0 0) (.slice none 0 0)] W fun e w' => ∃ A cp, e = .returned (.tuple #[.slice A 8193 cp, .bool true]) ∧ Below W.heap.size W w' := by
    intro W hW
    refine (print_any ⟨[97], 5, b1, [], 0, 0, false, 0, []⟩ none none 0 0 W (cmdIn_plain _ _ _ _) (hE.below hW) (by simp) (by simp) (by simp)).mono ?_
    intro e w' h
    unfold PrintP at h
    rw [hb1, show (⟨[97], 5, List.replicate 8182 120, [], 0, 0, false, 0, []⟩ : Cmd) = longA 8182 from rfl, print_x 8182 (by omega) (by omega), if_pos (by omega)] at h
    obtain ⟨hb, v, he, N, cp, rfl, _⟩ := h
    have el : (headA ++ List.replicate 8182 120 ++ [13, 10]).length = 8193 := by rw [List.length_append, List.length_append, List.length_replicate]; rfl
    rw [el] at he
    exact ⟨_, _, he, hb⟩
  have hp2 : ∃ L2 : Nat, 8191 < L2 ∧ ∀ W, Below w.heap.size w W → Calls Tryz.prog 11 #[cmdV ⟨[97], 5, b2, [], 0, 0, false, 0, []⟩ (.slice none 0 0) (.slice none 0 0)] W fun e w' => ∃ A cp, e = .returned (.tuple #[.slice A L2 cp, .bool true]) ∧ Below W.heap.size W w' := by
    obtain ⟨g1, g2, _⟩ := long_0 0 (by omega)
    refine ⟨_, g2, fun W hW => ?_⟩
    refine (print_any ⟨[97], 5, b2, [], 0, 0, false, 0, []⟩ none none 0 0 W (cmdIn_plain _ _ _ _) (hE.below hW) (by simp) (by simp) (by simp)).mono ?_
    intro e w' h
    unfold PrintP at h
    rw [hb2, show (⟨[97], 5, List.replicate 8191 0, [], 0, 0, false, 0, []⟩ : Cmd) = longD (8191 + 0) from rfl, g1] at h
    obtain ⟨hb, v, he, N, cp, rfl, _⟩ := h
    exact ⟨_, _, he, hb⟩
  have hl2 : ∀ W, Below w.heap.size w W → Calls Tryz.prog 14 #[cmdV ⟨[97], 5, b2, [], 0, 0, false, 0, []⟩ (.slice none 0 0) (.slice none 0 0)] W fun e w' => e = .returned (.int .i64 1) ∧ Below W.heap.size W w' := by
    intro W hW
    have h := literals_any ⟨[97], 5, b2, [], 0, 0, false, 0, []⟩ none none 0 0 W (cmdIn_plain _ _ _ _) (hE.below hW) (by simp) (by simp) (by simp)
    obtain ⟨_, _, g3⟩ := long_0 0 (by omega)
    rw [show literalsOf ⟨[97], 5, b2, [], 0, 0, false, 0, []⟩ = 1 by rw [hb2]; exact g3] at h
    exact h
  have hal : ∀ W, Below w.heap.size w W → Calls Tryz.prog 10 #[] W fun e w' => e = .returned (.bool true) ∧ Below W.heap.size W w' := fun W hW => alive_any W (hE.below hW)
  obtain ⟨L2, hL2, hp2⟩ := hp2
  have hL : (8191 : Int) < (L2 : Int) := by omega
  unfold cmdV at hp1 hp2 hl2
  simp only at hp1 hp2 hl2
  have HR := Lib.hid (And.intro hr1 hr2)
  have HP := Lib.hid (And.intro hp1 (And.intro hp2 (And.intro hl2 hal)))
  clear hr1 hr2 hp1 hp2 hl2 hal hb1 hb2 hE hL2
  go_enter Tryz.func5, Tryz.ntmps5
  go_wp2_with fail
  refine (HR.out.1 _).mono ?_
  rintro e w1 ⟨rfl, h1⟩
  go_wp2_with fail
  obtain ⟨o1, ho1⟩ : ∃ o, o = Obj.cells #[.string ⟨#[97]⟩, .int .i64 5, .string ⟨b1.toArray⟩, .slice none 0 0, .int .i64 0, .int .i64 0, .bool false, .int .u8 0, .slice none 0 0] 26 (0, 0) := ⟨_, rfl⟩
  rw [← ho1]
  have q1 : PSt w1 o1 (w1.alloc o1) := ⟨(Below.refl _ _).alloc (Nat.le_refl _) _, World.alloc_heap_new _ _, by simp⟩
  have k1 : Below w.heap.size w (w1.alloc o1) := h1.trans (q1.bel.mono h1.size)
  have HO1 := Lib.hid ho1
  have H1 := Lib.hid (And.intro k1 q1)
  clear q1 k1 ho1
  refine (HP.out.1 _ H1.out.1).mono ?_
  rintro e w2 ⟨A2, c2, rfl, h2⟩
  have k2 : Below w.heap.size w w2 := H1.out.1.trans (h2.mono H1.out.1.size)
  have H2 := Lib.hid k2
  clear h2 k2
  go_wp2_with fail
  refine (HR.out.2 _).mono ?_
  rintro e w3 ⟨rfl, h3⟩
  have k3 : Below w.heap.size w w3 := H2.out.trans (h3.mono H2.out.size)
  have H3 := Lib.hid k3
  clear h3 k3
  go_wp2_with fail
  obtain ⟨o2, ho2⟩ : ∃ o, o = Obj.cells #[.string ⟨#[97]⟩, .int .i64 5, .string ⟨b2.toArray⟩, .slice none 0 0, .int .i64 0, .int .i64 0, .bool false, .int .u8 0, .slice none 0 0] 26 (0, 0) := ⟨_, rfl⟩
  rw [← ho2]
  have q2 : PSt w3 o2 (w3.alloc o2) := ⟨(Below.refl _ _).alloc (Nat.le_refl _) _, World.alloc_heap_new _ _, by simp⟩
  have k4 : Below w.heap.size w (w3.alloc o2) := H3.out.trans (q2.bel.mono H3.out.size)
  have HO2 := Lib.hid ho2
  have H4 := Lib.hid (And.intro k4 q2)
  clear q2 k4 ho2
  refine (HP.out.2.1 _ H4.out.1).mono ?_
  rintro e w5 ⟨A5, c5, rfl, h5⟩
  have k5 : Below w.heap.size w w5 := H4.out.1.trans (h5.mono H4.out.1.size)
  have q5 := H4.out.2.below h5
  have H5 := Lib.hid (And.intro k5 q5)
  clear h5 k5 q5
  go_wp2_with fail
  refine (HP.out.2.2.2 _ H5.out.1).mono ?_
  rintro e w6 ⟨rfl, h6⟩
  have k6 : Below w.heap.size w w6 := H5.out.1.trans (h6.mono H5.out.1.size)
  have q6 := H5.out.2.below h6
  have hbx := q6.box
  rw [HO2.out] at hbx
  obtain ⟨x0, x1, x2, x3, x4, x5, x6, x7, x8⟩ := BoxC.of (Below.refl _ w6) (by have := q6.size; omega) hbx
  have H6 := Lib.hid k6
  clear h6 k6 q6 hbx
  go_wp2_with fail
  refine (HP.out.2.2.1 _ H6.out).mono ?_
  rintro e w7 ⟨rfl, h7⟩
  have k7 : Below w.heap.size w w7 := H6.out.trans (h7.mono H6.out.size)
  have H7 := Lib.hid k7
  clear h7 k7
  go_wp2_with fail
  go_ret
  exact ⟨rfl, H7.out⟩

set_option maxRecDepth 100000 in
set_option maxHeartbeats 3200000 in
theorem longw_1 (x : Int) (hx0 : 0 ≤ x) (hx1 : x ≤ 255) (hx : x % 3 = 1) (w : World) (hE : Env w) :
    Calls Tryz.prog 5 #[.int .u8 x] w fun e w' => e = .returned (.bool true) ∧ Below w.heap.size w w' := by
  obtain ⟨b1, hb1⟩ : ∃ b, b = List.replicate 8183 (120 : UInt8) := ⟨_, rfl⟩
  obtain ⟨b2, hb2⟩ : ∃ b, b = List.replicate 8192 (0 : UInt8) := ⟨_, rfl⟩
  have hr1 : ∀ W, Calls Tryz.prog 20 #[.string ⟨#[120]⟩, .int .i64 8183] W fun e w' => e = .returned (.string ⟨b1.toArray⟩) ∧ Below W.heap.size W w' := fun W => by rw [hb1]; exact repeat_at 120 8183 (by omega) W
  have hr2 : ∀ W, Calls Tryz.prog 20 #[.string ⟨#[0]⟩, .int .i64 8192] W fun e w' => e = .returned (.string ⟨b2.toArray⟩) ∧ Below W.heap.size W w' := fun W => by rw [hb2]; exact repeat_at 0 8192 (by omega) W
  have hp1 : ∀ W, Below w.heap.size w W → Calls Tryz.prog 11 #[cmdV ⟨[97], 5, b1, [], 0, 0, false, 0, []⟩ (.slice none 0 0) (.slice none 0 0)] W fun e w' => ∃ A cp, e = .returned (.tuple #[.slice A 8194 cp, .bool true]) ∧ Below W.heap.size W w' := by
    intro W hW
    refine (print_any ⟨[97], 5, b1, [], 0, 0, false, 0, []⟩ none none 0 0 W (cmdIn_plain _ _ _ _) (hE.below hW) (by simp) (by simp) (by simp)).mono ?_
    intro e w' h
    unfold PrintP at h
    rw [hb1, show (⟨[97], 5, List.replicate 8183 120, [], 0, 0, false, 0, []⟩ : Cmd) = longA 8183 from rfl, print_x 8183 (by omega) (by omega), if_pos (by omega)] at h
    obtain ⟨hb, v, he, N, cp, rfl, _⟩ := h
    have el : (headA ++ List.replicate 8183 120 ++ [13, 10]).length = 8194 := by rw [List.length_append, List.length_append, List.length_replicate]; rfl
    rw [el] at he
    exact ⟨_, _, he, hb⟩
  have hp2 : ∃ L2 : Nat, 8192 < L2 ∧ ∀ W, Below w.heap.size w W → Calls Tryz.prog 11 #[cmdV ⟨[97], 5, b2, [], 0, 0, false, 0, []⟩ (.slice none 0 0) (.slice none 0 0)] W fun e w' => ∃ A cp, e = .returned (.tuple #[.slice A L2 cp, .bool true]) ∧ Below W.heap.size W w' := by
    obtain ⟨g1, g2, _⟩ := long_0 1 (by omega)
    refine ⟨_, g2, fun W hW => ?_⟩
    refine (print_any ⟨[97], 5, b2, [], 0, 0, false, 0, []⟩ none none 0 0 W (cmdIn_plain _ _ _ _) (hE.below hW) (by simp) (by simp) (by simp)).mono ?_
    intro e w' h
    unfold PrintP at h
    rw [hb2, show (⟨[97], 5, List.replicate 8192 0, [], 0, 0, false, 0, []⟩ : Cmd) = longD (8191 + 1) from rfl, g1] at h
    obtain ⟨hb, v, he, N, cp, rfl, _⟩ := h
    exact ⟨_, _, he, hb⟩
  have hl2 : ∀ W, Below w.heap.size w W → Calls Tryz.prog 14 #[cmdV ⟨[97], 5, b2, [], 0, 0, false, 0, []⟩ (.slice none 0 0) (.slice none 0 0)] W fun e w' => e = .returned (.int .i64 1) ∧ Below W.heap.size W w' := by
    intro W hW
    have h := literals_any ⟨[97], 5, b2, [], 0, 0, false, 0, []⟩ none none 0 0 W (cmdIn_plain _ _ _ _) (hE.below hW) (by simp) (by simp) (by simp)
    obtain ⟨_, _, g3⟩ := long_0 1 (by omega)
    rw [show literalsOf ⟨[97], 5, b2, [], 0, 0, false, 0, []⟩ = 1 by rw [hb2]; exact g3] at h
    exact h
  have hal : ∀ W, Below w.heap.size w W → Calls Tryz.prog 10 #[] W fun e w' => e = .returned (.bool true) ∧ Below W.heap.size W w' := fun W hW => alive_any W (hE.below hW)
  obtain ⟨L2, hL2, hp2⟩ := hp2
  have hL : (8192 : Int) < (L2 : Int) := by omega
  unfold cmdV at hp1 hp2 hl2
  simp only at hp1 hp2 hl2
  have HR := Lib.hid (And.intro hr1 hr2)
  have HP := Lib.hid (And.intro hp1 (And.intro hp2 (And.intro hl2 hal)))
  clear hr1 hr2 hp1 hp2 hl2 hal hb1 hb2 hE hL2
  go_enter Tryz.func5, Tryz.ntmps5
  go_wp2_with fail
  refine (HR.out.1 _).mono ?_
  rintro e w1 ⟨rfl, h1⟩
  go_wp2_with fail
  obtain ⟨o1, ho1⟩ : ∃ o, o = Obj.cells #[.string ⟨#[97]⟩, .int .i64 5, .string ⟨b1.toArray⟩, .slice none 0 0, .int .i64 0, .int .i64 0, .bool false, .int .u8 0, .slice none 0 0] 26 (0, 0) := ⟨_, rfl⟩
  rw [← ho1]
  have q1 : PSt w1 o1 (w1.alloc o1) := ⟨(Below.refl _ _).alloc (Nat.le_refl _) _, World.alloc_heap_new _ _, by simp⟩
  have k1 : Below w.heap.size w (w1.alloc o1) := h1.trans (q1.bel.mono h1.size)
  have HO1 := Lib.hid ho1
  have H1 := Lib.hid (And.intro k1 q1)
  clear q1 k1 ho1
  refine (HP.out.1 _ H1.out.1).mono ?_
  rintro e w2 ⟨A2, c2, rfl, h2⟩
  have k2 : Below w.heap.size w w2 := H1.out.1.trans (h2.mono H1.out.1.size)
  have H2 := Lib.hid k2
  clear h2 k2
  go_wp2_with fail
  refine (HR.out.2 _).mono ?_
  rintro e w3 ⟨rfl, h3⟩
  have k3 : Below w.heap.size w w3 := H2.out.trans (h3.mono H2.out.size)
  have H3 := Lib.hid k3
  clear h3 k3
  go_wp2_with fail
  obtain ⟨o2, ho2⟩ : ∃ o, o = Obj.cells #[.string ⟨#[97]⟩, .int .i64 5, .string ⟨b2.toArray⟩, .slice none 0 0, .int .i64 0, .int .i64 0, .bool false, .int .u8 0, .slice none 0 0] 26 (0, 0) := ⟨_, rfl⟩
  rw [← ho2]
  have q2 : PSt w3 o2 (w3.alloc o2) := ⟨(Below.refl _ _).alloc (Nat.le_refl _) _, World.alloc_heap_new _ _, by simp⟩
  have k4 : Below w.heap.size w (w3.alloc o2) := H3.out.trans (q2.bel.mono H3.out.size)
  have HO2 := Lib.hid ho2
  have H4 := Lib.hid (And.intro k4 q2)
  clear q2 k4 ho2
  refine (HP.out.2.1 _ H4.out.1).mono ?_
  rintro e w5 ⟨A5, c5, rfl, h5⟩
  have k5 : Below w.heap.size w w5 := H4.out.1.trans (h5.mono H4.out.1.size)
  have q5 := H4.out.2.below h5
  have H5 := Lib.hid (And.intro k5 q5)
  clear h5 k5 q5
  go_wp2_with fail
  refine (HP.out.2.2.2 _ H5.out.1).mono ?_
  rintro e w6 ⟨rfl, h6⟩
  have k6 : Below w.heap.size w w6 := H5.out.1.trans (h6.mono H5.out.1.size)
  have q6 := H5.out.2.below h6
  have hbx := q6.box
  rw [HO2.out] at hbx
  obtain ⟨x0, x1, x2, x3, x4, x5, x6, x7, x8⟩ := BoxC.of (Below.refl _ w6) (by have := q6.size; omega) hbx
  have H6 := Lib.hid k6
  clear h6 k6 q6 hbx
  go_wp2_with fail
  refine (HP.out.2.2.1 _ H6.out).mono ?_
  rintro e w7 ⟨rfl, h7⟩
  have k7 : Below w.heap.size w w7 := H6.out.trans (h7.mono H6.out.size)
  have H7 := Lib.hid k7
  clear h7 k7
  go_wp2_with fail
  go_ret
  exact ⟨rfl, H7.out⟩

set_option maxRecDepth 100000 in
set_option maxHeartbeats 3200000 in
theorem longw_2 (x : Int) (hx0 : 0 ≤ x) (hx1 : x ≤ 255) (hx : x % 3 = 2) (w : World) (hE : Env w) :
    Calls Tryz.prog 5 #[.int .u8 x] w fun e w' => e = .returned (.bool true) ∧ Below w.heap.size w w' := by
  obtain ⟨b1, hb1⟩ : ∃ b, b = List.replicate 8184 (120 : UInt8) := ⟨_, rfl⟩
  obtain ⟨b2, hb2⟩ : ∃ b, b = List.replicate 8193 (0 : UInt8) := ⟨_, rfl⟩
  have hr1 : ∀ W, Calls Tryz.prog 20 #[.string ⟨#[120]⟩, .int .i64 8184] W fun e w' => e = .returned (.string ⟨b1.toArray⟩) ∧ Below W.heap.size W w' := fun W => by rw [hb1]; exact repeat_at 120 8184 (by omega) W
  have hr2 : ∀ W, Calls Tryz.prog 20 #[.string ⟨#[0]⟩, .int .i64 8193] W fun e w' => e = .returned (.string ⟨b2.toArray⟩) ∧ Below W.heap.size W w' := fun W => by rw [hb2]; exact repeat_at 0 8193 (by omega) W
  have hp1 : ∀ W, Below w.heap.size w W → Calls Tryz.prog 11 #[cmdV ⟨[97], 5, b1, [], 0, 0, false, 0, []⟩ (.slice none 0 0) (.slice none 0 0)] W fun e w' => ∃ A cp, e = .returned (.tuple #[.slice A 0 cp, .bool false]) ∧ Below W.heap.size W w' := by
    intro W hW
    refine (print_any ⟨[97], 5, b1, [], 0, 0, false, 0, []⟩ none none 0 0 W (cmdIn_plain _ _ _ _) (hE.below hW) (by simp) (by simp) (by simp)).mono ?_
    intro e w' h
    unfold PrintP at h
    rw [hb1, show (⟨[97], 5, List.replicate 8184 120, [], 0, 0, false, 0, []⟩ : Cmd) = longA 8184 from rfl, print_x 8184 (by omega) (by omega), if_neg (by omega)] at h
    exact ⟨_, _, h.2, h.1⟩
  have hp2 : ∃ L2 : Nat, 8193 < L2 ∧ ∀ W, Below w.heap.size w W → Calls Tryz.prog 11 #[cmdV ⟨[97], 5, b2, [], 0, 0, false, 0, []⟩ (.slice none 0 0) (.slice none 0 0)] W fun e w' => ∃ A cp, e = .returned (.tuple #[.slice A L2 cp, .bool true]) ∧ Below W.heap.size W w' := by
    obtain ⟨g1, g2, _⟩ := long_0 2 (by omega)
    refine ⟨_, g2, fun W hW => ?_⟩
    refine (print_any ⟨[97], 5, b2, [], 0, 0, false, 0, []⟩ none none 0 0 W (cmdIn_plain _ _ _ _) (hE.below hW) (by simp) (by simp) (by simp)).mono ?_
    intro e w' h
    unfold PrintP at h
    rw [hb2, show (⟨[97], 5, List.replicate 8193 0, [], 0, 0, false, 0, []⟩ : Cmd) = longD (8191 + 2) from rfl, g1] at h
    obtain ⟨hb, v, he, N, cp, rfl, _⟩ := h
    exact ⟨_, _, he, hb⟩
  have hl2 : ∀ W, Below w.heap.size w W → Calls Tryz.prog 14 #[cmdV ⟨[97], 5, b2, [], 0, 0, false, 0, []⟩ (.slice none 0 0) (.slice none 0 0)] W fun e w' => e = .returned (.int .i64 1) ∧ Below W.heap.size W w' := by
    intro W hW
    have h := literals_any ⟨[97], 5, b2, [], 0, 0, false, 0, []⟩ none none 0 0 W (cmdIn_plain _ _ _ _) (hE.below hW) (by simp) (by simp) (by simp)
    obtain ⟨_, _, g3⟩ := long_0 2 (by omega)
    rw [show literalsOf ⟨[97], 5, b2, [], 0, 0, false, 0, []⟩ = 1 by rw [hb2]; exact g3] at h
    exact h
  have hal : ∀ W, Below w.heap.size w W → Calls Tryz.prog 10 #[] W fun e w' => e = .returned (.bool true) ∧ Below W.heap.size W w' := fun W hW => alive_any W (hE.below hW)
  obtain ⟨L2, hL2, hp2⟩ := hp2
  have hL : (8193 : Int) < (L2 : Int) := by omega
  unfold cmdV at hp1 hp2 hl2
  simp only at hp1 hp2 hl2
  have HR := Lib.hid (And.intro hr1 hr2)
  have HP := Lib.hid (And.intro hp1 (And.intro hp2 (And.intro hl2 hal)))
  clear hr1 hr2 hp1 hp2 hl2 hal hb1 hb2 hE hL2
  go_enter Tryz.func5, Tryz.ntmps5
  go_wp2_with fail
  refine (HR.out.1 _).mono ?_
  rintro e w1 ⟨rfl, h1⟩
  go_wp2_with fail
  obtain ⟨o1, ho1⟩ : ∃ o, o = Obj.cells #[.string ⟨#[97]⟩, .int .i64 5, .string ⟨b1.toArray⟩, .slice none 0 0, .int .i64 0, .int .i64 0, .bool false, .int .u8 0, .slice none 0 0] 26 (0, 0) := ⟨_, rfl⟩
  rw [← ho1]
  have q1 : PSt w1 o1 (w1.alloc o1) := ⟨(Below.refl _ _).alloc (Nat.le_refl _) _, World.alloc_heap_new _ _, by simp⟩
  have k1 : Below w.heap.size w (w1.alloc o1) := h1.trans (q1.bel.mono h1.size)
  have HO1 := Lib.hid ho1
  have H1 := Lib.hid (And.intro k1 q1)
  clear q1 k1 ho1
  refine (HP.out.1 _ H1.out.1).mono ?_
  rintro e w2 ⟨A2, c2, rfl, h2⟩
  have k2 : Below w.heap.size w w2 := H1.out.1.trans (h2.mono H1.out.1.size)
  have H2 := Lib.hid k2
  clear h2 k2
  go_wp2_with fail
  refine (HR.out.2 _).mono ?_
  rintro e w3 ⟨rfl, h3⟩
  have k3 : Below w.heap.size w w3 := H2.out.trans (h3.mono H2.out.size)
  have H3 := Lib.hid k3
  clear h3 k3
  go_wp2_with fail
  obtain ⟨o2, ho2⟩ : ∃ o, o = Obj.cells #[.string ⟨#[97]⟩, .int .i64 5, .string ⟨b2.toArray⟩, .slice none 0 0, .int .i64 0, .int .i64 0, .bool false, .int .u8 0, .slice none 0 0] 26 (0, 0) := ⟨_, rfl⟩
  rw [← ho2]
  have q2 : PSt w3 o2 (w3.alloc o2) := ⟨(Below.refl _ _).alloc (Nat.le_refl _) _, World.alloc_heap_new _ _, by simp⟩
  have k4 : Below w.heap.size w (w3.alloc o2) := H3.out.trans (q2.bel.mono H3.out.size)
  have HO2 := Lib.hid ho2
  have H4 := Lib.hid (And.intro k4 q2)
  clear q2 k4 ho2
  refine (HP.out.2.1 _ H4.out.1).mono ?_
  rintro e w5 ⟨A5, c5, rfl, h5⟩
  have k5 : Below w.heap.size w w5 := H4.out.1.trans (h5.mono H4.out.1.size)
  have q5 := H4.out.2.below h5
  have H5 := Lib.hid (And.intro k5 q5)
  clear h5 k5 q5
  go_wp2_with fail
  refine (HP.out.2.2.2 _ H5.out.1).mono ?_
  rintro e w6 ⟨rfl, h6⟩
  have k6 : Below w.heap.size w w6 := H5.out.1.trans (h6.mono H5.out.1.size)
  have q6 := H5.out.2.below h6
  have hbx := q6.box
  rw [HO2.out] at hbx
  obtain ⟨x0, x1, x2, x3, x4, x5, x6, x7, x8⟩ := BoxC.of (Below.refl _ w6) (by have := q6.size; omega) hbx
  have H6 := Lib.hid k6
  clear h6 k6 q6 hbx
  go_wp2_with fail
  refine (HP.out.2.2.1 _ H6.out).mono ?_
  rintro e w7 ⟨rfl, h7⟩
  have k7 : Below w.heap.size w w7 := H6.out.trans (h7.mono H6.out.size)
  have H7 := Lib.hid k7
  clear h7 k7
  go_wp2_with fail
  go_ret
  exact ⟨rfl, H7.out⟩

theorem long_any (x : Int) (hx0 : 0 ≤ x) (hx1 : x ≤ 255) (w : World) (hE : Env w) :
    Calls Tryz.prog 5 #[.int .u8 x] w fun e w' => e = .returned (.bool true) ∧ Below w.heap.size w w' := by
  have h3 : x % 3 = 0 ∨ x % 3 = 1 ∨ x % 3 = 2 := by omega
  rcases h3 with h | h | h
  · exact longw_0 x hx0 hx1 h w hE
  · exact longw_1 x hx0 hx1 h w hE
  · exact longw_2 x hx0 hx1 h w hE
end Go.Proofs.YtkdnfjafabgioaaGreatDoor.Own
