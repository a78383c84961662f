import Derived.Test.YtkdnfjafabgioaaGreatDoorA30
set_option linter.unusedVariables false
set_option linter.unusedSimpArgs false
namespace Go.Proofs.YtkdnfjafabgioaaGreatDoor.Own
open Go.RowKit Go.Shelf

/-- The head of Valid: tag, verb, flags, sizes. -/
def okHead (c : Cmd) : Bool := allB tagB c.tag && (decide (1 ≤ c.kind ∧ c.kind ≤ 8) && (decide (c.flags ≤ 31) && (decide (c.box.length ≤ 65536) && decide (c.data.length ≤ 65536))))
/-- All fields but tag and kind are zero. -/
def zeroC (c : Cmd) : Bool := decide (c.box = []) && (decide (c.set = []) && (decide (c.items = 0) && (decide (c.mode = 0) && (decide (c.silent = false) && (decide (c.flags = 0) && decide (c.data = []))))))
/-- The fields of the kind, made zero. -/
def restOf (c : Cmd) : Cmd :=
  if c.kind = 5 then { c with box := [] }
  else if c.kind = 6 then { c with box := [], flags := 0, data := [] }
  else if c.kind = 7 then { c with set := [], items := 0 }
  else if c.kind = 8 then { c with set := [], mode := 0, silent := false, flags := 0 }
  else c
/-- The kind's own conditions. -/
def okKind (c : Cmd) : Bool :=
  if c.kind = 7 then !decide (c.set = []) && (decide (1 ≤ c.items) && decide (c.items ≤ 31))
  else if c.kind = 8 then !decide (c.set = []) && (decide (0 ≤ c.mode) && decide (c.mode ≤ 2))
  else true
def validOf (c : Cmd) : Bool := okHead c && (okKind c && zeroC (restOf c))

/-- Same, at a command whose tag and kind are zero, against the zero command. -/
theorem same_zero (c : Cmd) (SV DV : Value) (w : World) (h : CmdIn w c SV DV) (hs : c.set.length ≤ 1000000000) :
    Calls Tryz.prog 54 #[.agg #[.string ⟨#[]⟩, .int .i64 0, .string ⟨c.box.toArray⟩, SV, .int .i64 c.items, .int .i64 c.mode, .bool c.silent, .int .u8 (c.flags : Int), DV], .agg #[.string ⟨#[]⟩, .int .i64 0, .string ⟨#[]⟩, .slice none 0 0, .int .i64 0, .int .i64 0, .bool false, .int .u8 0, .slice none 0 0]] w
      fun e w' => e = .returned (.bool (zeroC c)) ∧ Below w.heap.size w w' := by
  refine (same_any { c with tag := [], kind := 0 } ⟨[], 0, [], [], 0, 0, false, 0, []⟩ SV (.slice none 0 0) DV (.slice none 0 0) w ⟨h.set, h.data, h.nilS, h.nilD⟩ ⟨⟨none, 0, rfl, Nat.le_refl _, CellsIn.nil _ _ _⟩, ⟨none, 0, rfl, Nat.le_refl _, Byt.nil _ _⟩, fun cp e => by cases e; exact ⟨rfl, rfl⟩, fun cp e => by cases e; exact ⟨rfl, rfl⟩⟩ hs).mono ?_
  rintro e w' ⟨rfl, hb⟩
  exact ⟨by unfold zeroC; simp, hb⟩
theorem CmdIn.below {w w' : World} {c : Cmd} {SV DV : Value} (h : CmdIn w c SV DV) (hb : Below w.heap.size w w') : CmdIn w' c SV DV := by
  obtain ⟨⟨A, cp, e1, h1, h2⟩, ⟨D, dc, e2, h3, h4⟩, h5, h6⟩ := h
  exact ⟨⟨A, cp, e1, h1, h2.below hb⟩, ⟨D, dc, e2, h3, h4.below hb⟩, h5, h6⟩
theorem CmdIn.sub {w : World} {c : Cmd} {SV DV : Value} (h : CmdIn w c SV DV) (c' : Cmd) (SV' DV' : Value) (hs : (c'.set = c.set ∧ SV' = SV) ∨ (c'.set = [] ∧ SV' = .slice none 0 0)) (hd : (c'.data = c.data ∧ DV' = DV) ∨ (c'.data = [] ∧ DV' = .slice none 0 0)) : CmdIn w c' SV' DV' := by
  refine ⟨?_, ?_, ?_, ?_⟩
  · rcases hs with ⟨e, rfl⟩ | ⟨e, rfl⟩
    · rw [e]; exact h.set
    · rw [e]; exact ⟨none, 0, rfl, Nat.le_refl _, CellsIn.nil _ _ _⟩
  · rcases hd with ⟨e, rfl⟩ | ⟨e, rfl⟩
    · rw [e]; exact h.data
    · rw [e]; exact ⟨none, 0, rfl, Nat.le_refl _, Byt.nil _ _⟩
  · rcases hs with ⟨e, rfl⟩ | ⟨e, rfl⟩
    · rw [e]; exact h.nilS
    · rw [e]; intro cp e2; cases e2; exact ⟨rfl, rfl⟩
  · rcases hd with ⟨e, rfl⟩ | ⟨e, rfl⟩
    · rw [e]; exact h.nilD
    · rw [e]; intro cp e2; cases e2; exact ⟨rfl, rfl⟩
theorem below_own {a w : World} (h : Below a.heap.size a w) (j : Nat) (v : Value) : Below a.heap.size a (w.setCell ⟨a.heap.size, j, none⟩ v) := h.setCell (Nat.le_refl _) v
theorem okKind7 (c : Cmd) (h : c.kind = 7) (hs : ¬ c.set = []) (h1 : 1 ≤ c.items) (h2 : c.items ≤ 31) : okKind c = true := by
  unfold okKind
  rw [if_pos h, decide_eq_false hs, decide_eq_true h1, decide_eq_true h2]
  rfl
theorem okKind8 (c : Cmd) (h : c.kind = 8) (hs : ¬ c.set = []) (h1 : 0 ≤ c.mode) (h2 : c.mode ≤ 2) : okKind c = true := by
  unfold okKind
  rw [if_neg (by omega), if_pos h, decide_eq_false hs, decide_eq_true h1, decide_eq_true h2]
  rfl
theorem verb_empty (k : Int) : verbOf k = [] ↔ ¬ (1 ≤ k ∧ k ≤ 8) := by
  unfold verbOf
  constructor
  · intro h hk
    rw [if_pos hk] at h
    obtain ⟨j, hj⟩ := Int.eq_ofNat_of_zero_le (show 0 ≤ k - 1 by omega)
    have h2 : k.toNat - 1 = j := by omega
    rw [h2] at h
    have hj8 : j < 8 := by omega
    have : ∀ j : Fin 8, verbNames.getD j.val [] ≠ [] := by decide
    exact this ⟨j, hj8⟩ h
  · intro h; rw [if_neg h]

/-- A boxed command's cells. -/
structure BoxC (w' : World) (b : Nat) (v0 v1 v2 v3 v4 v5 v6 v7 v8 : Value) : Prop where
  c0 : w'.cell? ⟨b, 0, none⟩ = some v0
  c1 : w'.cell? ⟨b, 1, none⟩ = some v1
  c2 : w'.cell? ⟨b, 2, none⟩ = some v2
  c3 : w'.cell? ⟨b, 3, none⟩ = some v3
  c4 : w'.cell? ⟨b, 4, none⟩ = some v4
  c5 : w'.cell? ⟨b, 5, none⟩ = some v5
  c6 : w'.cell? ⟨b, 6, none⟩ = some v6
  c7 : w'.cell? ⟨b, 7, none⟩ = some v7
  c8 : w'.cell? ⟨b, 8, none⟩ = some v8
  fr : ∀ j, w'.frozen? ⟨b, j, none⟩ = false
theorem BoxC.of {W w' : World} {b : Nat} {v0 v1 v2 v3 v4 v5 v6 v7 v8 : Value} (hb : Below W.heap.size W w') (hz : b < W.heap.size) (h : W.heap[b]? = some (.cells #[v0, v1, v2, v3, v4, v5, v6, v7, v8] 26)) : BoxC w' b v0 v1 v2 v3 v4 v5 v6 v7 v8 := by
  have h' := (hb.block b hz).trans h
  constructor <;> first | (intro j; simp [World.frozen?, h']) | simp [World.cell?, h']

set_option maxRecDepth 100000 in
set_option maxHeartbeats 3200000 in
theorem valid_any (c : Cmd) (SV DV : Value) (w : World) (h : CmdIn w c SV DV) (hE : Env w) (ht : c.tag.length ≤ 1000000000) (hs : c.set.length ≤ 1000000000) :
    Calls Tryz.prog 27 #[cmdV c SV DV] w fun e w' => e = .returned (.bool (validOf c)) ∧ Below w.heap.size w w' := by
  obtain ⟨X, hX⟩ : ∃ X, X = w.alloc (.cells #[.string ⟨c.tag.toArray⟩, .int .i64 c.kind, .string ⟨c.box.toArray⟩, SV, .int .i64 c.items, .int .i64 c.mode, .bool c.silent, .int .u8 (c.flags : Int), DV] 26) := ⟨_, rfl⟩
  have hbX : Below w.heap.size w X := by rw [hX]; exact (Below.refl _ _).alloc (Nat.le_refl _) _
  have htag : Calls Tryz.prog 52 #[.string ⟨c.tag.toArray⟩, .func (.func 53) #[] #[]] X fun e w' => e = .returned (.bool (allB tagB c.tag)) ∧ Below X.heap.size X w' := all_tag ⟨c.tag.toArray⟩ (by rw [bsz]; unfold maxLen; omega) X
  have hvb : ∀ W, Below w.heap.size w W → Calls Tryz.prog 28 #[.int .i64 c.kind] W fun e w' => e = .returned (.string ⟨(verbOf c.kind).toArray⟩) ∧ Below W.heap.size W w' := fun W hW => verb_any c.kind W (hE.below hW)
  obtain ⟨sA, sc, rfl, hsc, hsA⟩ := h.set
  obtain ⟨dA, dc, rfl, hdc, hdA⟩ := h.data
  obtain ⟨tag, kind, box, set, items, mode, silent, flags, data⟩ := c
  simp only at *
  unfold cmdV
  simp only
  obtain ⟨R, hR⟩ : ∃ R, R = validOf ⟨tag, kind, box, set, items, mode, silent, flags, data⟩ := ⟨_, rfl⟩
  rw [← hR]
  have HR := Lib.hid hR
  have HH := Lib.hid h
  have HT := Lib.hid htag
  have HV := Lib.hid hvb
  have HX := Lib.hid (And.intro hX hbX)
  clear hR h htag hvb hX hbX hE hsA hdA
  by_cases h1 : allB tagB tag = true
  · have ht1 := HT.out
    rw [h1] at ht1
    have HT1 := Lib.hid ht1
    have H1 := Lib.hid h1
    clear ht1 h1
    obtain ⟨V, hV⟩ : ∃ V, V = verbOf kind := ⟨_, rfl⟩
    have hvb := HV.out
    rw [← hV] at hvb
    have HVB := Lib.hid hvb
    have HVV := Lib.hid hV
    clear hvb hV
    by_cases h2 : V = []
    · subst h2
      go_enter Tryz.func27, Tryz.ntmps27
      go_wp2_with fail
      rw [← HX.out.1]
      refine HT1.out.mono ?_
      rintro e w1 ⟨rfl, hb1⟩
      have hw1 : Below w.heap.size w w1 := HX.out.2.trans (hb1.mono HX.out.2.size)
      have b1 : BoxC w1 w.heap.size _ _ _ _ _ _ _ _ _ := BoxC.of hb1 (by rw [HX.out.1]; simp) (by rw [HX.out.1]; exact World.alloc_heap_new w _)
      have c1 := b1.c1
      have HB1 := Lib.hid (And.intro hw1 (And.intro hb1 b1))
      clear hw1 hb1 b1
      go_wp2_with fail
      refine (HVB.out _ HB1.out.1).mono ?_
      rintro e w2 ⟨rfl, hb2⟩
      have hw2 : Below w.heap.size w w2 := HB1.out.1.trans (hb2.mono HB1.out.1.size)
      have b2 : BoxC w2 w.heap.size _ _ _ _ _ _ _ _ _ := BoxC.of (HB1.out.2.1.trans (hb2.mono HB1.out.2.1.size)) (by rw [HX.out.1]; simp) (by rw [HX.out.1]; exact World.alloc_heap_new w _)
      have HB2 := Lib.hid hw2
      clear hw2 b2 hb2 c1
      go_wp2_with fail
      go_ret
      exact ⟨by rw [HR.out]; unfold validOf okHead; rw [decide_eq_false ((verb_empty kind).1 HVV.out.symm)]; simp, HB2.out⟩
    · have hk8 : 1 ≤ kind ∧ kind ≤ 8 := by
        rcases Classical.em (1 ≤ kind ∧ kind ≤ 8) with h | h
        · exact h
        · exact absurd (HVV.out.trans ((verb_empty kind).2 h)) h2
      have HK8 := Lib.hid hk8
      have hve : V.isEmpty = false := by cases V with
        | nil => exact absurd rfl h2
        | cons a r => rfl
      clear h2
      by_cases h3 : flags ≤ 31
      · have g3 : decide ((31 : Int) < (flags : Int)) = false := by simp; omega
        by_cases h4 : box.length ≤ 65536 ∧ data.length ≤ 65536
        · have g4 : decide ((65536 : Int) < max (box.length : Int) (data.length : Int)) = false := by simp; omega
          have hok : validOf ⟨tag, kind, box, set, items, mode, silent, flags, data⟩ = (okKind ⟨tag, kind, box, set, items, mode, silent, flags, data⟩ && zeroC (restOf ⟨tag, kind, box, set, items, mode, silent, flags, data⟩)) := by
            unfold validOf okHead
            simp only
            rw [H1.out, decide_eq_true HK8.out, decide_eq_true h3, decide_eq_true h4.1, decide_eq_true h4.2]
            rfl
          have HO := Lib.hid hok
          clear hok h4 h3
          by_cases e5 : kind = 5
          · subst e5
            clear hk8
            go_enter Tryz.func27, Tryz.ntmps27
            go_wp2_with fail
            rw [← HX.out.1]
            refine HT1.out.mono ?_
            rintro e w1 ⟨rfl, hb1⟩
            have hw1 : Below w.heap.size w w1 := HX.out.2.trans (hb1.mono HX.out.2.size)
            have b1 : BoxC w1 w.heap.size _ _ _ _ _ _ _ _ _ := BoxC.of hb1 (by rw [HX.out.1]; simp) (by rw [HX.out.1]; exact World.alloc_heap_new w _)
            have c1 := b1.c1
            have HB1 := Lib.hid (And.intro hw1 (And.intro hb1 b1))
            clear hw1 hb1 b1
            go_wp2_with fail
            refine (HVB.out _ HB1.out.1).mono ?_
            rintro e w2 ⟨rfl, hb2⟩
            have hw2 : Below w.heap.size w w2 := HB1.out.1.trans (hb2.mono HB1.out.1.size)
            have b2 : BoxC w2 w.heap.size _ _ _ _ _ _ _ _ _ := BoxC.of (HB1.out.2.1.trans (hb2.mono HB1.out.2.1.size)) (by rw [HX.out.1]; simp) (by rw [HX.out.1]; exact World.alloc_heap_new w _)
            have c7 := b2.c7
            have c2 := b2.c2
            have c8 := b2.c8
            have HB2 := Lib.hid (And.intro hw2 b2)
            clear hw2 b2 hb2 c1
            have c0 := HB2.out.2.c0
            have c1 := HB2.out.2.c1
            have c3 := HB2.out.2.c3
            have c4 := HB2.out.2.c4
            have c5 := HB2.out.2.c5
            have c6 := HB2.out.2.c6
            have f0 := HB2.out.2.fr 0
            have f1 := HB2.out.2.fr 1
            have f2 := HB2.out.2.fr 2
            have f3 := HB2.out.2.fr 3
            have f4 := HB2.out.2.fr 4
            have f5 := HB2.out.2.fr 5
            have f6 := HB2.out.2.fr 6
            have f7 := HB2.out.2.fr 7
            have f8 := HB2.out.2.fr 8
            go_wp2_with fail
            refine (same_zero ⟨[], 0, [], set, items, mode, silent, flags, data⟩ (.slice sA set.length sc) (.slice dA data.length dc) _ (CmdIn.sub (CmdIn.below HH.out ?_) _ _ _ (.inl ⟨rfl, rfl⟩) (.inl ⟨rfl, rfl⟩)) hs).mono ?_
            · repeat refine below_own ?_ _ _
              exact HB2.out.1
            rintro e w3 ⟨rfl, hb3⟩
            have HB3 := Lib.hid hb3
            clear hb3
            go_wp2_with fail
            go_ret
            refine ⟨by rw [HR.out, HO.out]; rfl, Below.trans ?_ (HB3.out.mono ?_)⟩
            · repeat refine below_own ?_ _ _
              exact HB2.out.1
            · simp only [World.size_setCell]; exact HB2.out.1.size
          by_cases e6 : kind = 6
          · subst e6
            clear hk8 e5
            go_enter Tryz.func27, Tryz.ntmps27
            go_wp2_with fail
            rw [← HX.out.1]
            refine HT1.out.mono ?_
            rintro e w1 ⟨rfl, hb1⟩
            have hw1 : Below w.heap.size w w1 := HX.out.2.trans (hb1.mono HX.out.2.size)
            have b1 : BoxC w1 w.heap.size _ _ _ _ _ _ _ _ _ := BoxC.of hb1 (by rw [HX.out.1]; simp) (by rw [HX.out.1]; exact World.alloc_heap_new w _)
            have c1 := b1.c1
            have HB1 := Lib.hid (And.intro hw1 (And.intro hb1 b1))
            clear hw1 hb1 b1
            go_wp2_with fail
            refine (HVB.out _ HB1.out.1).mono ?_
            rintro e w2 ⟨rfl, hb2⟩
            have hw2 : Below w.heap.size w w2 := HB1.out.1.trans (hb2.mono HB1.out.1.size)
            have b2 : BoxC w2 w.heap.size _ _ _ _ _ _ _ _ _ := BoxC.of (HB1.out.2.1.trans (hb2.mono HB1.out.2.1.size)) (by rw [HX.out.1]; simp) (by rw [HX.out.1]; exact World.alloc_heap_new w _)
            have c7 := b2.c7
            have c2 := b2.c2
            have c8 := b2.c8
            have HB2 := Lib.hid (And.intro hw2 b2)
            clear hw2 b2 hb2 c1
            have c0 := HB2.out.2.c0
            have c1 := HB2.out.2.c1
            have c3 := HB2.out.2.c3
            have c4 := HB2.out.2.c4
            have c5 := HB2.out.2.c5
            have c6 := HB2.out.2.c6
            have f0 := HB2.out.2.fr 0
            have f1 := HB2.out.2.fr 1
            have f2 := HB2.out.2.fr 2
            have f3 := HB2.out.2.fr 3
            have f4 := HB2.out.2.fr 4
            have f5 := HB2.out.2.fr 5
            have f6 := HB2.out.2.fr 6
            have f7 := HB2.out.2.fr 7
            have f8 := HB2.out.2.fr 8
            go_wp2_with fail
            refine (same_zero ⟨[], 0, [], set, items, mode, silent, 0, []⟩ (.slice sA set.length sc) (.slice none 0 0) _ (CmdIn.sub (CmdIn.below HH.out ?_) _ _ _ (.inl ⟨rfl, rfl⟩) (.inr ⟨rfl, rfl⟩)) hs).mono ?_
            · repeat refine below_own ?_ _ _
              exact HB2.out.1
            rintro e w3 ⟨rfl, hb3⟩
            have HB3 := Lib.hid hb3
            clear hb3
            go_wp2_with fail
            go_ret
            refine ⟨by rw [HR.out, HO.out]; rfl, Below.trans ?_ (HB3.out.mono ?_)⟩
            · repeat refine below_own ?_ _ _
              exact HB2.out.1
            · simp only [World.size_setCell]; exact HB2.out.1.size
          by_cases e7 : kind = 7
          · subst e7
            clear hk8 e5 e6
            by_cases s0 : set = []
            · subst s0
              have HX := Lib.hid (And.intro (show X = w.alloc (.cells #[.string ⟨tag.toArray⟩, .int .i64 7, .string ⟨box.toArray⟩, .slice sA 0 sc, .int .i64 items, .int .i64 mode, .bool silent, .int .u8 (flags : Int), .slice dA data.length dc] 26) from HX.out.1) HX.out.2)
              go_enter Tryz.func27, Tryz.ntmps27
              go_wp2_with fail
              rw [← HX.out.1]
              refine HT1.out.mono ?_
              rintro e w1 ⟨rfl, hb1⟩
              have hw1 : Below w.heap.size w w1 := HX.out.2.trans (hb1.mono HX.out.2.size)
              have b1 : BoxC w1 w.heap.size _ _ _ _ _ _ _ _ _ := BoxC.of hb1 (by rw [HX.out.1]; simp) (by rw [HX.out.1]; exact World.alloc_heap_new w _)
              have c1 := b1.c1
              have HB1 := Lib.hid (And.intro hw1 (And.intro hb1 b1))
              clear hw1 hb1 b1
              go_wp2_with fail
              refine (HVB.out _ HB1.out.1).mono ?_
              rintro e w2 ⟨rfl, hb2⟩
              have hw2 : Below w.heap.size w w2 := HB1.out.1.trans (hb2.mono HB1.out.1.size)
              have b2 : BoxC w2 w.heap.size _ _ _ _ _ _ _ _ _ := BoxC.of (HB1.out.2.1.trans (hb2.mono HB1.out.2.1.size)) (by rw [HX.out.1]; simp) (by rw [HX.out.1]; exact World.alloc_heap_new w _)
              have c7 := b2.c7
              have c2 := b2.c2
              have c8 := b2.c8
              have HB2 := Lib.hid (And.intro hw2 b2)
              clear hw2 b2 hb2 c1
              have c0 := HB2.out.2.c0
              have c1 := HB2.out.2.c1
              have c3 := HB2.out.2.c3
              have c4 := HB2.out.2.c4
              have c5 := HB2.out.2.c5
              have c6 := HB2.out.2.c6
              have f0 := HB2.out.2.fr 0
              have f1 := HB2.out.2.fr 1
              have f2 := HB2.out.2.fr 2
              have f3 := HB2.out.2.fr 3
              have f4 := HB2.out.2.fr 4
              have f5 := HB2.out.2.fr 5
              have f6 := HB2.out.2.fr 6
              have f7 := HB2.out.2.fr 7
              have f8 := HB2.out.2.fr 8
              go_wp2_with fail
              go_ret
              refine ⟨by rw [HR.out]; rw [HO.out]; unfold okKind; simp, ?_⟩
              repeat refine below_own ?_ _ _
              exact HB2.out.1
            · have hse : set.isEmpty = false := by cases set with
                | nil => exact absurd rfl s0
                | cons a r => rfl
              have HS0 := Lib.hid s0
              have hl0 : ((set.length : Int) == 0) = false := by
                rw [beq_eq_false_iff_ne]
                have : 0 < set.length := List.length_pos_iff.2 s0
                omega
              by_cases i1 : 1 ≤ items
              · have gi1 : decide (items < 1) = false := by simp; omega
                by_cases i2 : items ≤ 31
                · have gi2 : decide ((31 : Int) < items) = false := by simp; omega
                  have HI := Lib.hid (And.intro i1 i2)
                  clear i1 i2
                  go_enter Tryz.func27, Tryz.ntmps27
                  go_wp2_with fail
                  rw [← HX.out.1]
                  refine HT1.out.mono ?_
                  rintro e w1 ⟨rfl, hb1⟩
                  have hw1 : Below w.heap.size w w1 := HX.out.2.trans (hb1.mono HX.out.2.size)
                  have b1 : BoxC w1 w.heap.size _ _ _ _ _ _ _ _ _ := BoxC.of hb1 (by rw [HX.out.1]; simp) (by rw [HX.out.1]; exact World.alloc_heap_new w _)
                  have c1 := b1.c1
                  have HB1 := Lib.hid (And.intro hw1 (And.intro hb1 b1))
                  clear hw1 hb1 b1
                  go_wp2_with fail
                  refine (HVB.out _ HB1.out.1).mono ?_
                  rintro e w2 ⟨rfl, hb2⟩
                  have hw2 : Below w.heap.size w w2 := HB1.out.1.trans (hb2.mono HB1.out.1.size)
                  have b2 : BoxC w2 w.heap.size _ _ _ _ _ _ _ _ _ := BoxC.of (HB1.out.2.1.trans (hb2.mono HB1.out.2.1.size)) (by rw [HX.out.1]; simp) (by rw [HX.out.1]; exact World.alloc_heap_new w _)
                  have c7 := b2.c7
                  have c2 := b2.c2
                  have c8 := b2.c8
                  have HB2 := Lib.hid (And.intro hw2 b2)
                  clear hw2 b2 hb2 c1
                  have c0 := HB2.out.2.c0
                  have c1 := HB2.out.2.c1
                  have c3 := HB2.out.2.c3
                  have c4 := HB2.out.2.c4
                  have c5 := HB2.out.2.c5
                  have c6 := HB2.out.2.c6
                  have f0 := HB2.out.2.fr 0
                  have f1 := HB2.out.2.fr 1
                  have f2 := HB2.out.2.fr 2
                  have f3 := HB2.out.2.fr 3
                  have f4 := HB2.out.2.fr 4
                  have f5 := HB2.out.2.fr 5
                  have f6 := HB2.out.2.fr 6
                  have f7 := HB2.out.2.fr 7
                  have f8 := HB2.out.2.fr 8
                  go_wp2_with fail
                  refine (same_zero ⟨[], 0, box, [], 0, mode, silent, flags, data⟩ (.slice none 0 0) (.slice dA data.length dc) _ (CmdIn.sub (CmdIn.below HH.out ?_) _ _ _ (.inr ⟨rfl, rfl⟩) (.inl ⟨rfl, rfl⟩)) (by simp)).mono ?_
                  · repeat refine below_own ?_ _ _
                    exact HB2.out.1
                  rintro e w3 ⟨rfl, hb3⟩
                  have HB3 := Lib.hid hb3
                  clear hb3
                  go_wp2_with fail
                  go_ret
                  refine ⟨by rw [HR.out, HO.out]; rw [okKind7 _ rfl HS0.out HI.out.1 HI.out.2]; rfl, Below.trans ?_ (HB3.out.mono ?_)⟩
                  · repeat refine below_own ?_ _ _
                    exact HB2.out.1
                  · simp only [World.size_setCell]; exact HB2.out.1.size
                · have gi2 : decide ((31 : Int) < items) = true := by simp; omega
                  have HI := Lib.hid i2
                  clear i2 i1
                  go_enter Tryz.func27, Tryz.ntmps27
                  go_wp2_with fail
                  rw [← HX.out.1]
                  refine HT1.out.mono ?_
                  rintro e w1 ⟨rfl, hb1⟩
                  have hw1 : Below w.heap.size w w1 := HX.out.2.trans (hb1.mono HX.out.2.size)
                  have b1 : BoxC w1 w.heap.size _ _ _ _ _ _ _ _ _ := BoxC.of hb1 (by rw [HX.out.1]; simp) (by rw [HX.out.1]; exact World.alloc_heap_new w _)
                  have c1 := b1.c1
                  have HB1 := Lib.hid (And.intro hw1 (And.intro hb1 b1))
                  clear hw1 hb1 b1
                  go_wp2_with fail
                  refine (HVB.out _ HB1.out.1).mono ?_
                  rintro e w2 ⟨rfl, hb2⟩
                  have hw2 : Below w.heap.size w w2 := HB1.out.1.trans (hb2.mono HB1.out.1.size)
                  have b2 : BoxC w2 w.heap.size _ _ _ _ _ _ _ _ _ := BoxC.of (HB1.out.2.1.trans (hb2.mono HB1.out.2.1.size)) (by rw [HX.out.1]; simp) (by rw [HX.out.1]; exact World.alloc_heap_new w _)
                  have c7 := b2.c7
                  have c2 := b2.c2
                  have c8 := b2.c8
                  have HB2 := Lib.hid (And.intro hw2 b2)
                  clear hw2 b2 hb2 c1
                  have c0 := HB2.out.2.c0
                  have c1 := HB2.out.2.c1
                  have c3 := HB2.out.2.c3
                  have c4 := HB2.out.2.c4
                  have c5 := HB2.out.2.c5
                  have c6 := HB2.out.2.c6
                  have f0 := HB2.out.2.fr 0
                  have f1 := HB2.out.2.fr 1
                  have f2 := HB2.out.2.fr 2
                  have f3 := HB2.out.2.fr 3
                  have f4 := HB2.out.2.fr 4
                  have f5 := HB2.out.2.fr 5
                  have f6 := HB2.out.2.fr 6
                  have f7 := HB2.out.2.fr 7
                  have f8 := HB2.out.2.fr 8
                  go_wp2_with fail
                  go_ret
                  refine ⟨by rw [HR.out]; rw [HO.out]; unfold okKind; have := HI.out; simp; intros; omega, ?_⟩
                  repeat refine below_own ?_ _ _
                  exact HB2.out.1
              · have gi1 : decide (items < 1) = true := by simp; omega
                have HI := Lib.hid i1
                clear i1
                go_enter Tryz.func27, Tryz.ntmps27
                go_wp2_with fail
                rw [← HX.out.1]
                refine HT1.out.mono ?_
                rintro e w1 ⟨rfl, hb1⟩
                have hw1 : Below w.heap.size w w1 := HX.out.2.trans (hb1.mono HX.out.2.size)
                have b1 : BoxC w1 w.heap.size _ _ _ _ _ _ _ _ _ := BoxC.of hb1 (by rw [HX.out.1]; simp) (by rw [HX.out.1]; exact World.alloc_heap_new w _)
                have c1 := b1.c1
                have HB1 := Lib.hid (And.intro hw1 (And.intro hb1 b1))
                clear hw1 hb1 b1
                go_wp2_with fail
                refine (HVB.out _ HB1.out.1).mono ?_
                rintro e w2 ⟨rfl, hb2⟩
                have hw2 : Below w.heap.size w w2 := HB1.out.1.trans (hb2.mono HB1.out.1.size)
                have b2 : BoxC w2 w.heap.size _ _ _ _ _ _ _ _ _ := BoxC.of (HB1.out.2.1.trans (hb2.mono HB1.out.2.1.size)) (by rw [HX.out.1]; simp) (by rw [HX.out.1]; exact World.alloc_heap_new w _)
                have c7 := b2.c7
                have c2 := b2.c2
                have c8 := b2.c8
                have HB2 := Lib.hid (And.intro hw2 b2)
                clear hw2 b2 hb2 c1
                have c0 := HB2.out.2.c0
                have c1 := HB2.out.2.c1
                have c3 := HB2.out.2.c3
                have c4 := HB2.out.2.c4
                have c5 := HB2.out.2.c5
                have c6 := HB2.out.2.c6
                have f0 := HB2.out.2.fr 0
                have f1 := HB2.out.2.fr 1
                have f2 := HB2.out.2.fr 2
                have f3 := HB2.out.2.fr 3
                have f4 := HB2.out.2.fr 4
                have f5 := HB2.out.2.fr 5
                have f6 := HB2.out.2.fr 6
                have f7 := HB2.out.2.fr 7
                have f8 := HB2.out.2.fr 8
                go_wp2_with fail
                go_ret
                refine ⟨by rw [HR.out]; rw [HO.out]; unfold okKind; have := HI.out; simp; intros; omega, ?_⟩
                repeat refine below_own ?_ _ _
                exact HB2.out.1
          by_cases e8 : kind = 8
          · subst e8
            clear hk8 e5 e6 e7
            by_cases s0 : set = []
            · subst s0
              have HX := Lib.hid (And.intro (show X = w.alloc (.cells #[.string ⟨tag.toArray⟩, .int .i64 8, .string ⟨box.toArray⟩, .slice sA 0 sc, .int .i64 items, .int .i64 mode, .bool silent, .int .u8 (flags : Int), .slice dA data.length dc] 26) from HX.out.1) HX.out.2)
              go_enter Tryz.func27, Tryz.ntmps27
              go_wp2_with fail
              rw [← HX.out.1]
              refine HT1.out.mono ?_
              rintro e w1 ⟨rfl, hb1⟩
              have hw1 : Below w.heap.size w w1 := HX.out.2.trans (hb1.mono HX.out.2.size)
              have b1 : BoxC w1 w.heap.size _ _ _ _ _ _ _ _ _ := BoxC.of hb1 (by rw [HX.out.1]; simp) (by rw [HX.out.1]; exact World.alloc_heap_new w _)
              have c1 := b1.c1
              have HB1 := Lib.hid (And.intro hw1 (And.intro hb1 b1))
              clear hw1 hb1 b1
              go_wp2_with fail
              refine (HVB.out _ HB1.out.1).mono ?_
              rintro e w2 ⟨rfl, hb2⟩
              have hw2 : Below w.heap.size w w2 := HB1.out.1.trans (hb2.mono HB1.out.1.size)
              have b2 : BoxC w2 w.heap.size _ _ _ _ _ _ _ _ _ := BoxC.of (HB1.out.2.1.trans (hb2.mono HB1.out.2.1.size)) (by rw [HX.out.1]; simp) (by rw [HX.out.1]; exact World.alloc_heap_new w _)
              have c7 := b2.c7
              have c2 := b2.c2
              have c8 := b2.c8
              have HB2 := Lib.hid (And.intro hw2 b2)
              clear hw2 b2 hb2 c1
              have c0 := HB2.out.2.c0
              have c1 := HB2.out.2.c1
              have c3 := HB2.out.2.c3
              have c4 := HB2.out.2.c4
              have c5 := HB2.out.2.c5
              have c6 := HB2.out.2.c6
              have f0 := HB2.out.2.fr 0
              have f1 := HB2.out.2.fr 1
              have f2 := HB2.out.2.fr 2
              have f3 := HB2.out.2.fr 3
              have f4 := HB2.out.2.fr 4
              have f5 := HB2.out.2.fr 5
              have f6 := HB2.out.2.fr 6
              have f7 := HB2.out.2.fr 7
              have f8 := HB2.out.2.fr 8
              go_wp2_with fail
              go_ret
              refine ⟨by rw [HR.out]; rw [HO.out]; unfold okKind; simp, ?_⟩
              repeat refine below_own ?_ _ _
              exact HB2.out.1
            · have hse : set.isEmpty = false := by cases set with
                | nil => exact absurd rfl s0
                | cons a r => rfl
              have HS0 := Lib.hid s0
              have hl0 : ((set.length : Int) == 0) = false := by
                rw [beq_eq_false_iff_ne]
                have : 0 < set.length := List.length_pos_iff.2 s0
                omega
              by_cases i1 : 0 ≤ mode
              · have gi1 : decide (mode < 0) = false := by simp; omega
                by_cases i2 : mode ≤ 2
                · have gi2 : decide ((2 : Int) < mode) = false := by simp; omega
                  have HI := Lib.hid (And.intro i1 i2)
                  clear i1 i2
                  go_enter Tryz.func27, Tryz.ntmps27
                  go_wp2_with fail
                  rw [← HX.out.1]
                  refine HT1.out.mono ?_
                  rintro e w1 ⟨rfl, hb1⟩
                  have hw1 : Below w.heap.size w w1 := HX.out.2.trans (hb1.mono HX.out.2.size)
                  have b1 : BoxC w1 w.heap.size _ _ _ _ _ _ _ _ _ := BoxC.of hb1 (by rw [HX.out.1]; simp) (by rw [HX.out.1]; exact World.alloc_heap_new w _)
                  have c1 := b1.c1
                  have HB1 := Lib.hid (And.intro hw1 (And.intro hb1 b1))
                  clear hw1 hb1 b1
                  go_wp2_with fail
                  refine (HVB.out _ HB1.out.1).mono ?_
                  rintro e w2 ⟨rfl, hb2⟩
                  have hw2 : Below w.heap.size w w2 := HB1.out.1.trans (hb2.mono HB1.out.1.size)
                  have b2 : BoxC w2 w.heap.size _ _ _ _ _ _ _ _ _ := BoxC.of (HB1.out.2.1.trans (hb2.mono HB1.out.2.1.size)) (by rw [HX.out.1]; simp) (by rw [HX.out.1]; exact World.alloc_heap_new w _)
                  have c7 := b2.c7
                  have c2 := b2.c2
                  have c8 := b2.c8
                  have HB2 := Lib.hid (And.intro hw2 b2)
                  clear hw2 b2 hb2 c1
                  have c0 := HB2.out.2.c0
                  have c1 := HB2.out.2.c1
                  have c3 := HB2.out.2.c3
                  have c4 := HB2.out.2.c4
                  have c5 := HB2.out.2.c5
                  have c6 := HB2.out.2.c6
                  have f0 := HB2.out.2.fr 0
                  have f1 := HB2.out.2.fr 1
                  have f2 := HB2.out.2.fr 2
                  have f3 := HB2.out.2.fr 3
                  have f4 := HB2.out.2.fr 4
                  have f5 := HB2.out.2.fr 5
                  have f6 := HB2.out.2.fr 6
                  have f7 := HB2.out.2.fr 7
                  have f8 := HB2.out.2.fr 8
                  go_wp2_with fail
                  refine (same_zero ⟨[], 0, box, [], items, 0, false, 0, data⟩ (.slice none 0 0) (.slice dA data.length dc) _ (CmdIn.sub (CmdIn.below HH.out ?_) _ _ _ (.inr ⟨rfl, rfl⟩) (.inl ⟨rfl, rfl⟩)) (by simp)).mono ?_
                  · repeat refine below_own ?_ _ _
                    exact HB2.out.1
                  rintro e w3 ⟨rfl, hb3⟩
                  have HB3 := Lib.hid hb3
                  clear hb3
                  go_wp2_with fail
                  go_ret
                  refine ⟨by rw [HR.out, HO.out]; rw [okKind8 _ rfl HS0.out HI.out.1 HI.out.2]; rfl, Below.trans ?_ (HB3.out.mono ?_)⟩
                  · repeat refine below_own ?_ _ _
                    exact HB2.out.1
                  · simp only [World.size_setCell]; exact HB2.out.1.size
                · have gi2 : decide ((2 : Int) < mode) = true := by simp; omega
                  have HI := Lib.hid i2
                  clear i2 i1
                  go_enter Tryz.func27, Tryz.ntmps27
                  go_wp2_with fail
                  rw [← HX.out.1]
                  refine HT1.out.mono ?_
                  rintro e w1 ⟨rfl, hb1⟩
                  have hw1 : Below w.heap.size w w1 := HX.out.2.trans (hb1.mono HX.out.2.size)
                  have b1 : BoxC w1 w.heap.size _ _ _ _ _ _ _ _ _ := BoxC.of hb1 (by rw [HX.out.1]; simp) (by rw [HX.out.1]; exact World.alloc_heap_new w _)
                  have c1 := b1.c1
                  have HB1 := Lib.hid (And.intro hw1 (And.intro hb1 b1))
                  clear hw1 hb1 b1
                  go_wp2_with fail
                  refine (HVB.out _ HB1.out.1).mono ?_
                  rintro e w2 ⟨rfl, hb2⟩
                  have hw2 : Below w.heap.size w w2 := HB1.out.1.trans (hb2.mono HB1.out.1.size)
                  have b2 : BoxC w2 w.heap.size _ _ _ _ _ _ _ _ _ := BoxC.of (HB1.out.2.1.trans (hb2.mono HB1.out.2.1.size)) (by rw [HX.out.1]; simp) (by rw [HX.out.1]; exact World.alloc_heap_new w _)
                  have c7 := b2.c7
                  have c2 := b2.c2
                  have c8 := b2.c8
                  have HB2 := Lib.hid (And.intro hw2 b2)
                  clear hw2 b2 hb2 c1
                  have c0 := HB2.out.2.c0
                  have c1 := HB2.out.2.c1
                  have c3 := HB2.out.2.c3
                  have c4 := HB2.out.2.c4
                  have c5 := HB2.out.2.c5
                  have c6 := HB2.out.2.c6
                  have f0 := HB2.out.2.fr 0
                  have f1 := HB2.out.2.fr 1
                  have f2 := HB2.out.2.fr 2
                  have f3 := HB2.out.2.fr 3
                  have f4 := HB2.out.2.fr 4
                  have f5 := HB2.out.2.fr 5
                  have f6 := HB2.out.2.fr 6
                  have f7 := HB2.out.2.fr 7
                  have f8 := HB2.out.2.fr 8
                  go_wp2_with fail
                  go_ret
                  refine ⟨by rw [HR.out]; rw [HO.out]; unfold okKind; have := HI.out; simp; intros; omega, ?_⟩
                  repeat refine below_own ?_ _ _
                  exact HB2.out.1
              · have gi1 : decide (mode < 0) = true := by simp; omega
                have HI := Lib.hid i1
                clear i1
                go_enter Tryz.func27, Tryz.ntmps27
                go_wp2_with fail
                rw [← HX.out.1]
                refine HT1.out.mono ?_
                rintro e w1 ⟨rfl, hb1⟩
                have hw1 : Below w.heap.size w w1 := HX.out.2.trans (hb1.mono HX.out.2.size)
                have b1 : BoxC w1 w.heap.size _ _ _ _ _ _ _ _ _ := BoxC.of hb1 (by rw [HX.out.1]; simp) (by rw [HX.out.1]; exact World.alloc_heap_new w _)
                have c1 := b1.c1
                have HB1 := Lib.hid (And.intro hw1 (And.intro hb1 b1))
                clear hw1 hb1 b1
                go_wp2_with fail
                refine (HVB.out _ HB1.out.1).mono ?_
                rintro e w2 ⟨rfl, hb2⟩
                have hw2 : Below w.heap.size w w2 := HB1.out.1.trans (hb2.mono HB1.out.1.size)
                have b2 : BoxC w2 w.heap.size _ _ _ _ _ _ _ _ _ := BoxC.of (HB1.out.2.1.trans (hb2.mono HB1.out.2.1.size)) (by rw [HX.out.1]; simp) (by rw [HX.out.1]; exact World.alloc_heap_new w _)
                have c7 := b2.c7
                have c2 := b2.c2
                have c8 := b2.c8
                have HB2 := Lib.hid (And.intro hw2 b2)
                clear hw2 b2 hb2 c1
                have c0 := HB2.out.2.c0
                have c1 := HB2.out.2.c1
                have c3 := HB2.out.2.c3
                have c4 := HB2.out.2.c4
                have c5 := HB2.out.2.c5
                have c6 := HB2.out.2.c6
                have f0 := HB2.out.2.fr 0
                have f1 := HB2.out.2.fr 1
                have f2 := HB2.out.2.fr 2
                have f3 := HB2.out.2.fr 3
                have f4 := HB2.out.2.fr 4
                have f5 := HB2.out.2.fr 5
                have f6 := HB2.out.2.fr 6
                have f7 := HB2.out.2.fr 7
                have f8 := HB2.out.2.fr 8
                go_wp2_with fail
                go_ret
                refine ⟨by rw [HR.out]; rw [HO.out]; unfold okKind; have := HI.out; simp; intros; omega, ?_⟩
                repeat refine below_own ?_ _ _
                exact HB2.out.1
          have k5 : (kind == 5) = false := by simpa using e5
          have k6 : (kind == 6) = false := by simpa using e6
          have k7 : (kind == 7) = false := by simpa using e7
          have k8 : (kind == 8) = false := by simpa using e8
          have HE := Lib.hid (And.intro e5 (And.intro e6 (And.intro e7 e8)))
          clear e5 e6 e7 e8 hk8
          go_enter Tryz.func27, Tryz.ntmps27
          go_wp2_with fail
          rw [← HX.out.1]
          refine HT1.out.mono ?_
          rintro e w1 ⟨rfl, hb1⟩
          have hw1 : Below w.heap.size w w1 := HX.out.2.trans (hb1.mono HX.out.2.size)
          have b1 : BoxC w1 w.heap.size _ _ _ _ _ _ _ _ _ := BoxC.of hb1 (by rw [HX.out.1]; simp) (by rw [HX.out.1]; exact World.alloc_heap_new w _)
          have c1 := b1.c1
          have HB1 := Lib.hid (And.intro hw1 (And.intro hb1 b1))
          clear hw1 hb1 b1
          go_wp2_with fail
          refine (HVB.out _ HB1.out.1).mono ?_
          rintro e w2 ⟨rfl, hb2⟩
          have hw2 : Below w.heap.size w w2 := HB1.out.1.trans (hb2.mono HB1.out.1.size)
          have b2 : BoxC w2 w.heap.size _ _ _ _ _ _ _ _ _ := BoxC.of (HB1.out.2.1.trans (hb2.mono HB1.out.2.1.size)) (by rw [HX.out.1]; simp) (by rw [HX.out.1]; exact World.alloc_heap_new w _)
          have c7 := b2.c7
          have c2 := b2.c2
          have c8 := b2.c8
          have HB2 := Lib.hid (And.intro hw2 b2)
          clear hw2 b2 hb2 c1
          have c0 := HB2.out.2.c0
          have c1 := HB2.out.2.c1
          have c3 := HB2.out.2.c3
          have c4 := HB2.out.2.c4
          have c5 := HB2.out.2.c5
          have c6 := HB2.out.2.c6
          have f0 := HB2.out.2.fr 0
          have f1 := HB2.out.2.fr 1
          have f2 := HB2.out.2.fr 2
          have f3 := HB2.out.2.fr 3
          have f4 := HB2.out.2.fr 4
          have f5 := HB2.out.2.fr 5
          have f6 := HB2.out.2.fr 6
          have f7 := HB2.out.2.fr 7
          have f8 := HB2.out.2.fr 8
          go_wp2_with fail
          refine (same_zero ⟨[], 0, box, set, items, mode, silent, flags, data⟩ (.slice sA set.length sc) (.slice dA data.length dc) _ (CmdIn.sub (CmdIn.below HH.out ?_) _ _ _ (.inl ⟨rfl, rfl⟩) (.inl ⟨rfl, rfl⟩)) hs).mono ?_
          · repeat refine below_own ?_ _ _
            exact HB2.out.1
          rintro e w3 ⟨rfl, hb3⟩
          have HB3 := Lib.hid hb3
          clear hb3
          go_wp2_with fail
          go_ret
          refine ⟨by rw [HR.out, HO.out]; unfold okKind restOf; simp only [if_neg HE.out.1, if_neg HE.out.2.1, if_neg HE.out.2.2.1, if_neg HE.out.2.2.2]; rfl, Below.trans ?_ (HB3.out.mono ?_)⟩
          · repeat refine below_own ?_ _ _
            exact HB2.out.1
          · simp only [World.size_setCell]; exact HB2.out.1.size
        · have g4 : decide ((65536 : Int) < max (box.length : Int) (data.length : Int)) = true := by simp; omega
          have HN := Lib.hid h4
          clear h4
          go_enter Tryz.func27, Tryz.ntmps27
          go_wp2_with fail
          rw [← HX.out.1]
          refine HT1.out.mono ?_
          rintro e w1 ⟨rfl, hb1⟩
          have hw1 : Below w.heap.size w w1 := HX.out.2.trans (hb1.mono HX.out.2.size)
          have b1 : BoxC w1 w.heap.size _ _ _ _ _ _ _ _ _ := BoxC.of hb1 (by rw [HX.out.1]; simp) (by rw [HX.out.1]; exact World.alloc_heap_new w _)
          have c1 := b1.c1
          have HB1 := Lib.hid (And.intro hw1 (And.intro hb1 b1))
          clear hw1 hb1 b1
          go_wp2_with fail
          refine (HVB.out _ HB1.out.1).mono ?_
          rintro e w2 ⟨rfl, hb2⟩
          have hw2 : Below w.heap.size w w2 := HB1.out.1.trans (hb2.mono HB1.out.1.size)
          have b2 : BoxC w2 w.heap.size _ _ _ _ _ _ _ _ _ := BoxC.of (HB1.out.2.1.trans (hb2.mono HB1.out.2.1.size)) (by rw [HX.out.1]; simp) (by rw [HX.out.1]; exact World.alloc_heap_new w _)
          have c7 := b2.c7
          have c2 := b2.c2
          have c8 := b2.c8
          have HB2 := Lib.hid (And.intro hw2 b2)
          clear hw2 b2 hb2 c1
          have c0 := HB2.out.2.c0
          have c1 := HB2.out.2.c1
          have c3 := HB2.out.2.c3
          have c4 := HB2.out.2.c4
          have c5 := HB2.out.2.c5
          have c6 := HB2.out.2.c6
          have f0 := HB2.out.2.fr 0
          have f1 := HB2.out.2.fr 1
          have f2 := HB2.out.2.fr 2
          have f3 := HB2.out.2.fr 3
          have f4 := HB2.out.2.fr 4
          have f5 := HB2.out.2.fr 5
          have f6 := HB2.out.2.fr 6
          have f7 := HB2.out.2.fr 7
          have f8 := HB2.out.2.fr 8
          go_wp2_with fail
          go_ret
          refine ⟨by rw [HR.out]; unfold validOf okHead; simp only; rcases Classical.not_and_iff_not_or_not.1 HN.out with h | h <;> simp [h], ?_⟩
          repeat refine below_own ?_ _ _
          exact HB2.out.1
      · have g3 : decide ((31 : Int) < (flags : Int)) = true := by simp; omega
        go_enter Tryz.func27, Tryz.ntmps27
        go_wp2_with fail
        rw [← HX.out.1]
        refine HT1.out.mono ?_
        rintro e w1 ⟨rfl, hb1⟩
        have hw1 : Below w.heap.size w w1 := HX.out.2.trans (hb1.mono HX.out.2.size)
        have b1 : BoxC w1 w.heap.size _ _ _ _ _ _ _ _ _ := BoxC.of hb1 (by rw [HX.out.1]; simp) (by rw [HX.out.1]; exact World.alloc_heap_new w _)
        have c1 := b1.c1
        have HB1 := Lib.hid (And.intro hw1 (And.intro hb1 b1))
        clear hw1 hb1 b1
        go_wp2_with fail
        refine (HVB.out _ HB1.out.1).mono ?_
        rintro e w2 ⟨rfl, hb2⟩
        have hw2 : Below w.heap.size w w2 := HB1.out.1.trans (hb2.mono HB1.out.1.size)
        have b2 : BoxC w2 w.heap.size _ _ _ _ _ _ _ _ _ := BoxC.of (HB1.out.2.1.trans (hb2.mono HB1.out.2.1.size)) (by rw [HX.out.1]; simp) (by rw [HX.out.1]; exact World.alloc_heap_new w _)
        have c7 := b2.c7
        have c2 := b2.c2
        have c8 := b2.c8
        have HB2 := Lib.hid (And.intro hw2 b2)
        clear hw2 b2 hb2 c1
        have c0 := HB2.out.2.c0
        have c1 := HB2.out.2.c1
        have c3 := HB2.out.2.c3
        have c4 := HB2.out.2.c4
        have c5 := HB2.out.2.c5
        have c6 := HB2.out.2.c6
        have f0 := HB2.out.2.fr 0
        have f1 := HB2.out.2.fr 1
        have f2 := HB2.out.2.fr 2
        have f3 := HB2.out.2.fr 3
        have f4 := HB2.out.2.fr 4
        have f5 := HB2.out.2.fr 5
        have f6 := HB2.out.2.fr 6
        have f7 := HB2.out.2.fr 7
        have f8 := HB2.out.2.fr 8
        go_wp2_with fail
        go_ret
        refine ⟨by rw [HR.out]; unfold validOf okHead; simp [h3], ?_⟩
        repeat refine below_own ?_ _ _
        exact HB2.out.1
  · have h1f : allB tagB tag = false := by simpa using h1
    have ht1 := HT.out
    rw [h1f] at ht1
    have HT1 := Lib.hid ht1
    clear ht1 h1
    go_enter Tryz.func27, Tryz.ntmps27
    go_wp2_with fail
    rw [← HX.out.1]
    refine HT1.out.mono ?_
    rintro e w1 ⟨rfl, hb1⟩
    have hw1 : Below w.heap.size w w1 := HX.out.2.trans (hb1.mono HX.out.2.size)
    have b1 : BoxC w1 w.heap.size _ _ _ _ _ _ _ _ _ := BoxC.of hb1 (by rw [HX.out.1]; simp) (by rw [HX.out.1]; exact World.alloc_heap_new w _)
    have HB1 := Lib.hid hw1
    clear hw1 b1 hb1
    go_wp2_with fail
    go_ret
    exact ⟨by rw [HR.out]; unfold validOf okHead; rw [h1f]; simp, HB1.out⟩
end Go.Proofs.YtkdnfjafabgioaaGreatDoor.Own
