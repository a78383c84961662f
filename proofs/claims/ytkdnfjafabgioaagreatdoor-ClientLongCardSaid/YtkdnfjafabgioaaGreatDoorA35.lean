import Derived.Test.YtkdnfjafabgioaaGreatDoorA34
set_option linter.unusedVariables false
set_option linter.unusedSimpArgs false
namespace Go.Proofs.YtkdnfjafabgioaaGreatDoor.Own
open Go.RowKit Go.Shelf

def addF (L : Nat) : Value := .func (.func 30) #[] #[.pointer (some ⟨L, 0, none⟩)]

set_option maxRecDepth 100000 in
set_option maxHeartbeats 1600000 in
theorem writer1 (c : Cmd) (SA DA : Option Addr) (sc dc B L : Nat) (ss : List (List UInt8)) (w : World) (hl : c.box.length ≤ 1000000) (hE : Env w) (h : LineIn w B L ss) (hB : B ≤ L) (hss : ss.length ≤ 100) :
    Calls Tryz.prog 56 #[cmdV c (.slice SA c.set.length sc) (.slice DA c.data.length dc), addF L] w fun e w' => e = .returned (.tuple #[]) ∧ LineIn w' B L (ss ++ [boxOf c.box]) ∧ Below B w w' := by
  have hLl := h.lt
  have hmb : ∀ W, Below w.heap.size w W → Calls Tryz.prog 57 #[.string ⟨c.box.toArray⟩] W fun e w' => e = .returned (.string ⟨(boxOf c.box).toArray⟩) ∧ Below W.heap.size W w' := fun W hW => mailbox_any c.box hl W (hE.below hW)
  obtain ⟨m, hm⟩ : ∃ m, m = boxOf c.box := ⟨_, rfl⟩
  rw [← hm] at hmb ⊢
  have HM := Lib.hid hmb
  have HL := Lib.hid h
  clear hmb h hm hE
  unfold cmdV addF
  go_enter Tryz.func56, Tryz.ntmps56
  go_wp2_with fail
  refine (HM.out _ ((Below.refl _ _).alloc (Nat.le_refl _) _)).mono ?_
  rintro e w2 ⟨rfl, hb2⟩
  have hb : Below w.heap.size w w2 := ((Below.refl _ _).alloc (Nat.le_refl _) _).trans (hb2.mono (by simp))
  have hz := hb.size
  have HB := Lib.hid hb
  clear hb hb2
  go_wp2_with fail
  refine (addWords w2.heap.size 1 1 B L ss [m] _ ((HL.out.below HB.out).below ((Below.refl _ _).alloc (Nat.le_refl _) _)) rfl (new_cells w2 [.string ⟨m.toArray⟩] 9) (by simp; omega) hB).mono ?_
  rintro e w3 ⟨rfl, hl3, hb3, _⟩
  have HQ := Lib.hid (And.intro hl3 hb3)
  clear hl3 hb3
  go_wp2_with fail
  go_end0
  exact ⟨rfl, HQ.out.1, (HB.out.mono (by omega)).trans (((Below.refl _ w2).alloc (by omega) _).trans HQ.out.2)⟩

/-- What APPEND writes behind its verb. -/
def parts6 (c : Cmd) : List (List UInt8) := [boxOf c.box] ++ ((if c.flags = 0 then [] else [flagList c.flags]) ++ [litOf c.data])

theorem litOf_len (l : List UInt8) (hl : l.length < 4294967296) : (litOf l).length ≤ l.length + 30 := by
  unfold litOf litHead
  have := dec_len l.length hl
  simp
  omega

set_option maxRecDepth 100000 in
set_option maxHeartbeats 3200000 in
theorem writer2 (c : Cmd) (SA DA : Option Addr) (sc dc B L : Nat) (ss : List (List UInt8)) (w w0 : World) (hl : c.box.length ≤ 1000000) (hf : c.flags < 32) (hd : c.data.length ≤ 1000000) (hD : Byt w0 DA c.data) (hE : Env w0) (h0 : Below w0.heap.size w0 w) (hB0 : w0.heap.size ≤ B) (h : LineIn w B L ss) (hB : B ≤ L) (hss : ss.length ≤ 100) :
    Calls Tryz.prog 58 #[cmdV c (.slice SA c.set.length sc) (.slice DA c.data.length dc), addF L] w fun e w' => e = .returned (.tuple #[]) ∧ LineIn w' B L (ss ++ parts6 c) ∧ Below B w w' := by
  have hLl := h.lt
  have hsp : parts6 c = [boxOf c.box] ++ ((if c.flags = 0 then [] else [flagList c.flags]) ++ [litOf c.data]) := rfl
  obtain ⟨tag, kind, box, set, items, mode, silent, flags, data⟩ := c
  simp only at *
  obtain ⟨P, hP⟩ : ∃ P, P = parts6 ⟨tag, kind, box, set, items, mode, silent, flags, data⟩ := ⟨_, rfl⟩
  rw [← hP] at hsp ⊢
  have hEw : ∀ W, Below B w W → Below w0.heap.size w0 W := fun W hW => h0.trans (hW.mono hB0)
  have hmb : ∀ W, Below B w W → Calls Tryz.prog 57 #[.string ⟨box.toArray⟩] W fun e w' => e = .returned (.string ⟨(boxOf box).toArray⟩) ∧ Below W.heap.size W w' := fun W hW => mailbox_any box hl W (hE.below (hEw W hW))
  have hfl : ∀ W, Below B w W → Calls Tryz.prog 59 #[.int .u8 flags] W fun e w' => e = .returned (.string ⟨(flagList flags).toArray⟩) ∧ Below W.heap.size W w' := fun W hW => list_any flags hf W (hE.below (hEw W hW))
  have hlt : ∀ W, Below B w W → Calls Tryz.prog 60 #[.slice DA data.length dc] W fun e w' => ∃ v, e = .returned v ∧ BytRes W (litOf data) v w' := fun W hW => literal_any DA dc data W (hE.below (hEw W hW)) (hD.below (hEw W hW)) (by omega)
  obtain ⟨m, hm⟩ : ∃ m, m = boxOf box := ⟨_, rfl⟩
  obtain ⟨fl, hfl'⟩ : ∃ fl, fl = flagList flags := ⟨_, rfl⟩
  obtain ⟨lt, hlt'⟩ : ∃ lt, lt = litOf data := ⟨_, rfl⟩
  have hltl : lt.length ≤ 2000000 := by rw [hlt']; have := litOf_len data (by omega); omega
  rw [← hm] at hmb hsp
  rw [← hfl'] at hfl hsp
  rw [← hlt'] at hlt hsp
  have HM := Lib.hid (And.intro hmb (And.intro hfl hlt))
  have HL := Lib.hid h
  have HP := Lib.hid hsp
  clear hmb hfl hlt h hm hfl' hlt' hE hEw hD hP hsp
  unfold cmdV addF
  simp only
  by_cases hf0 : flags = 0
  · subst hf0
    go_enter Tryz.func58, Tryz.ntmps58
    go_wp2_with fail
    refine (HM.out.1 _ ((Below.refl _ _).alloc (by omega) _)).mono ?_
    rintro e w2 ⟨rfl, hb2⟩
    have hx2 : w2.heap[w.heap.size]? = _ := (hb2.block w.heap.size (by simp)).trans (World.alloc_heap_new w _)
    have hb : Below w.heap.size w w2 := ((Below.refl _ _).alloc (Nat.le_refl _) _).trans (hb2.mono (by simp))
    have hz := hb2.size
    rw [World.size_alloc] at hz
    have HB := Lib.hid (And.intro hb hx2)
    clear hb hb2 hx2
    go_wp2_with fail
    refine (addWords w2.heap.size 1 1 B L ss [m] _ ((HL.out.below HB.out.1).below ((Below.refl _ _).alloc (Nat.le_refl _) _)) rfl (new_cells w2 [.string ⟨m.toArray⟩] 9) (by simp; omega) hB).mono ?_
    rintro e w3 ⟨rfl, hl3, hb3, hk3⟩
    have hx3 : w3.heap[w.heap.size]? = _ := hk3 w.heap.size _ ((Below.heap_alloc _ _ _ (by omega)).trans HB.out.2) (by omega) (by intro cur fz e; cases e)
    have hbw3 : Below B w w3 := (HB.out.1.mono (by omega)).trans (((Below.refl _ w2).alloc (by omega) _).trans hb3)
    have hz3 := hb3.size
    rw [World.size_alloc] at hz3
    have x7 : w3.cell? ⟨w.heap.size, 7, none⟩ = some (.int .u8 0) := by simp [World.cell?, hx3]
    have x8 : w3.cell? ⟨w.heap.size, 8, none⟩ = some (.slice DA data.length dc) := by simp [World.cell?, hx3]
    have H3 := Lib.hid (And.intro hl3 hbw3)
    clear hl3 hbw3 hb3 hk3 hx3
    go_wp2_with fail
    refine (HM.out.2.2 w3 H3.out.2).mono ?_
    rintro e w4 ⟨v, rfl, N, cc, rfl, g1, g2, g3, g4, g5⟩
    have ks := (g4.byt (by unfold maxLen; omega)).string cc
    have H4 := Lib.hid g5
    have hz4 := g5.size
    clear g1 g2 g3 g4 g5
    go_wp2_with fail
    refine (addWords w4.heap.size 1 1 B L (ss ++ [m]) [lt] _ ((H3.out.1.below H4.out).below ((Below.refl _ _).alloc (Nat.le_refl _) _)) rfl (new_cells w4 [.string ⟨lt.toArray⟩] 9) (by simp; omega) hB).mono ?_
    rintro e w5 ⟨rfl, hl5, hb5, _⟩
    have H5 := Lib.hid (And.intro hl5 hb5)
    clear hl5 hb5
    go_wp2_with fail
    go_end0
    exact ⟨rfl, by rw [HP.out]; have := H5.out.1; simpa using this, H3.out.2.trans ((H4.out.mono (by omega)).trans (((Below.refl _ w4).alloc (by omega) _).trans H5.out.2))⟩
  · have hf1 : ((flags : Int) == 0) = false := by rw [beq_eq_false_iff_ne]; omega
    have HN0 := Lib.hid hf0
    clear hf0
    go_enter Tryz.func58, Tryz.ntmps58
    go_wp2_with fail
    refine (HM.out.1 _ ((Below.refl _ _).alloc (by omega) _)).mono ?_
    rintro e w2 ⟨rfl, hb2⟩
    have hx2 : w2.heap[w.heap.size]? = _ := (hb2.block w.heap.size (by simp)).trans (World.alloc_heap_new w _)
    have hb : Below w.heap.size w w2 := ((Below.refl _ _).alloc (Nat.le_refl _) _).trans (hb2.mono (by simp))
    have hz := hb2.size
    rw [World.size_alloc] at hz
    have HB := Lib.hid (And.intro hb hx2)
    clear hb hb2 hx2
    go_wp2_with fail
    refine (addWords w2.heap.size 1 1 B L ss [m] _ ((HL.out.below HB.out.1).below ((Below.refl _ _).alloc (Nat.le_refl _) _)) rfl (new_cells w2 [.string ⟨m.toArray⟩] 9) (by simp; omega) hB).mono ?_
    rintro e w3 ⟨rfl, hl3, hb3, hk3⟩
    have hx3 : w3.heap[w.heap.size]? = _ := hk3 w.heap.size _ ((Below.heap_alloc _ _ _ (by omega)).trans HB.out.2) (by omega) (by intro cur fz e; cases e)
    have hbw3 : Below B w w3 := (HB.out.1.mono (by omega)).trans (((Below.refl _ w2).alloc (by omega) _).trans hb3)
    have hz3 := hb3.size
    rw [World.size_alloc] at hz3
    have x7 : w3.cell? ⟨w.heap.size, 7, none⟩ = some (.int .u8 (flags : Int)) := by simp [World.cell?, hx3]
    have x8 : w3.cell? ⟨w.heap.size, 8, none⟩ = some (.slice DA data.length dc) := by simp [World.cell?, hx3]
    have H3 := Lib.hid (And.intro hl3 (And.intro hbw3 hx3))
    clear hl3 hbw3 hb3 hk3 hx3
    go_wp2_with fail
    refine (HM.out.2.1 w3 H3.out.2.1).mono ?_
    rintro e w4 ⟨rfl, hb4⟩
    have hz4 := hb4.size
    have hx4 : w4.heap[w.heap.size]? = _ := (hb4.block w.heap.size (by omega)).trans H3.out.2.2
    have H4 := Lib.hid (And.intro hb4 hx4)
    clear hb4 hx4
    go_wp2_with fail
    refine (addWords w4.heap.size 1 1 B L (ss ++ [m]) [fl] _ ((H3.out.1.below H4.out.1).below ((Below.refl _ _).alloc (Nat.le_refl _) _)) rfl (new_cells w4 [.string ⟨fl.toArray⟩] 9) (by simp; omega) hB).mono ?_
    rintro e w5 ⟨rfl, hl5, hb5, hk5⟩
    have hx5 : w5.heap[w.heap.size]? = _ := hk5 w.heap.size _ ((Below.heap_alloc _ _ _ (by omega)).trans H4.out.2) (by omega) (by intro cur fz e; cases e)
    have hz5 := hb5.size
    rw [World.size_alloc] at hz5
    have hbw5 : Below B w w5 := H3.out.2.1.trans ((H4.out.1.mono (by omega)).trans (((Below.refl _ w4).alloc (by omega) _).trans hb5))
    have y8 : w5.cell? ⟨w.heap.size, 8, none⟩ = some (.slice DA data.length dc) := by simp [World.cell?, hx5]
    have H5 := Lib.hid (And.intro hl5 hbw5)
    clear hl5 hbw5 hb5 hk5 hx5 x7 x8
    go_wp2_with fail
    refine (HM.out.2.2 w5 H5.out.2).mono ?_
    rintro e w6 ⟨v, rfl, N, cc, rfl, g1, g2, g3, g4, g5⟩
    have ks := (g4.byt (by unfold maxLen; omega)).string cc
    have H6 := Lib.hid g5
    have hz6 := g5.size
    clear g1 g2 g3 g4 g5
    go_wp2_with fail
    refine (addWords w6.heap.size 1 1 B L (ss ++ [m] ++ [fl]) [lt] _ ((H5.out.1.below H6.out).below ((Below.refl _ _).alloc (Nat.le_refl _) _)) rfl (new_cells w6 [.string ⟨lt.toArray⟩] 9) (by simp; omega) hB).mono ?_
    rintro e w7 ⟨rfl, hl7, hb7, _⟩
    have H7 := Lib.hid (And.intro hl7 hb7)
    clear hl7 hb7
    go_wp2_with fail
    go_end0
    exact ⟨rfl, by rw [HP.out, if_neg HN0.out]; have := H7.out.1; simpa using this, H5.out.2.trans ((H6.out.mono (by omega)).trans (((Below.refl _ w6).alloc (by omega) _).trans H7.out.2))⟩
end Go.Proofs.YtkdnfjafabgioaaGreatDoor.Own
