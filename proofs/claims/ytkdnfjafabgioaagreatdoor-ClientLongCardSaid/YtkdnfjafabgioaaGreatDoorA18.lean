import Derived.Test.YtkdnfjafabgioaaGreatDoorA17
import Derived.Deep.RegionHeld3
import Derived.Deep.RegionWith
import Derived.Deep.DeepCutAuto
set_option linter.unusedVariables false
set_option linter.unusedSimpArgs false
namespace Go.Proofs.YtkdnfjafabgioaaGreatDoor.Own
open Go.RowKit Go.Shelf

/-- bytes.Index at a line's end. -/
theorem crlf_any (A : Option Addr) (cp : Nat) (l : List UInt8) (b2 d : Nat) (w : World) (hA : Byt w A l) (hcp : l.length ≤ cp) (hl : l.length ≤ 1000000000) (hE : Env w) (hB : Byt w (some ⟨b2, 0, none⟩) [13, 10]) :
    Calls Tryz.prog 181 #[.slice A l.length cp, .slice (some ⟨b2, 0, none⟩) 2 d] w fun e w' => e = .returned (.int .i64 (Lib.index l [13, 10])) ∧ ∃ q, w' = w.drewN q := by
  obtain ⟨m, hm⟩ := hE.mlen
  by_cases h1 : l.length < 2
  · refine (Tryz.bytes_Index_longer A (some ⟨b2, 0, none⟩) l.length cp 2 d w (Nat.le_refl _) h1 (by omega)).mono ?_
    rintro e w' ⟨rfl, rfl⟩
    refine ⟨?_, 0, (by rfl)⟩
    rw [Lib.index_none]
    intro j hj
    unfold Lib.occAt
    match l, h1 with
    | [], _ => simp [List.isPrefixOf]
    | [x], _ => rcases j with _ | _ | j <;> simp [List.isPrefixOf]
  · obtain ⟨b, o, rfl, hbz, hc⟩ := hA.at (by omega)
    by_cases h2 : l.length = 2
    · have h3 := Tryz.bytes_Index_same b o cp b2 0 d 2 (ints l) (ints [13, 10]) w (Nat.le_refl _) (by omega) (by rw [ints_length, h2]) rfl (fun i hi => by rw [ints_getD]; exact hc i (by omega)) (fun i hi => by rw [ints_getD]; exact (hB.at (by decide)).elim fun b' h => h.elim fun o' h => by obtain ⟨e, _, h⟩ := h; cases e; exact h i hi)
      rw [h2]
      refine h3.mono ?_
      rintro e w' ⟨rfl, rfl⟩
      refine ⟨?_, 0, (by rfl)⟩
      rw [bytesOf_ints, bytesOf_ints]
      by_cases hq : ([13, 10] : List UInt8) = l
      · subst hq; rfl
      · rw [Lib.index_long (by rw [h2]; exact Nat.le_refl _) hq, if_neg (by simpa using hq)]
    · have hs : (⟨l.toArray⟩ : ByteArray).size = l.length := rfl
      have h3 := Tryz.bytes_Index_search b o cp b2 0 d ⟨l.toArray⟩ ⟨#[13, 10]⟩ m w (by rw [hs]; omega) hm ?_ ?_ hcp (Nat.le_refl 2) (by rw [hs]; show 2 < l.length; omega)
      · exact h3
      · intro i hi
        have hi2 : i < l.length := hi
        rw [hc i hi, List.getD_eq_getElem?_getD, List.getElem?_eq_getElem hi2]
        rfl
      · intro i hi
        obtain ⟨b', o', e, _, h⟩ := hB.at (by decide)
        cases e
        have := h i hi
        match i, hi with
        | 0, _ => exact this
        | 1, _ => exact this

/-- A splitter's block: its bytes, the line's place, the bytes to skip, the place searched. -/
structure Spl (w : World) (N : Nat) (v : Value) (a k s : Int) : Prop where
  c0 : w.cell? ⟨N, 0, none⟩ = some v
  c1 : w.cell? ⟨N, 1, none⟩ = some (.int .i64 a)
  c2 : w.cell? ⟨N, 2, none⟩ = some (.int .i64 k)
  c3 : w.cell? ⟨N, 3, none⟩ = some (.int .i64 s)
  fr : ∀ j, w.frozen? ⟨N, j, none⟩ = false
theorem Spl.drewN {w : World} {N : Nat} {v : Value} {a k s : Int} (h : Spl w N v a k s) (n : Nat) : Spl (w.drewN n) N v a k s := ⟨h.c0, h.c1, h.c2, h.c3, h.fr⟩
theorem Spl.set1 {w : World} {N : Nat} {v : Value} {a k s : Int} (h : Spl w N v a k s) (x : Int) : Spl (w.setCell ⟨N, 1, none⟩ (.int .i64 x)) N v x k s :=
  ⟨(World.cell?_setCell_other _ _ _ _ (by simp)).trans h.c0, World.cell?_setCell_same' _ _ _ (by rw [h.c1]; rfl), (World.cell?_setCell_other _ _ _ _ (by simp)).trans h.c2, (World.cell?_setCell_other _ _ _ _ (by simp)).trans h.c3, fun j => by rw [World.frozen?_setCell]; exact h.fr j⟩
theorem Spl.set2 {w : World} {N : Nat} {v : Value} {a k s : Int} (h : Spl w N v a k s) (x : Int) : Spl (w.setCell ⟨N, 2, none⟩ (.int .i64 x)) N v a x s :=
  ⟨(World.cell?_setCell_other _ _ _ _ (by simp)).trans h.c0, (World.cell?_setCell_other _ _ _ _ (by simp)).trans h.c1, World.cell?_setCell_same' _ _ _ (by rw [h.c2]; rfl), (World.cell?_setCell_other _ _ _ _ (by simp)).trans h.c3, fun j => by rw [World.frozen?_setCell]; exact h.fr j⟩
theorem Spl.set3 {w : World} {N : Nat} {v : Value} {a k s : Int} (h : Spl w N v a k s) (x : Int) : Spl (w.setCell ⟨N, 3, none⟩ (.int .i64 x)) N v a k x :=
  ⟨(World.cell?_setCell_other _ _ _ _ (by simp)).trans h.c0, (World.cell?_setCell_other _ _ _ _ (by simp)).trans h.c1, (World.cell?_setCell_other _ _ _ _ (by simp)).trans h.c2, World.cell?_setCell_same' _ _ _ (by rw [h.c3]; rfl), fun j => by rw [World.frozen?_setCell]; exact h.fr j⟩
theorem Spl.lt {w : World} {N : Nat} {v : Value} {a k s : Int} (h : Spl w N v a k s) : N < w.heap.size := World.block_lt_of_cell? w _ h.c0
theorem Spl.grown {w w' : World} {N : Nat} {v : Value} {a k s : Int} {row : Option Nat} (h : Spl w N v a k s) (hg : w.grownBy w' row) (hne : some N ≠ row) : Spl w' N v a k s := by
  have hb := hg.block N h.lt hne
  exact ⟨(World.cell?_of_block hb).trans h.c0, (World.cell?_of_block hb).trans h.c1, (World.cell?_of_block hb).trans h.c2, (World.cell?_of_block hb).trans h.c3, fun j => (World.frozen?_of_block (a := ⟨N, j, none⟩) hb).trans (h.fr j)⟩

set_option maxRecDepth 100000 in
set_option maxHeartbeats 1600000 in
theorem skip_no (N : Nat) (A : Option Addr) (n cp a k : Nat) (s : Int) (w : World) (h : Spl w N (.slice A n cp) a k s) (hn : n ≤ 1000000000) (ha : a ≤ n) (hk : k ≤ 4294967296) (hlt : n < a + k) :
    Calls Tryz.prog 160 #[.pointer (some ⟨N, 0, none⟩)] w fun e w' => e = .returned (.bool false) ∧ ∃ q, w' = w.drewN q := by
  have c0 := h.c0
  have c1 := h.c1
  have c2 := h.c2
  have g1 : decide ((n : Int) - (a : Int) < (k : Int)) = true := by simp; omega
  have H := Lib.hid h
  clear h
  go_enter Tryz.func160, Tryz.ntmps160
  go_wp2_with fail
  go_quiet (fail)
  go_wp2_with fail
  go_ret
  exact ⟨rfl, _, rfl⟩

set_option maxRecDepth 100000 in
set_option maxHeartbeats 1600000 in
theorem skip_yes (N : Nat) (A : Option Addr) (n cp a k : Nat) (s : Int) (w : World) (h : Spl w N (.slice A n cp) a k s) (hn : n ≤ 1000000000) (hlt : a + k ≤ n) :
    Calls Tryz.prog 160 #[.pointer (some ⟨N, 0, none⟩)] w fun e w' => e = .returned (.bool true) ∧ Spl w' N (.slice A n cp) (a + k : Nat) 0 (a + k : Nat) ∧ w.grownBy w' (some N) := by
  have c0 := h.c0
  have c1 := h.c1
  have c2 := h.c2
  have c3 := h.c3
  have f1 := h.fr 1
  have f2 := h.fr 2
  have f3 := h.fr 3
  have g1 : decide ((n : Int) - (a : Int) < (k : Int)) = false := by simp; omega
  have H := Lib.hid h
  clear h
  go_enter Tryz.func160, Tryz.ntmps160
  go_wp2_with fail
  go_quiet (fail)
  go_wp2_with fail
  go_region
  all_goals go_wp2_with fail
  all_goals go_ret
  all_goals exact ⟨rfl, by rw [Int.natCast_add]; exact (((((H.out.drewN _).set1 (a + k)).set2 0).set3 (a + k))), grown_trans (grown_trans (grown_trans (grown_drewN w _ _) (grown_setCell _ _ _ _)) (grown_setCell _ _ _ _)) (grown_setCell _ _ _ _)⟩

/-- The end of the line that begins at a. -/
def endAt (l : List UInt8) (a : Nat) : Int := Lib.index (l.drop a) [13, 10]

theorem Spl.below {w w' : World} {N : Nat} {v : Value} {a k s : Int} (h : Spl w N v a k s) (hb : Below w.heap.size w w') : Spl w' N v a k s := h.grown (below_grown hb none) (by simp)
/-- The bytes of a line's end, made anew. -/
def crlfW (w : World) : World := (w.alloc (.cells #[.int .u8 13, .int .u8 10] 5 (2, 3))).drew
theorem crlfW_below (w : World) : Below w.heap.size w (crlfW w) := ((Below.refl _ _).alloc (Nat.le_refl _) _).drew
theorem crlfW_byt (w : World) : Byt (crlfW w) (some ⟨w.heap.size, 0, none⟩) [13, 10] := ⟨by simp [maxLen], fun _ => ⟨_, _, rfl, fun i hi => by
    have h0 : ∀ k, (crlfW w).cell? ⟨w.heap.size, k, none⟩ = (#[.int .u8 13, .int .u8 10] : Array Value)[k]? := by
      intro k
      unfold crlfW
      simp [World.cell?, World.alloc, World.drew, -World.alloc_eq]
    match i, hi with
    | 0, _ => exact h0 _
    | 1, _ => exact h0 _⟩⟩
theorem below_nat {w w' : World} (h : Below w.heap.size w w') (n : Nat) : w.grownBy w' (some n) := below_grown h _

set_option maxRecDepth 100000 in
set_option maxHeartbeats 1600000 in
theorem line_some (N g cp a : Nat) (l : List UInt8) (w : World) (h : Spl w N (.slice (some ⟨g, 0, none⟩) l.length cp) a 0 a) (hA : Byt w (some ⟨g, 0, none⟩) l) (hl : l.length ≤ 1000000000) (ha : a ≤ l.length) (hcp : l.length ≤ cp) (hac : a < cp) (hcm : cp ≤ maxLen) (hE : Env w) :
    Calls Tryz.prog 161 #[.pointer (some ⟨N, 0, none⟩)] w fun e w' => e = .returned (.tuple #[.int .i64 (if endAt l a < 0 then 0 else a + endAt l a), .bool (decide (0 ≤ endAt l a))]) ∧ (∃ s, Spl w' N (.slice (some ⟨g, 0, none⟩) l.length cp) a 0 s) ∧ w.grownBy w' (some N) := by
  have c0 := h.c0
  have c3 := h.c3
  have hNl := h.lt
  have kc : ∀ (w : World) (C : Array Value) (n c : Nat), (convert 24 24 (.slice (some ⟨w.heap.size, 0, none⟩) n c)).run Tryz.prog (w.alloc (.cells C 5)).drew = .ok (.slice (some ⟨w.heap.size, 0, none⟩) n c) (w.alloc (.cells C 5 (C.size, C.size + 1))).drew := fun w C n c => Lib.run_convert_bytes_const (P := Tryz.prog) w.drew 24 5 C n c Tryz.underlying24 Tryz.underlying5
  obtain ⟨i, hi⟩ : ∃ i, i = endAt l a := ⟨_, rfl⟩
  have hcd : Calls Tryz.prog 181 #[.slice (some ⟨g, a, none⟩) (l.length - a) (cp - a), .slice (some ⟨w.heap.size, 0, none⟩) 2 2] (crlfW w) fun e w' => e = .returned (.int .i64 i) ∧ Below w.heap.size w w' := by
    have hcd := crlf_any (some ⟨g, a, none⟩) (cp - a) (l.drop a) w.heap.size 2 (crlfW w) (by have := (hA.below (crlfW_below w)).drop a; rw [Nat.zero_add] at this; exact this) (by simp; omega) (by simp; omega) (hE.below (crlfW_below w)) (crlfW_byt w)
    rw [List.length_drop] at hcd
    refine hcd.mono ?_
    rintro e w' ⟨rfl, q, rfl⟩
    exact ⟨by rw [hi]; rfl, below_drewN (crlfW_below w) q⟩
  unfold crlfW at hcd
  have hig : -1 ≤ i := by rw [hi]; exact Lib.index_ge _ _
  have hil : i + a ≤ l.length := by rw [hi]; have := Lib.index_le (l.drop a) [13, 10]; unfold endAt; simp at this; omega
  rw [← hi]
  have hne : ¬ cp = a := by omega
  have H := Lib.hid h
  have HC := Lib.hid hcd
  clear h hcd hA hi hE
  obtain ⟨R1, hR1⟩ : ∃ x : Int, x = (if i < 0 then 0 else a + i) := ⟨_, rfl⟩
  obtain ⟨R2, hR2⟩ : ∃ x : Bool, x = decide (0 ≤ i) := ⟨_, rfl⟩
  rw [← hR1, ← hR2]
  have HR := Lib.hid (And.intro hR1 hR2)
  clear hR1 hR2
  go_enter Tryz.func161, Tryz.ntmps161
  go_upto_region 1 with fail
  go_cut [4] (fun v wx => v = .int .i64 i ∧ Below w.heap.size w wx)
  case first =>
    go_region_with (go_at_call 181; refine HC.out.mono ?_; rintro e w1 ⟨rfl, hb1⟩)
    all_goals
      go_wp2_with fail
      go_meet
      exact ⟨rfl, by assumption⟩
  case rest =>
    obtain ⟨rfl, hb1⟩ := hcut
    clear c0 c3 kc
    have hs1 := H.out.below hb1
    have c0 := hs1.c0
    have c3 := hs1.c3
    have f3 := hs1.fr 3
    have H1 := Lib.hid hs1
    clear hs1
    by_cases hi0 : i < 0
    · have g1 : decide (i < 0) = true := by simpa using hi0
      have g2 : decide (0 ≤ i) = false := by simp; omega
      have HG := Lib.hid g2
      clear g2
      go_wp2_with fail
      go_still_tail 14, (by kernel_rfl)
      go_wp2_with fail
      go_ret2
      exact ⟨by rw [HR.out.1, HR.out.2, if_pos hi0, HG.out]; rfl, ⟨_, (H1.out.drewN 1).set3 _⟩, grown_trans (below_nat hb1 N) (grown_set _ _ _ _ 1 0)⟩
    · have g1 : decide (i < 0) = false := by simpa using hi0
      have g2 : decide (0 ≤ i) = true := by simp; omega
      have HG := Lib.hid g2
      clear g2
      go_wp2_with fail
      go_ret2
      exact ⟨by rw [HR.out.1, HR.out.2, if_neg (by omega), HG.out]; rfl, ⟨_, H1.out⟩, below_nat hb1 N⟩
end Go.Proofs.YtkdnfjafabgioaaGreatDoor.Own
