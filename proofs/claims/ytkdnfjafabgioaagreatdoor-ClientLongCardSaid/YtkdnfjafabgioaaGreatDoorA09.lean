import Derived.Test.YtkdnfjafabgioaaGreatDoorA08
import Derived.Maps.Own
import Derived.Maps.OwnOps
import Derived.Maps.OwnSet
set_option linter.unusedVariables false
set_option linter.unusedSimpArgs false
namespace Go.Proofs.YtkdnfjafabgioaaGreatDoor.Own
open Go.RowKit Go.Shelf Go.Maps Go.WideMaps

theorem flagBits_lt (f : Nat) : ∀ i ∈ flagBits f, i < 5 := fun i h => by
  have := (List.mem_filter.1 h).1
  simpa using this
theorem flagBits_len (f : Nat) : (flagBits f).length ≤ 5 := bitsTo_len f 5
theorem flagJoin_len : ∀ f : Fin 32, (Lib.join ((flagBits f.val).map flagNm) [32]).length ≤ 100 := by decide +kernel
def flagList (f : Nat) : List UInt8 := 40 :: (Lib.join ((flagBits f).map flagNm) [32] ++ [41])

set_option maxRecDepth 100000 in
set_option maxHeartbeats 1600000 in
theorem list_any (f : Nat) (hf : f < 32) (w : World) (hE : Env w) :
    Calls Tryz.prog 59 #[.int .u8 f] w fun e w' => e = .returned (.string ⟨(flagList f).toArray⟩) ∧ Below w.heap.size w w' := by
  obtain ⟨i0, hi, hz0, hz1, hz2⟩ := info_parts info9
  have hjl : (Lib.join ((flagBits f).map flagNm) [32]).length ≤ 100 := flagJoin_len ⟨f, hf⟩
  have hfl : flagList f = 40 :: (Lib.join ((flagBits f).map flagNm) [32] ++ [41]) := rfl
  have hbl := flagBits_len f
  have hbt := flagBits_lt f
  obtain ⟨bs, hbs⟩ : ∃ bs, bs = flagBits f := ⟨_, rfl⟩
  have hea := each_any f hf w
  rw [← hbs] at hjl hfl hbl hbt hea
  have HE := Lib.hid hE
  have HFL := Lib.hid hfl
  have HBT := Lib.hid hbt
  have HEA := Lib.hid hea
  clear hE hfl hbt hbs hea
  go_enter Tryz.func59, Tryz.ntmps59
  go_wp2_with fail
  refine HEA.out.mono ?_
  rintro e w1 ⟨v, rfl, hown0, hb0⟩
  obtain ⟨A, cp, rfl, h1, h2, h3⟩ := own_cells hown0
  clear hown0
  have H3 := Lib.hid h3
  clear h3
  go_wp2_with fail
  go_loopw [3, 9] (fun v i wr => ∃ k : Nat, k ≤ bs.length ∧ i = .int .i64 k ∧ wr.ownsRow w1.heap.size 9 1 v k (strCells ((bs.map flagNm).take k)) ∧ Below w1.heap.size w1 wr)
    (fun _ i _ => bs.length - (intOf i).toNat)
  case atStart => exact ⟨0, by omega, rfl, World.ownsRow_nil _ _ _ _, Below.refl _ _⟩
  case round =>
    obtain ⟨k, hk, rfl, hown, hb⟩ := hrel
    have hsz := hb.size
    by_cases hlt : k < bs.length
    · obtain ⟨b, o, rfl, _, hbs, hcell⟩ := H3.out (by intro e; simp [flagCells] at e; subst e; simp at hlt)
      obtain ⟨x, hx⟩ : ∃ x, bs[k] = x := ⟨_, rfl⟩
      have hx5 : x < 5 := by rw [← hx]; exact HBT.out _ (List.getElem_mem hlt)
      have hc : wr.cell? ⟨b, o + k, none⟩ = some (.int .u8 ((2 ^ x : Nat) : Int)) := (hb.cell (p := ⟨b, _, none⟩) hbs).trans (hcell _ _ (by simp [flagCells, hlt, hx]))
      obtain ⟨X, hX⟩ : ∃ X : Int, X = ((2 ^ x : Nat) : Int) := ⟨_, rfl⟩
      rw [← hX] at hc
      have hnm := name_any x hx5 wr (HE.out.below (hb0.trans (hb.mono hb0.size)))
      rw [← hX] at hnm
      have HN := Lib.hid hnm
      have HO := Lib.hid hown
      have HX := Lib.hid hx
      clear hX hnm hown hcell hx
      go_wp2_with fail
      refine HN.out.mono ?_
      rintro e w2 ⟨rfl, hb2⟩
      have hb3 : Below w1.heap.size w1 w2 := hb.trans (hb2.mono hsz)
      have hsz3 := hb3.size
      have hown3 : w2.ownsRow w1.heap.size 9 1 u3 k (strCells ((bs.map flagNm).take k)) := HO.out.kept (below_grown hb2 none) (by cases u3.ownBlock <;> simp)
      have HO3 := Lib.hid hown3
      clear hown3 hb2
      go_wp2_with (at_builtin; refine wpList_append_own _ rfl _ _ 50 rfl w1.heap.size 9 i0 (.string ⟨#[]⟩) 1 16 Tryz.underlying50 hi hz0 hz1 hz2 rfl (by decide) _ _ _ rfl (HO3.out.alloc _) ⟨w2.heap.size, 0, none⟩ 1 1 [.string ⟨(flagNm x).toArray⟩] rfl rfl (new_cells w2 [.string ⟨(flagNm x).toArray⟩] 9) (by simp [Value.oneCell']) (by unfold maxLen; omega) (by omega) (by simp; omega) ?_)
      intro v' w5 hown5 hgrow _
      have hb8 : Below w1.heap.size w1 w5 := (hb3.alloc hb3.size _).grown hgrow (by simp; omega) (by intro kk e; exact own_base HO3.out kk e)
      have hn5 : strCells ((bs.map flagNm).take k) ++ [.string ⟨(flagNm x).toArray⟩] = strCells ((bs.map flagNm).take (k + 1)) := by
        rw [List.take_succ_eq_append_getElem (by simpa using hlt), strCells_snoc, List.getElem_map, HX.out]
      have hown6 : w5.ownsRow w1.heap.size 9 1 v' (k + 1) (strCells ((bs.map flagNm).take (k + 1))) := hn5 ▸ hown5
      have HO5 := Lib.hid hown6
      clear hown5 hown6 hgrow hn5
      go_wp2_with fail
      go_roundw
      case rel => exact ⟨k + 1, by omega, by go_num, HO5.out, hb8⟩
      case measure => simp [intOf]; omega
    · obtain rfl : k = bs.length := by omega
      rw [List.take_of_length_le (by simp)] at hown
      obtain ⟨A', c', hv, h1, h2, h3⟩ := own_cells hown
      subst hv
      have hj := join_any A' c' (bs.map flagNm) [32] wr (h3.mono (Nat.zero_le _)) (by simpa using h1) (by simp; omega) (by omega)
      rw [List.length_map] at hj
      have HJ := Lib.hid hj
      clear hj hown h3
      go_wp2_with (go_at_call 31; refine HJ.out.mono ?_; rintro e w2 ⟨rfl, hb2⟩)
      go_ret
      exact ⟨by rw [HFL.out]; rfl, hb0.trans ((hb.trans (hb2.mono hsz)).mono hb0.size)⟩

def upNm (i : Nat) : List UInt8 := upL (flagNm i)
def Dk : Nat → DataW Unit
  | 0 => .map []
  | k + 1 => (Dk k).put (.string (upNm k)) (.lit (.int .u8 ((2 ^ k : Nat) : Int)))
theorem strLaw : Keyed Tryz.prog 9 := string_keyed Tryz.underlying9
theorem zeroE23 (w : World) : (zeroValue 23).run Tryz.prog w = .ok (.int .u8 0) w := by kernel_rfl

theorem CellsIn.grown {w w' : World} {base B : Nat} {A : Option Addr} {cs : List Value} (h : CellsIn w base A cs) (hg : w.grownBy w' (some B)) (hB : B < base) : CellsIn w' base A cs := fun hn => by
  obtain ⟨b, o, e, h1, h2, h3⟩ := h hn
  refine ⟨b, o, e, h1, Nat.lt_of_lt_of_le h2 hg.size, fun j v hj => ?_⟩
  have := h3 j v hj
  unfold World.cell? at this ⊢
  rw [hg.block b h2 (by simp; omega)]
  exact this

theorem upNm_len (k : Nat) (h : k < 5) : (upNm k).length ≤ 20 ∧ (flagNm k).length ≤ 20 := by
  have hk5 : k = 0 ∨ k = 1 ∨ k = 2 ∨ k = 3 ∨ k = 4 := by omega
  rcases hk5 with rfl | rfl | rfl | rfl | rfl <;> decide
theorem pow_wf (k : Nat) (h : k < 5) : (Lit.int .u8 ((2 ^ k : Nat) : Int)).wf = true := by
  have hk5 : k = 0 ∨ k = 1 ∨ k = 2 ∨ k = 3 ∨ k = 4 := by omega
  rcases hk5 with rfl | rfl | rfl | rfl | rfl <;> decide
theorem flagBits31 : flagBits 31 = [0, 1, 2, 3, 4] := by decide +kernel

set_option maxRecDepth 100000 in
set_option maxHeartbeats 1600000 in
theorem byName_any (w : World) (hE : Env w) :
    Calls Tryz.prog 195 #[] w fun e w' => ∃ B, e = .returned (.map (some B)) ∧ w.heap.size ≤ B ∧ w'.ownsMap Tryz.prog 9 (plainElem Tryz.prog 23) B 5 (Dk 5) ∧ Below w.heap.size w w' := by
  have hmm := @run_makeMap Tryz.prog
  have HE := Lib.hid hE
  have hea := each_any 31 (by decide) (w.alloc (.map #[] 0))
  rw [flagBits31] at hea
  have HEA := Lib.hid hea
  clear hE hea
  go_enter Tryz.func195, Tryz.ntmps195
  go_wp2_with fail
  refine HEA.out.mono ?_
  rintro e w1 ⟨v, rfl, hown0, hb0⟩
  obtain ⟨A, cp, rfl, h1, h2, h3⟩ := own_cells hown0
  clear hown0
  have hm0 : w1.ownsMap Tryz.prog 9 (plainElem Tryz.prog 23) w.heap.size 0 (Dk 0) := (World.ownsMap_made w Tryz.prog 9 (plainElem Tryz.prog 23)).kept (below_grown hb0 none) (by simp)
  have hbw : Below w.heap.size w w1 := ((Below.refl _ _).alloc (Nat.le_refl _) _).trans (hb0.mono (by simp))
  have h3' : CellsIn w1 (w.heap.size + 1) A (flagCells [0, 1, 2, 3, 4]) := h3.mono (by simp)
  clear h3 hb0
  have H3 := Lib.hid h3'
  have HM := Lib.hid hm0
  clear h3' hm0 hmm
  go_wp2_with fail
  go_loopw [7] (fun i wr => ∃ k : Nat, k ≤ 5 ∧ i = .int .i64 k ∧ wr.ownsMap Tryz.prog 9 (plainElem Tryz.prog 23) w.heap.size k (Dk k) ∧ CellsIn wr (w.heap.size + 1) A (flagCells [0, 1, 2, 3, 4]) ∧ Below w.heap.size w wr)
    (fun i _ => 5 - (intOf i).toNat)
  case atStart => exact ⟨0, by omega, rfl, HM.out, H3.out, hbw⟩
  case round =>
    obtain ⟨k, hk, rfl, hmk, hcl, hb⟩ := hrel
    have hsz := hb.size
    by_cases hlt : k < 5
    · obtain ⟨b, o, rfl, _, hbs, hcell⟩ := hcl (by simp [flagCells])
      obtain ⟨X, hX⟩ : ∃ X : Int, X = ((2 ^ k : Nat) : Int) := ⟨_, rfl⟩
      have hck := hcell k (.int .u8 X) (by
        have hk5 : k = 0 ∨ k = 1 ∨ k = 2 ∨ k = 3 ∨ k = 4 := by omega
        rcases hk5 with rfl | rfl | rfl | rfl | rfl <;> (rw [hX]; rfl))
      have hnm := name_any k hlt wr (HE.out.below hb)
      rw [← hX] at hnm
      have HN := Lib.hid hnm
      have HX := Lib.hid hX
      have HMK := Lib.hid hmk
      have HCL := Lib.hid hcl
      clear hX hnm hcell hmk hcl
      go_wp2_with fail
      refine HN.out.mono ?_
      rintro e w2 ⟨rfl, hb2⟩
      have hb3 : Below w.heap.size w w2 := hb.trans (hb2.mono hsz)
      have hsz3 := hb3.size
      go_wp2_with fail
      refine (upper_any ⟨(flagNm k).toArray⟩ (by rw [bsz]; unfold maxLen; have := upNm_len k hlt; omega) w2).mono ?_
      rintro e w3 ⟨rfl, hb4⟩
      have hb23 : Below wr.heap.size wr w3 := hb2.trans (hb4.mono hb2.size)
      have hm3 : w3.ownsMap Tryz.prog 9 (plainElem Tryz.prog 23) w.heap.size k (Dk k) := HMK.out.kept (below_grown hb23 none) (by simp)
      have hcl3 : CellsIn w3 (w.heap.size + 1) (some ⟨b, o, none⟩) (flagCells [0, 1, 2, 3, 4]) := HCL.out.below hb23
      have hb5 : Below w.heap.size w w3 := hb3.trans (hb4.mono hsz3)
      have HM3 := Lib.hid hm3
      have HCL3 := Lib.hid hcl3
      clear hb2 hb4 hb23 hm3 hcl3 hb3
      go_wp2_with (at_mapUpdate; refine wpList_mapUpdate_own _ rfl _ _ _ 217 rfl 9 23 strLaw Tryz.underlying217 _ w.heap.size k _ rfl HM3.out (by unfold maxLen; omega) _ _ (.string (upNm k)) rfl rfl ?_ (.lit (.int .u8 X)) [] (plainElem_int Tryz.underlying23 ?_) ?_)
      · exact keyOf_string_mk (s := ⟨(upNm k).toArray⟩) Tryz.underlying9 (by rw [bsz]; unfold maxLen; have := upNm_len k hlt; omega)
      · rw [HX.out]; exact pow_wf k hlt
      · intro w4 hm4 hg4
        have hm5 : w4.ownsMap Tryz.prog 9 (plainElem Tryz.prog 23) w.heap.size (k + 1) (Dk (k + 1)) := by rw [HX.out] at hm4; exact hm4
        have hb6 : Below w.heap.size w w4 := hb5.grown hg4 hb5.size (by intro kk e; cases e; exact Nat.le_refl _)
        have hcl4 := HCL3.out.grown hg4 (by omega)
        have HM5 := Lib.hid hm5
        have HCL4 := Lib.hid hcl4
        clear hm4 hg4 hm5 hcl4
        go_wp2_with fail
        go_roundw
        case rel => exact ⟨k + 1, by omega, by go_num, HM5.out, HCL4.out, hb6⟩
        case measure => simp [intOf]; omega
    · obtain rfl : k = 5 := by omega
      have HMK := Lib.hid hmk
      clear hmk hcl
      go_wp2_with fail
      go_ret
      exact ⟨w.heap.size, rfl, Nat.le_refl _, HMK.out, hb⟩

/-! The flag that a word names. -/
def flagIdx (u : List UInt8) : Option Nat := (List.range 5).find? fun i => upNm i == u
def flagOf (word : List UInt8) : Option Nat := (flagIdx (upL word)).map fun i => 2 ^ i
theorem Dk_map (k : Nat) : Maps.IsMap (Dk k) := by
  induction k with
  | zero => exact ⟨_, rfl⟩
  | succ k ih => exact ih.put _ _
theorem Dk_has (u : List UInt8) (k : Nat) : Maps.has (Dk k) (.string u) = (List.range k).any (fun i => upNm i == u) := by
  induction k with
  | zero => rfl
  | succ k ih =>
    rw [List.range_succ, List.any_append, ← ih]
    show Maps.has ((Dk k).put (.string (upNm k)) (.lit (.int .u8 ((2 ^ k : Nat) : Int)))) (.string u) = _
    by_cases h : upNm k = u
    · subst h
      rw [Maps.has_put_same (Dk_map k) (by trivial)]
      simp
    · rw [Maps.has_put_other (by simp; exact fun e => h e.symm)]
      simp [h]
theorem Dk_at (i : Nat) (hi : i < 5) (z : DataW Unit) : (Dk 5).atKey (.string (upNm i)) z = .lit (.int .u8 ((2 ^ i : Nat) : Int)) := by
  have hk5 : i = 0 ∨ i = 1 ∨ i = 2 ∨ i = 3 ∨ i = 4 := by omega
  rcases hk5 with rfl | rfl | rfl | rfl | rfl <;> rfl
/-- What the look-up tells. -/
theorem Dk_look (u : List UInt8) (c : Int) (h : (Dk 5).atKey (.string u) (.lit (.int .u8 0)) = .lit (.int .u8 c)) : c = (((flagIdx u).map fun i => 2 ^ i).getD 0 : Nat) ∧ Maps.has (Dk 5) (.string u) = (flagIdx u).isSome := by
  rw [Dk_has]
  cases hf : flagIdx u with
  | none =>
    have hn : (List.range 5).any (fun i => upNm i == u) = false := by
      unfold flagIdx at hf
      rw [List.find?_eq_none] at hf
      simpa using hf
    rw [Maps.atKey_of_not_has (by rw [Dk_has]; exact hn)] at h
    simp at h
    exact ⟨by simp [← h], by rw [hn]; rfl⟩
  | some i =>
    unfold flagIdx at hf
    have h1 := List.find?_some hf
    have h2 := List.mem_of_find?_eq_some hf
    simp only [List.mem_range] at h2
    simp only [beq_iff_eq] at h1
    subst h1
    rw [Dk_at i h2] at h
    simp only [DataW.lit.injEq, Lit.int.injEq, true_and] at h
    exact ⟨by simp [← h], by simp only [Option.isSome_some]; exact List.any_eq_true.2 ⟨i, by simpa using h2, by simp⟩⟩
end Go.Proofs.YtkdnfjafabgioaaGreatDoor.Own
