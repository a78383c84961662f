import Derived.Test.YtkdnfjafabgioaaGreatDoorA09
set_option linter.unusedVariables false
set_option linter.unusedSimpArgs false
namespace Go.Proofs.YtkdnfjafabgioaaGreatDoor.Own
open Go.RowKit Go.Shelf Go.Maps Go.WideMaps

/-- The pieces of a string between a byte, as 'strings.Split' makes them. -/
def pieceB (c : UInt8) (s : ByteArray) : List ByteArray := Lib.splitB ⟨#[c]⟩ 0 (Lib.countB s ⟨#[c]⟩) s
def pieces (c : UInt8) (l : List UInt8) : List (List UInt8) := (pieceB c ⟨l.toArray⟩).map (·.data.toList)
theorem pieceB_length (c : UInt8) (s : ByteArray) : (pieceB c s).length = Lib.countB s ⟨#[c]⟩ + 1 := Lib.splitB_all _ (show 1 ≤ (⟨#[c]⟩ : ByteArray).size from Nat.le_refl 1) 0 _ s rfl
/-- 'strings.Split' at a separator of one byte. -/
theorem split_any (c : UInt8) (s : ByteArray) (hs : s.size < 4294967281) (w : World) (hE : Env w) :
    Calls Tryz.prog 190 #[.string s, .string ⟨#[c]⟩] w fun e w' => ∃ n : Nat, n = (pieceB c s).length ∧ n ≤ s.size + 1 ∧ e = .returned (.slice (some ⟨w.heap.size, 0, none⟩) n n) ∧ Below w.heap.size w w' ∧ w.heap.size < w'.heap.size ∧
      (∀ k, k < n → ∃ p, (pieceB c s)[k]? = some p ∧ p.size ≤ s.size ∧ w'.cell? ⟨w.heap.size, k, none⟩ = some (.string p)) := by
  obtain ⟨m, hm⟩ := hE.mlen
  refine (Tryz.strings_Split s ⟨#[c]⟩ m w hs hm (show (1 : Nat) ≤ 1 from Nat.le_refl 1)).mono ?_
  rintro e w' ⟨rfl, rfl⟩
  have hcs : Lib.countB s ⟨#[c]⟩ ≤ s.size := Lib.countB_le _ (show 1 ≤ (⟨#[c]⟩ : ByteArray).size from Nat.le_refl 1) _ s (Nat.le_refl _)
  refine ⟨_, (pieceB_length c s).symm, by omega, rfl, (Below.refl _ _).alloc (Nat.le_refl _) _, by simp, fun k hk => ?_⟩
  have hk' : k < (pieceB c s).length := by rw [pieceB_length]; exact hk
  refine ⟨(pieceB c s)[k], by simp [hk'], split_size _ _ s _ (List.getElem_mem hk'), ?_⟩
  rw [World.cell?_alloc_new]
  show ((pieceB c s).map Value.string).toArray[k]? = _
  simp [hk']

def flagsParse (l : List UInt8) : Option Nat :=
  if Lib.hasPrefix l [40] && Lib.hasSuffix (Lib.trimPrefix l [40]) [41] then
    if Lib.trimSuffix (Lib.trimPrefix l [40]) [41] = [] then some 0
    else ((pieces 32 (Lib.trimSuffix (Lib.trimPrefix l [40]) [41])).mapM flagOf).map fun fs => fs.foldl (· ||| ·) 0
  else none
theorem or_bits : ∀ a b : Fin 32, bits BinOp.or .u8 (a.val : Int) (b.val : Int) = ((a.val ||| b.val : Nat) : Int) ∧ (a.val ||| b.val) < 32 := by decide +kernel
theorem flagOf_lt (x : List UInt8) (f : Nat) (h : flagOf x = some f) : f < 32 := by
  unfold flagOf flagIdx at h
  cases hf : (List.range 5).find? fun i => upNm i == upL x with
  | none => rw [hf] at h; simp at h
  | some i =>
    rw [hf] at h
    simp only [Option.map_some, Option.some.injEq] at h
    have h2 := List.mem_of_find?_eq_some hf
    simp only [List.mem_range] at h2
    have hk5 : i = 0 ∨ i = 1 ∨ i = 2 ∨ i = 3 ∨ i = 4 := by omega
    rcases hk5 with rfl | rfl | rfl | rfl | rfl <;> omega
theorem fold_lt (fs : List Nat) (a : Nat) (ha : a < 32) (h : ∀ f ∈ fs, f < 32) : fs.foldl (· ||| ·) a < 32 := by
  induction fs generalizing a with
  | nil => exact ha
  | cons f fs ih => exact ih _ (or_bits ⟨a, ha⟩ ⟨f, h f (by simp)⟩).2 (fun g hg => h g (by simp [hg]))
theorem mapM_flag_lt (l : List (List UInt8)) (fs : List Nat) (h : l.mapM flagOf = some fs) : ∀ f ∈ fs, f < 32 := by
  induction l generalizing fs with
  | nil => simp at h; subst h; simp
  | cons x l ih =>
    simp only [List.mapM_cons, Option.bind_eq_bind, Option.bind_eq_some_iff, Option.pure_def, Option.some.injEq] at h
    obtain ⟨b, hb, r', h2, rfl⟩ := h
    intro f hf
    rcases List.mem_cons.1 hf with rfl | hf
    · exact flagOf_lt _ _ hb
    · exact ih r' h2 f hf
def flV (o : Option Nat) : Value := .tuple #[.int .u8 ((o.getD 0 : Nat) : Int), .bool o.isSome]
/-- The sum of what the words so far denote. -/
def orL (fs : List Nat) : Nat := fs.foldl (· ||| ·) 0

set_option maxRecDepth 100000 in
set_option maxHeartbeats 1600000 in
theorem fparse_any (s : ByteArray) (hs : s.size ≤ 1000000) (w : World) (hE : Env w) :
    Calls Tryz.prog 173 #[.string s] w fun e w' => e = .returned (flV (flagsParse s.data.toList)) ∧ Below w.heap.size w w' := by
  obtain ⟨R, hR⟩ : ∃ R, R = flV (flagsParse s.data.toList) := ⟨_, rfl⟩
  rw [← hR]
  obtain ⟨o1, ho1⟩ : ∃ x, x = Lib.hasPrefix s.data.toList [40] := ⟨_, rfl⟩
  obtain ⟨p, hp⟩ : ∃ x, x = Lib.trimPrefix s.data.toList [40] := ⟨_, rfl⟩
  obtain ⟨o2, ho2⟩ : ∃ x, x = Lib.hasSuffix p [41] := ⟨_, rfl⟩
  obtain ⟨q, hq⟩ : ∃ x, x = Lib.trimSuffix p [41] := ⟨_, rfl⟩
  have hpl : p.length ≤ s.size := by rw [hp]; unfold Lib.trimPrefix; split <;> simp
  have hql : q.length ≤ p.length := by rw [hq]; unfold Lib.trimSuffix; split <;> simp
  have hc1 := fun W => Tryz.strings_CutPrefix s ⟨#[40]⟩ W
  rw [show (⟨#[40]⟩ : ByteArray).data.toList = [40] from rfl, ← ho1, ← hp] at hc1
  have hc2 := fun W => Tryz.strings_CutSuffix ⟨p.toArray⟩ ⟨#[41]⟩ W (by rw [bsz]; omega)
  rw [show (⟨#[41]⟩ : ByteArray).data.toList = [41] from rfl, show (⟨p.toArray⟩ : ByteArray).data.toList = p from rfl, ← ho2, ← hq] at hc2
  have hspec : flagsParse s.data.toList = if o1 && o2 then if q = [] then some 0 else ((pieces 32 q).mapM flagOf).map orL else none := by
    rw [ho1, ho2, hq, hp]; rfl
  rw [hspec] at hR
  have HR := Lib.hid hR
  have HE := Lib.hid hE
  have HC1 := Lib.hid hc1
  have HC2 := Lib.hid hc2
  clear hspec hR hE hc1 hc2 ho1 hp ho2 hq
  by_cases hoo : o1 = true ∧ o2 = true
  · obtain ⟨rfl, rfl⟩ := hoo
    by_cases hq0 : q = []
    · subst hq0
      go_enter Tryz.func173, Tryz.ntmps173
      go_wp2_with (first | (go_at_call 194; refine (HC1.out _).mono ?_; rintro e w' ⟨rfl, hw⟩; obtain rfl := hw.symm) | (go_at_call 142; refine (HC2.out _).mono ?_; rintro e w' ⟨rfl, hw⟩; obtain rfl := hw.symm))
      go_ret2
      exact ⟨by rw [HR.out]; rfl, Below.refl _ _⟩
    · have hq1 : q.isEmpty = false := by cases q with | nil => exact absurd rfl hq0 | cons a r => rfl
      go_enter Tryz.func173, Tryz.ntmps173
      go_wp2_with (first | (go_at_call 194; refine (HC1.out _).mono ?_; rintro e w' ⟨rfl, hw⟩; obtain rfl := hw.symm) | (go_at_call 142; refine (HC2.out _).mono ?_; rintro e w' ⟨rfl, hw⟩; obtain rfl := hw.symm))
      refine (byName_any _ HE.out).mono ?_
      rintro e w1 ⟨B, rfl, hBw, hm1, hb1⟩
      have HM1 := Lib.hid hm1
      clear hm1
      go_wp2_with fail
      refine (split_any 32 ⟨q.toArray⟩ (by rw [bsz]; omega) _ (HE.out.below hb1)).mono ?_
      rintro e w2 ⟨n, hn, hns, rfl, hb2, hz2, hcell⟩
      rw [bsz] at hns
      have hBz := HM1.out.lt
      have hm2 : w2.ownsMap Tryz.prog 9 (plainElem Tryz.prog 23) B 5 (Dk 5) := HM1.out.kept (below_grown hb2 none) (by simp)
      have HM2 := Lib.hid hm2
      have HC := Lib.hid hcell
      have HN := Lib.hid hn
      have hb12 : Below w.heap.size w w2 := hb1.trans (hb2.mono hb1.size)
      have hz12 := hb12.size
      clear hm2 hcell hn
      go_wp2_with fail
      go_loopw [7, 35] (fun v i wr => ∃ (k : Nat) (fs : List Nat), k ≤ n ∧ i = .int .i64 k ∧ (((pieceB 32 ⟨q.toArray⟩).take k).map (·.data.toList)).mapM flagOf = some fs ∧ v = .int .u8 (orL fs : Nat) ∧ Below w2.heap.size w2 wr)
        (fun _ i _ => n - (intOf i).toNat)
      case atStart => exact ⟨0, [], by omega, rfl, rfl, rfl, Below.refl _ _⟩
      case round =>
        obtain ⟨k, fs, hk, rfl, hfs, rfl, hb⟩ := hrel
        have hsz := hb.size
        by_cases hlt : k < n
        · obtain ⟨x, hx, hxs, hxc⟩ := HC.out k hlt
          rw [bsz q] at hxs
          have hxs2 : x.size ≤ 1000000 := by omega
          have hxl : x.data.toList.length ≤ 1000000 := by simpa using hxs2
          have hck : wr.cell? ⟨w1.heap.size, k, none⟩ = some (.string x) := (hb.cell (p := ⟨w1.heap.size, k, none⟩) hz2).trans hxc
          have hmr : wr.ownsMap Tryz.prog 9 (plainElem Tryz.prog 23) B 5 (Dk 5) := HM2.out.kept (below_grown hb none) (by simp)
          have HMR := Lib.hid hmr
          have HX := Lib.hid hx
          have HFS := Lib.hid hfs
          obtain ⟨acc, hacc⟩ : ∃ a, a = orL fs := ⟨_, rfl⟩
          rw [← hacc]
          have hal : acc < 32 := by rw [hacc]; exact fold_lt fs 0 (by omega) (mapM_flag_lt _ _ hfs)
          have HA := Lib.hid hacc
          clear hxc hmr hx hfs hacc
          go_wp2_with fail
          refine (upper_any x (by unfold maxLen; omega) wr).mono ?_
          rintro e w3 ⟨rfl, hb3⟩
          have hm3 : w3.ownsMap Tryz.prog 9 (plainElem Tryz.prog 23) B 5 (Dk 5) := HMR.out.kept (below_grown hb3 none) (by simp)
          have HM3 := Lib.hid hm3
          have hb4 : Below w2.heap.size w2 w3 := hb.trans (hb3.mono hsz)
          clear hm3 hb3 hck
          have hul : (upL x.data.toList).length ≤ maxLen := by unfold upL maxLen; rw [List.length_map]; omega
          have hkey : keyOf Tryz.prog 9 (.string ⟨(upL x.data.toList).toArray⟩) = some (.string (upL x.data.toList)) := keyOf_string_mk (s := ⟨(upL x.data.toList).toArray⟩) Tryz.underlying9 (by rw [bsz]; exact hul)
          have HKEY := Lib.hid hkey
          clear hul hkey
          have HB4 := Lib.hid hb4
          cases hfo : flagIdx (upL x.data.toList) with
          | none =>
            have hxo : flagOf x.data.toList = none := by unfold flagOf; rw [hfo]; rfl
            have hfin : R = .tuple #[.int .u8 0, .bool false] := by
              rw [HR.out, if_pos (show (true && true) = true from rfl), if_neg hq0]
              have hpz : (pieces 32 q).mapM flagOf = none := by
                unfold pieces
                obtain ⟨hk1, hk2⟩ := List.getElem?_eq_some_iff.1 HX.out
                rw [← List.take_append_drop k (pieceB 32 ⟨q.toArray⟩), List.drop_eq_getElem_cons hk1, List.map_append, List.map_cons, List.mapM_append, hk2]
                rw [HFS.out]
                simp [hxo]
              rw [hpz]; rfl
            have HF := Lib.hid hfin
            have hno : Maps.has (Dk 5) (.string (upL x.data.toList)) = false := by
              rw [Dk_has]
              unfold flagIdx at hfo
              rw [List.find?_eq_none] at hfo
              simpa using hfo
            clear hfin hxo hfo
            go_wp2_with (at_lookup; refine wpList_lookup_own_ok_int _ rfl _ _ 217 rfl 9 23 .u8 strLaw Tryz.underlying217 Tryz.underlying23 (zeroE23 _) B 5 (Dk 5) rfl HM3.out _ _ rfl HKEY.out ?_; intro c hat hwc; clear hat)
            go_ret2
            exact ⟨by rw [HF.out]; rfl, hb12.trans (HB4.out.mono hz12)⟩
          | some i =>
            have hxo : flagOf x.data.toList = some (2 ^ i) := by unfold flagOf; rw [hfo]; rfl
            have hfl := flagOf_lt _ _ hxo
            have hor := or_bits ⟨acc, hal⟩ ⟨2 ^ i, hfl⟩
            have hfs2 : (((pieceB 32 ⟨q.toArray⟩).take (k + 1)).map (·.data.toList)).mapM flagOf = some (fs ++ [2 ^ i]) := by
              obtain ⟨hk1, hk2⟩ := List.getElem?_eq_some_iff.1 HX.out
              rw [List.take_succ_eq_append_getElem hk1, List.map_append, List.mapM_append, HFS.out, hk2]
              simp [hxo]
            have hor2 : ((acc ||| 2 ^ i : Nat) : Int) = (orL (fs ++ [2 ^ i]) : Nat) := by rw [HA.out]; unfold orL; rw [List.foldl_append]; rfl
            obtain ⟨F, hF⟩ : ∃ F : Int, F = ((2 ^ i : Nat) : Int) := ⟨_, rfl⟩
            have hor1 : bits BinOp.or .u8 (acc : Int) F = (orL (fs ++ [2 ^ i]) : Nat) := by rw [hF, ← hor2]; exact hor.1
            obtain ⟨Z, hZ⟩ : ∃ Z : Int, Z = (orL (fs ++ [2 ^ i]) : Nat) := ⟨_, rfl⟩
            rw [← hZ] at hor1
            have hlk := fun c h => Dk_look (upL x.data.toList) c h
            rw [hfo] at hlk
            have hlk2 : ∀ c : Int, (Dk 5).atKey (.string (upL x.data.toList)) (.lit (.int .u8 0)) = .lit (.int .u8 c) → c = F := fun c h => by rw [(hlk c h).1, hF]; rfl
            have hno : Maps.has (Dk 5) (.string (upL x.data.toList)) = true := by
              rw [Dk_has]
              have h1 := List.find?_some hfo
              have h2 := List.mem_of_find?_eq_some hfo
              exact List.any_eq_true.2 ⟨i, h2, h1⟩
            have HLK := Lib.hid hlk2
            have HFS2 := Lib.hid hfs2
            have HZ := Lib.hid hZ
            clear hxo hfo hor hor2 hlk hlk2 hfs2 hZ hF
            go_wp2_with (at_lookup; refine wpList_lookup_own_ok_int _ rfl _ _ 217 rfl 9 23 .u8 strLaw Tryz.underlying217 Tryz.underlying23 (zeroE23 _) B 5 (Dk 5) rfl HM3.out _ _ rfl HKEY.out ?_; intro c hat hwc; obtain rfl := HLK.out c hat; clear hat)
            go_roundw
            case rel => exact ⟨k + 1, fs ++ [2 ^ i], by omega, by go_num, HFS2.out, by rw [HZ.out], HB4.out⟩
            case measure => simp [intOf]; omega
        · obtain rfl : k = n := by omega
          have hfin : R = .tuple #[.int .u8 (orL fs : Nat), .bool true] := by
            rw [HR.out, if_pos (show (true && true) = true from rfl), if_neg hq0]
            have hpz : (pieces 32 q).mapM flagOf = some fs := by
              unfold pieces
              rw [List.take_of_length_le (by rw [HN.out]; exact Nat.le_refl _)] at hfs
              exact hfs
            rw [hpz]; rfl
          have HF := Lib.hid hfin
          obtain ⟨Z, hZ⟩ : ∃ Z : Int, Z = (orL fs : Nat) := ⟨_, rfl⟩
          rw [← hZ]
          have HZ := Lib.hid hZ
          clear hfin hfs hZ
          go_wp2_with fail
          go_ret2
          exact ⟨by rw [HF.out, ← HZ.out]; rfl, hb12.trans (hb.mono hz12)⟩
  · have hfin : R = .tuple #[.int .u8 0, .bool false] := by rw [HR.out]; cases o1 <;> cases o2 <;> first | rfl | (exfalso; simp at hoo)
    have HF := Lib.hid hfin
    clear hfin
    cases o1
    · go_enter Tryz.func173, Tryz.ntmps173
      go_wp2_with (first | (go_at_call 194; refine (HC1.out _).mono ?_; rintro e w' ⟨rfl, hw⟩; obtain rfl := hw.symm) | (go_at_call 142; refine (HC2.out _).mono ?_; rintro e w' ⟨rfl, hw⟩; obtain rfl := hw.symm))
      go_ret2
      exact ⟨by rw [HF.out]; rfl, Below.refl _ _⟩
    · cases o2
      · go_enter Tryz.func173, Tryz.ntmps173
        go_wp2_with (first | (go_at_call 194; refine (HC1.out _).mono ?_; rintro e w' ⟨rfl, hw⟩; obtain rfl := hw.symm) | (go_at_call 142; refine (HC2.out _).mono ?_; rintro e w' ⟨rfl, hw⟩; obtain rfl := hw.symm))
        go_ret2
        exact ⟨by rw [HF.out]; rfl, Below.refl _ _⟩
      · simp at hoo
end Go.Proofs.YtkdnfjafabgioaaGreatDoor.Own
