import Derived.Test.YtkdnfjafabgioaaGreatDoorA13
import Derived.Lib.SlBytesRowKit2
import Derived.Lib.SlBytesConst
set_option linter.unusedVariables false
set_option linter.unusedSimpArgs false
namespace Go.Proofs.YtkdnfjafabgioaaGreatDoor.Own
open Go.RowKit Go.Shelf

def lastIxTo (l : List UInt8) (c : UInt8) : Nat → Int
  | 0 => -1
  | k + 1 => if l.getD k 0 = c then (k : Int) else lastIxTo l c k
def lastIx (l : List UInt8) (c : UInt8) : Int := lastIxTo l c l.length
theorem lastIxTo_lt (l : List UInt8) (c : UInt8) (k : Nat) : -1 ≤ lastIxTo l c k ∧ lastIxTo l c k < k := by
  induction k with
  | zero => simp [lastIxTo]
  | succ k ih =>
    unfold lastIxTo
    split <;> omega

set_option maxRecDepth 100000 in
set_option maxHeartbeats 800000 in
theorem lastByte_any (A : Option Addr) (cp : Nat) (l : List UInt8) (ci : Int) (c : UInt8) (hc : ci = (c.toNat : Int)) (w : World) (hA : Byt w A l) :
    Calls Tryz.prog 183 #[.slice A l.length cp, .int .u8 ci] w fun e w' => e = .returned (.int .i64 (lastIx l c)) ∧ Below w.heap.size w w' := by
  have hin : Calls Tryz.prog 205 #[.slice A l.length cp, .int .u8 ci] w fun e w' => e = .returned (.int .i64 (lastIx l c)) ∧ Below w.heap.size w w' := by
    have hl := hA.1
    unfold maxLen at hl
    obtain ⟨R, hR⟩ : ∃ R, R = lastIx l c := ⟨_, rfl⟩
    rw [← hR]
    have HR := Lib.hid hR
    have HA := Lib.hid hA
    have HC := Lib.hid hc
    clear hR hA hc
    go_enter Tryz.func205, Tryz.ntmps205
    go_wp2_with fail
    go_loopw [5] (fun i wr => ∃ k : Nat, k ≤ l.length ∧ i = .int .i64 ((k : Int) - 1) ∧ R = lastIxTo l c k ∧ Below w.heap.size w wr)
      (fun i _ => (intOf i + 1).toNat)
    case atStart => exact ⟨l.length, Nat.le_refl _, rfl, HR.out, Below.refl _ _⟩
    case round =>
      obtain ⟨k, hk, rfl, hr, hb⟩ := hrel
      have HRR := Lib.hid hr
      clear hr
      cases k with
      | zero =>
        have hfin : R = -1 := by rw [HRR.out]; rfl
        have HF := Lib.hid hfin
        clear hfin
        go_wp2_with fail
        go_ret
        exact ⟨by rw [HF.out]; rfl, hb⟩
      | succ k =>
        obtain ⟨b, o, rfl, hbz, hcell⟩ := HA.out.at (by omega)
        obtain ⟨x, hx⟩ : ∃ x, x = l.getD k 0 := ⟨_, rfl⟩
        have hck : wr.cell? ⟨b, o + k, none⟩ = some (.int .u8 (x.toNat : Int)) := (hb.cell (p := ⟨b, o + k, none⟩) hbz).trans (by rw [hcell k (by omega), hx])
        have hk1 : ((k + 1 : Nat) : Int) - 1 = (k : Int) := by omega
        rw [hk1]
        clear hcell hk1
        by_cases he : x = c
        · have hfin : R = (k : Int) := by rw [HRR.out]; unfold lastIxTo; rw [← hx, if_pos he]
          have ht : ((x.toNat : Int) == ci) = true := by rw [HC.out, he]; simp
          have HF := Lib.hid hfin
          clear hfin he hx
          go_wp2_with fail
          go_ret
          exact ⟨by rw [HF.out]; rfl, hb⟩
        · have hfin : R = lastIxTo l c k := by rw [HRR.out, lastIxTo, ← hx, if_neg he]
          have ht : ((x.toNat : Int) == ci) = false := by rw [HC.out]; simp; intro e; exact he (UInt8.toNat_inj.1 (by omega))
          have HF := Lib.hid hfin
          clear hfin he hx
          go_wp2_with fail
          go_roundw
          case rel => exact ⟨k, by omega, rfl, HF.out, hb⟩
          case measure => simp [intOf]
  have HI := Lib.hid hin
  clear hin hc hA
  go_enter Tryz.func183, Tryz.ntmps183
  go_wp2_with (go_at_call 205; refine HI.out.mono ?_; rintro e w' ⟨rfl, hb⟩)
  go_ret
  exact ⟨rfl, hb⟩

/-- The shortest form. -/
def bestOf (l : List UInt8) : List UInt8 := match quotedOf l with
  | some q => q
  | none => litOf l

theorem cap_le (w : World) (s : ByteArray) : s.data.toList.length ≤ grownCap w s.size 0 5 := by
  have := grownCap_ge w s.size 0 5
  simpa using this

set_option maxRecDepth 100000 in
theorem best_any (A : Option Addr) (cp : Nat) (l : List UInt8) (w : World) (hE : Env w) (hA : Byt w A l) (hl : l.length ≤ 1000000000) :
    Calls Tryz.prog 109 #[.slice A l.length cp] w fun e w' => ∃ v, e = .returned v ∧ BytRes w (bestOf l) v w' := by
  have hq := quoted_any A cp l w hA hl
  have hli := fun (w1 : World) (hb : Below w.heap.size w w1) => literal_any A cp l w1 (hE.below hb) (hA.below hb) hl
  have HL := Lib.hid hli
  cases hk : quotedOf l with
  | none =>
    rw [hk] at hq
    have hbest : bestOf l = litOf l := by unfold bestOf; rw [hk]
    have HQ := Lib.hid hq
    have HB := Lib.hid hbest
    clear hq hk hbest hli hE hA
    go_enter Tryz.func109, Tryz.ntmps109
    go_wp2_with fail
    refine HQ.out.mono ?_
    rintro e w1 ⟨rfl, hb⟩
    unfold qV
    go_wp2_with fail
    refine (HL.out w1 hb).mono ?_
    rintro e w2 ⟨v, rfl, N, c, rfl, h1, h2, h3, h4, h5⟩
    have hbs := hb.size
    go_wp2_with fail
    go_ret
    exact ⟨_, rfl, N, c, by rw [HB.out]; rfl, by rw [HB.out]; exact h1, Nat.le_trans hbs h2, h3, by rw [HB.out]; exact h4, hb.trans (h5.mono hbs)⟩
  | some q =>
    rw [hk] at hq
    have hbest : bestOf l = q := by unfold bestOf; rw [hk]
    have HQ := Lib.hid hq
    have HB := Lib.hid hbest
    have kb := run_bytes ⟨q.toArray⟩
    clear hq hk hbest hli hE hA
    go_enter Tryz.func109, Tryz.ntmps109
    go_wp2_with fail
    refine HQ.out.mono ?_
    rintro e w1 ⟨rfl, hb⟩
    unfold qV
    simp only [Option.getD_some, Option.isSome_some]
    go_wp2_with fail
    go_ret
    exact ⟨_, rfl, w1.heap.size, _, by rw [HB.out]; rfl, by rw [HB.out]; exact cap_le w1 ⟨q.toArray⟩, hb.size, by rw [Lib.bytesWorld_size]; omega, by rw [HB.out]; exact bytesN w1 ⟨q.toArray⟩, hb.trans ((bytesWorld_below w1 ⟨q.toArray⟩).mono hb.size)⟩

theorem Byt.take {w : World} {A : Option Addr} {l : List UInt8} (h : Byt w A l) (k : Nat) : Byt w A (l.take k) := by
  refine ⟨Nat.le_trans (List.length_take_le' k l) h.1, fun hn => ?_⟩
  have hl : (l.take k).length ≤ l.length := List.length_take_le' k l
  obtain ⟨b, o, e, _, hc⟩ := h.at (by omega)
  refine ⟨b, o, e, fun i hi => ?_⟩
  rw [hc i (by omega), ints_getD]
  have : i < k := by rw [List.length_take] at hi; omega
  simp [List.getD_eq_getElem?_getD, List.getElem?_take, this]
theorem Byt.drop {w : World} {b o : Nat} {l : List UInt8} (h : Byt w (some ⟨b, o, none⟩) l) (k : Nat) : Byt w (some ⟨b, o + k, none⟩) (l.drop k) := by
  refine ⟨Nat.le_trans (by simp) h.1, fun hn => ?_⟩
  have hl : k < l.length := by simp at hn; omega
  obtain ⟨b', o', e, _, hc⟩ := h.at (by omega)
  cases e
  refine ⟨b, o + k, rfl, fun i hi => ?_⟩
  rw [Nat.add_assoc, hc (k + i) (by simp at hi; omega), ints_getD]
  simp [List.getD_eq_getElem?_getD, List.getElem?_drop]

/-- The length of the literal that a line announces. -/
def announcedOf (l : List UInt8) : Option Nat :=
  if Lib.hasSuffix l [125] then
    if lastIx (l.take (l.length - 1)) 123 < 0 then none
    else numOf ((l.take (l.length - 1)).drop ((lastIx (l.take (l.length - 1)) 123).toNat + 1))
  else none
theorem numberL (l : List UInt8) (hl : l.length ≤ 281474976710656) (w : World) (hE : Env w) :
    Calls Tryz.prog 184 #[.string ⟨l.toArray⟩] w fun e w' => e = .returned (numV (numOf l)) ∧ Below w.heap.size w w' := number_any ⟨l.toArray⟩ (by rw [bsz]; exact hl) w hE
theorem numOf_lt (l : List UInt8) (n : Nat) (h : numOf l = some n) : n < 4294967296 := by
  unfold numOf at h
  split at h
  · rename_i u hu
    split at h
    · simp at h; subst h; exact parse_lt _ _ hu
    · simp at h
  · simp at h
def annV (o : Option Nat) : Value := .tuple #[.int .i64 ((o.getD 0 : Nat) : Int), .bool o.isSome]

set_option maxRecDepth 100000 in
set_option maxHeartbeats 1600000 in
theorem announced_any (A : Option Addr) (cp : Nat) (l : List UInt8) (w : World) (hE : Env w) (hA : Byt w A l) (hcp : l.length ≤ cp) (hl : l.length ≤ 1000000000) :
    Calls Tryz.prog 162 #[.slice A l.length cp] w fun e w' => e = .returned (annV (announcedOf l)) ∧ Below w.heap.size w w' := by
  have kc := fun (w : World) (C : Array Value) (n c : Nat) => Lib.run_convert_bytes_const (P := Tryz.prog) w 24 5 C n c Tryz.underlying24 Tryz.underlying5
  obtain ⟨W1, hW1⟩ : ∃ W1, W1 = w.alloc (.cells #[.int .u8 125] 5 (1, 2)) := ⟨_, rfl⟩
  have hb1 : Below w.heap.size w W1 := by rw [hW1]; exact (Below.refl _ _).alloc (Nat.le_refl _) _
  have hc1 : W1.cell? ⟨w.heap.size, 0, none⟩ = some (.int .u8 125) := by rw [hW1]; simp [World.cell?, World.alloc, -World.alloc_eq]
  have hb1s := hb1.size
  have hcs := Tryz.bytes_CutSuffix_all A (some ⟨w.heap.size, 0, none⟩) l.length cp 1 1 (ints l) [125] W1 (ints_length l) rfl hcp (by omega) (hA.below hb1).2
    (fun _ => ⟨w.heap.size, 0, rfl, fun i hi => by obtain rfl : i = 0 := by omega
                                                   exact hc1⟩)
  rw [trimSuffixV_eq (ints_length l) (hA.below hb1).2, bytesOf_ints, show Lib.bytesOf [125] = [125] from rfl] at hcs
  obtain ⟨R, hR⟩ : ∃ R, R = annV (announcedOf l) := ⟨_, rfl⟩
  rw [← hR]
  have HR := Lib.hid hR
  have HA := Lib.hid hA
  have HE := Lib.hid hE
  have HW1 := Lib.hid hW1
  by_cases hsf : Lib.hasSuffix l [125] = true
  · rw [hsf] at hcs
    rw [if_pos rfl] at hcs
    obtain ⟨q, hq⟩ : ∃ q, q = l.take (l.length - 1) := ⟨_, rfl⟩
    have hln : 0 < l.length := by
      cases l with
      | nil => simp [Lib.hasSuffix, List.isSuffixOf] at hsf
      | cons a r => simp
    have hql : q.length = l.length - 1 := by rw [hq]; simp
    have hqb : Byt W1 A q := by rw [hq]; exact (hA.below hb1).take _
    rw [show l.length - ([125] : List Int).length = q.length from hql.symm] at hcs
    have hlq := lastByte_any A cp q 123 123 rfl W1 hqb
    obtain ⟨i, hi⟩ : ∃ i, i = lastIx q 123 := ⟨_, rfl⟩
    have hib : -1 ≤ i ∧ i < q.length := by rw [hi]; exact lastIxTo_lt q 123 q.length
    rw [← hi] at hlq
    have hspec : announcedOf l = if i < 0 then none else numOf (q.drop (i.toNat + 1)) := by rw [hi, hq]; unfold announcedOf; rw [if_pos hsf]
    have HSP := Lib.hid hspec
    have HC := Lib.hid hcs
    have HL := Lib.hid hlq
    have HQ := Lib.hid hqb
    have hqc : q.length < cp := by omega
    have hqle : q.length ≤ 1000000000 := by omega
    have HQL := Lib.hid hql
    clear hspec hcs hlq hqb hq hi hR hA hE hsf hW1 hc1 hql hln
    by_cases hi0 : i < 0
    · have hfin : R = .tuple #[.int .i64 0, .bool false] := by rw [HR.out, HSP.out, if_pos hi0]; rfl
      have HF := Lib.hid hfin
      clear hfin
      go_enter Tryz.func162, Tryz.ntmps162
      go_wp2_with fail
      rw [← HW1.out]
      refine HC.out.mono ?_
      rintro e w2 ⟨rfl, hw2⟩
      obtain rfl := hw2.symm
      go_wp2_with fail
      refine HL.out.mono ?_
      rintro e w3 ⟨rfl, hb3⟩
      go_wp2_with fail
      go_ret2
      exact ⟨by rw [HF.out]; rfl, hb1.trans (hb3.mono hb1s)⟩
    · obtain ⟨j, rfl⟩ := Int.eq_ofNat_of_zero_le (show 0 ≤ i by omega)
      obtain ⟨b, o, rfl, hbz, _⟩ := HQ.out.at (by omega)
      go_enter Tryz.func162, Tryz.ntmps162
      go_wp2_with fail
      rw [← HW1.out]
      refine HC.out.mono ?_
      rintro e w2 ⟨rfl, hw2⟩
      obtain rfl := hw2.symm
      go_wp2_with fail
      refine HL.out.mono ?_
      rintro e w3 ⟨rfl, hb3⟩
      have hst := ((HQ.out.below hb3).drop (j + 1)).string (cp - (j + 1))
      rw [List.length_drop] at hst
      have hjc : ¬ cp = j + 1 := by omega
      have hn := numberL (q.drop (j + 1)) (by simp; omega) w3 (HE.out.below (hb1.trans (hb3.mono hb1s)))
      have HN := Lib.hid hn
      clear hn
      go_wp2_with fail
      have hb4 : Below w.heap.size w w3 := hb1.trans (hb3.mono hb1s)
      clear hst hb3
      cases hk : numOf (q.drop (j + 1)) with
      | none =>
        have hfin : R = .tuple #[.int .i64 0, .bool false] := by
          rw [HR.out, HSP.out, if_neg (by omega), Int.toNat_natCast, hk]; rfl
        have HF := Lib.hid hfin
        have hn2 := HN.out
        rw [hk] at hn2
        have HN2 := Lib.hid hn2
        clear hfin hn2 hk
        refine HN2.out.mono ?_
        rintro e w4 ⟨rfl, hb5⟩
        unfold numV
        go_wp2_with fail
        go_ret2
        exact ⟨by rw [HF.out]; rfl, hb4.trans (hb5.mono hb4.size)⟩
      | some n =>
        have hfin : R = .tuple #[.int .i64 (n : Int), .bool true] := by
          rw [HR.out, HSP.out, if_neg (by omega), Int.toNat_natCast, hk]; rfl
        have HF := Lib.hid hfin
        have hnl := numOf_lt _ _ hk
        have hn2 := HN.out
        rw [hk] at hn2
        have HN2 := Lib.hid hn2
        clear hfin hn2 hk
        refine HN2.out.mono ?_
        rintro e w4 ⟨rfl, hb5⟩
        unfold numV
        simp only [Option.getD_some, Option.isSome_some]
        go_wp2_with fail
        go_ret2
        exact ⟨by rw [HF.out]; rfl, hb4.trans (hb5.mono hb4.size)⟩
  · rw [Bool.not_eq_true] at hsf
    rw [hsf] at hcs
    simp only [Bool.false_eq_true, if_false] at hcs
    have hfin : R = .tuple #[.int .i64 0, .bool false] := by rw [HR.out]; unfold announcedOf; rw [hsf]; rfl
    have HF := Lib.hid hfin
    have HC := Lib.hid hcs
    clear hfin hcs hR hA hE hsf hW1 hc1
    go_enter Tryz.func162, Tryz.ntmps162
    go_wp2_with fail
    rw [← HW1.out]
    refine HC.out.mono ?_
    rintro e w2 ⟨rfl, hw2⟩
    obtain rfl := hw2.symm
    go_wp2_with fail
    go_ret2
    exact ⟨by rw [HF.out]; rfl, hb1⟩
end Go.Proofs.YtkdnfjafabgioaaGreatDoor.Own
