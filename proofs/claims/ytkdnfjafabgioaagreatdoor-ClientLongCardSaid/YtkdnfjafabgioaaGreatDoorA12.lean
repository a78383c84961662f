import Derived.Test.YtkdnfjafabgioaaGreatDoorA11
set_option linter.unusedVariables false
set_option linter.unusedSimpArgs false
namespace Go.Proofs.YtkdnfjafabgioaaGreatDoor.Own
open Go.RowKit Go.Shelf

def esc (c : UInt8) : List UInt8 := if c.toNat = 34 ∨ c.toNat = 92 then [92, c] else [c]
def escL (l : List UInt8) : List UInt8 := l.flatMap esc
theorem escL_snoc (l : List UInt8) (c : UInt8) : escL (l ++ [c]) = escL l ++ esc c := by simp [escL]
theorem escL_len (l : List UInt8) : (escL l).length ≤ 2 * l.length := by
  induction l with
  | nil => simp [escL]
  | cons c l ih =>
    have h1 : escL (c :: l) = esc c ++ escL l := by simp [escL]
    have h2 : (esc c).length ≤ 2 := by unfold esc; split <;> simp
    rw [h1, List.length_append, List.length_cons]
    omega
/-- The quoted form, if there is one. -/
def quotedOf (l : List UInt8) : Option (List UInt8) := if allL textB l then some (34 :: (escL l ++ [34])) else none
theorem byteCells_snoc (l : List UInt8) (c : UInt8) : Lib.byteCells l ++ [.int .u8 (c.toNat : Int)] = Lib.byteCells (l ++ [c]) := by simp [Lib.byteCells]

theorem put_any (B b : Nat) (l : List UInt8) (ci : Int) (c : UInt8) (hc : ci = (c.toNat : Int)) (w : World) (h : Lib.IsBuilder 96 5 B b (Lib.byteCells l) w) (hlen : l.length + 1 ≤ 140737488355328) (hBw : B ≤ w.heap.size) :
    Calls Tryz.prog 177 #[.int .u8 ci, .pointer (some ⟨b, 0, none⟩)] w fun e w' => e = .returned (.tuple #[]) ∧ Lib.IsBuilder 96 5 B b (Lib.byteCells (l ++ [c])) w' ∧ Below B w w' := by
  subst hc
  have hwb := writeByte B b (Lib.byteCells l) (c.toNat : Int) w h (by rw [Lib.byteCells_length]; exact hlen) hBw
  have HW := Lib.hid hwb
  clear hwb
  go_enter Tryz.func177, Tryz.ntmps177
  go_wp2_with (go_at_call 178; refine HW.out.mono ?_; rintro e w' ⟨rfl, hb, hbel⟩)
  go_end0
  exact ⟨rfl, .inr (by rw [← byteCells_snoc]; exact hb), hbel⟩

theorem lt_list (l : List UInt8) (k : Nat) (h : k < l.length) : l.take (k + 1) = l.take k ++ [l.getD k 0] := by
  rw [List.take_succ_eq_append_getElem h]
  simp [List.getD_eq_getElem?_getD, h]

def qV (o : Option (List UInt8)) : Value := .tuple #[.string ⟨(o.getD []).toArray⟩, .bool o.isSome]

set_option maxRecDepth 100000 in
set_option maxHeartbeats 3200000 in
theorem quoted_any (A : Option Addr) (cp : Nat) (l : List UInt8) (w : World) (hA : Byt w A l) (hl : l.length ≤ 1000000000) :
    Calls Tryz.prog 158 #[.slice A l.length cp] w fun e w' => e = .returned (qV (quotedOf l)) ∧ Below w.heap.size w w' := by
  have hmf : ∀ (fn : Fn) (first cap : Array Value) (w : World), (Instr.makeFunc fn first cap).run Tryz.prog w = .ok (.func fn first cap) w := fun _ _ _ _ => rfl
  obtain ⟨R, hR⟩ : ∃ R, R = qV (quotedOf l) := ⟨_, rfl⟩
  rw [← hR]
  have HR := Lib.hid hR
  have HA := Lib.hid hA
  clear hR hA
  go_enter Tryz.func158, Tryz.ntmps158
  go_wp2_with fail
  have h0 : Lib.IsBuilder 96 5 w.heap.size w.heap.size (Lib.byteCells []) (w.alloc (.cells #[.pointer none, .slice none 0 0] 96)) := by
    refine .inl ⟨Nat.le_refl _, .slice none 0 0, ?_, World.ownsRow_nil _ _ _ _, by simp [Value.ownBlock]⟩
    exact heap_alloc_new _ _
  refine (put_any w.heap.size w.heap.size [] 34 34 rfl _ h0 (by simp) (by simp)).mono ?_
  rintro e w1 ⟨rfl, hb1, hl1⟩
  have hbw : Below w.heap.size w w1 := ((Below.refl _ _).alloc (Nat.le_refl _) _).trans hl1
  have H0 := Lib.hid hb1
  clear hb1 h0 hl1
  go_wp2_with fail
  go_loopw [13] (fun i wr => ∃ k : Nat, k ≤ l.length ∧ i = .int .i64 k ∧ allL textB (l.take k) = true ∧ Lib.IsBuilder 96 5 w.heap.size w.heap.size (Lib.byteCells (34 :: escL (l.take k))) wr ∧ Below w.heap.size w wr)
    (fun i _ => l.length - (intOf i).toNat)
  case atStart => exact ⟨0, by omega, rfl, rfl, H0.out, hbw⟩
  case round =>
    obtain ⟨k, hk, rfl, hall, hbl, hb⟩ := hrel
    have hsz := hb.size
    have HBL := Lib.hid hbl
    have HALL := Lib.hid hall
    have hel : (escL (l.take k)).length ≤ 2 * l.length := by have := escL_len (l.take k); have := List.length_take_le k l; omega
    clear hbl hall hbw
    by_cases hlt : k < l.length
    · obtain ⟨b, o, rfl, hbz, hcell⟩ := HA.out.at (by omega)
      obtain ⟨x, hx⟩ : ∃ x, x = l.getD k 0 := ⟨_, rfl⟩
      have hck : wr.cell? ⟨b, o + k, none⟩ = some (.int .u8 (x.toNat : Int)) := (hb.cell (p := ⟨b, o + k, none⟩) hbz).trans (by rw [hcell k hlt, hx])
      have hts := lt_list l k hlt
      rw [← hx] at hts
      have HTS := Lib.hid hts
      have HX := Lib.hid hx
      clear hcell hx hts
      by_cases htx : textB x = true
      · by_cases hx34 : x.toNat = 34 ∨ x.toNat = 92
        · have hes : esc x = [92, x] := if_pos hx34
          have HES := Lib.hid hes
          clear hes
          have hfin : allL textB (l.take (k + 1)) = true := by rw [HTS.out, allL_snoc, HALL.out, htx]; rfl
          have HF := Lib.hid hfin
          clear hfin
          rcases hx34 with h34 | h34
          · have ht1 : ((x.toNat : Int) == 34) = true := by simp [h34]
            clear h34
            go_wp2_with (go_at_call 179; refine (text_any _ _).mono ?_; rintro e w' ⟨rfl, rfl⟩)
            refine (put_any w.heap.size w.heap.size _ 92 92 rfl wr HBL.out (by simp; omega) hsz).mono ?_
            rintro e w2 ⟨rfl, hb2, hl2⟩
            have hl3 := hb.trans hl2
            have hsz3 := hl3.size
            have HB2 := Lib.hid hb2
            clear hb2 hl2
            go_wp2_with fail
            refine (put_any w.heap.size w.heap.size _ _ x rfl w2 HB2.out (by simp; omega) hsz3).mono ?_
            rintro e w3 ⟨rfl, hb4, hl4⟩
            have hl5 := hl3.trans hl4
            have hn : 34 :: escL (l.take k) ++ [92] ++ [x] = 34 :: escL (l.take (k + 1)) := by rw [HTS.out, escL_snoc, HES.out]; simp
            rw [hn] at hb4
            have HB4 := Lib.hid hb4
            clear hb4 hl4 hn
            go_wp2_with fail
            go_roundw
            case rel => exact ⟨k + 1, by omega, by go_num, HF.out, HB4.out, hl5⟩
            case measure => simp [intOf]; omega
          · have ht1 : ((x.toNat : Int) == 34) = false := by simp [h34]
            have ht2 : ((x.toNat : Int) == 92) = true := by simp [h34]
            clear h34
            go_wp2_with (go_at_call 179; refine (text_any _ _).mono ?_; rintro e w' ⟨rfl, rfl⟩)
            refine (put_any w.heap.size w.heap.size _ 92 92 rfl wr HBL.out (by simp; omega) hsz).mono ?_
            rintro e w2 ⟨rfl, hb2, hl2⟩
            have hl3 := hb.trans hl2
            have hsz3 := hl3.size
            have HB2 := Lib.hid hb2
            clear hb2 hl2
            go_wp2_with fail
            refine (put_any w.heap.size w.heap.size _ _ x rfl w2 HB2.out (by simp; omega) hsz3).mono ?_
            rintro e w3 ⟨rfl, hb4, hl4⟩
            have hl5 := hl3.trans hl4
            have hn : 34 :: escL (l.take k) ++ [92] ++ [x] = 34 :: escL (l.take (k + 1)) := by rw [HTS.out, escL_snoc, HES.out]; simp
            rw [hn] at hb4
            have HB4 := Lib.hid hb4
            clear hb4 hl4 hn
            go_wp2_with fail
            go_roundw
            case rel => exact ⟨k + 1, by omega, by go_num, HF.out, HB4.out, hl5⟩
            case measure => simp [intOf]; omega
        · have hes : esc x = [x] := if_neg hx34
          have HES := Lib.hid hes
          have hfin : allL textB (l.take (k + 1)) = true := by rw [HTS.out, allL_snoc, HALL.out, htx]; rfl
          have HF := Lib.hid hfin
          have ht1 : ((x.toNat : Int) == 34) = false := by simp; omega
          have ht2 : ((x.toNat : Int) == 92) = false := by simp; omega
          clear hes hfin hx34
          go_wp2_with (go_at_call 179; refine (text_any _ _).mono ?_; rintro e w' ⟨rfl, rfl⟩)
          refine (put_any w.heap.size w.heap.size _ _ x rfl wr HBL.out (by simp; omega) hsz).mono ?_
          rintro e w3 ⟨rfl, hb4, hl4⟩
          have hl5 := hb.trans hl4
          have hn : 34 :: escL (l.take k) ++ [x] = 34 :: escL (l.take (k + 1)) := by rw [HTS.out, escL_snoc, HES.out]; simp
          rw [hn] at hb4
          have HB4 := Lib.hid hb4
          clear hb4 hl4 hn
          go_wp2_with fail
          go_roundw
          case rel => exact ⟨k + 1, by omega, by go_num, HF.out, HB4.out, hl5⟩
          case measure => simp [intOf]; omega
      · rw [Bool.not_eq_true] at htx
        have hno : allL textB l = false := by
          rw [← List.take_append_drop (k + 1) l, HTS.out, allL_app, allL_snoc, HALL.out, htx]
          rfl
        have hfin : R = .tuple #[.string ⟨#[]⟩, .bool false] := by rw [HR.out]; unfold quotedOf; rw [hno]; rfl
        have HF := Lib.hid hfin
        clear hno hfin
        go_wp2_with (go_at_call 179; refine (text_any _ _).mono ?_; rintro e w' ⟨rfl, rfl⟩)
        go_ret2
        exact ⟨by rw [HF.out]; rfl, hb⟩
    · obtain rfl : k = l.length := by omega
      have hall2 : allL textB l = true := by have := HALL.out; rwa [List.take_length] at this
      have hbl2 := HBL.out
      rw [List.take_length] at hbl2 hel
      have hfin : R = .tuple #[.string ⟨(34 :: (escL l ++ [34])).toArray⟩, .bool true] := by rw [HR.out]; unfold quotedOf; rw [hall2]; rfl
      have HF := Lib.hid hfin
      have HB2 := Lib.hid hbl2
      clear hall2 hbl2 hfin
      go_wp2_with fail
      refine (put_any w.heap.size w.heap.size _ 34 34 rfl wr HB2.out (by simp; omega) hsz).mono ?_
      rintro e w3 ⟨rfl, hb4, hl4⟩
      have hl5 := hb.trans hl4
      have hsz5 := hl5.size
      have HB4 := Lib.hid hb4
      clear hb4 hl4
      go_wp2_with fail
      refine (Tryz.Builder_String w.heap.size w.heap.size _ w3 HB4.out (by simp)).mono ?_
      rintro e w4 ⟨rfl, hl6⟩
      have hl7 := hl5.trans hl6
      clear hl6 hl5
      go_wp2_with fail
      go_ret2
      exact ⟨by rw [HF.out]; rfl, hl7⟩
end Go.Proofs.YtkdnfjafabgioaaGreatDoor.Own
