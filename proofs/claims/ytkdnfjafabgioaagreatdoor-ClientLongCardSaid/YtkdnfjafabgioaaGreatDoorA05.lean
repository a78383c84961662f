import Derived.Test.YtkdnfjafabgioaaGreatDoorA04
import Derived.Test.YtkdnfjafabgioaaGreatDoorShelf
import Derived.Lib.AppendIntMem
import Derived.WideLaws
set_option linter.unusedVariables false
set_option linter.unusedSimpArgs false
namespace Go.Proofs.YtkdnfjafabgioaaGreatDoor.Own
open Go.RowKit Go.Shelf
open Go.Sort (putRow grow alloc_eq_grow putRow_grow_new cell?_putRow)

/-- What is asked of the package-level variables. -/
structure Env (w : World) : Prop where
  pow : Lib.TabIs Tryz.prog w "internal/strconv.uint64pow10" .u64 Lib.pow10Tab
  esyn : ∃ tp p, w.var? Tryz.prog "strconv.ErrSyntax" = some #[.iface tp p]
  erng : ∃ tp p, w.var? Tryz.prog "strconv.ErrRange" = some #[.iface tp p]
  mlen : ∃ m, w.cell? ⟨2, 0, none⟩ = some (.int .i64 m)
  asp : Lib.TabIs Tryz.prog w "strings.asciiSpace" .u8 Lib.asciiSpaceTab

theorem var_below {P : Program} {w w' : World} {n : String} {cs : Array Value} (hb : Below w.heap.size w w') (h : w.var? P n = some cs) : w'.var? P n = some cs := by
  unfold World.var? at h ⊢
  cases hg : P.globalNamed n with
  | none => rw [hg] at h; simp at h
  | some g =>
    rw [hg] at h
    simp only [Option.bind_some] at h ⊢
    have hlt : g < w.heap.size := by
      rcases Nat.lt_or_ge g w.heap.size with hl | hl
      · exact hl
      · rw [Array.getElem?_eq_none hl] at h; simp at h
    rw [hb.block g hlt]
    exact h
theorem Env.below {w w' : World} (h : Env w) (hb : Below w.heap.size w w') : Env w' := by
  obtain ⟨h1, ⟨a, b, h2⟩, ⟨c, d, h3⟩, ⟨m, h4⟩, h5⟩ := h
  exact ⟨var_below hb h1, ⟨a, b, var_below hb h2⟩, ⟨c, d, var_below hb h3⟩, ⟨m, (hb.cell (p := ⟨2, 0, none⟩) (World.block_lt_of_cell? w _ h4)).trans h4⟩, var_below hb h5⟩
theorem Env.drew {w : World} (h : Env w) : Env w.drew := h.below (Below.refl _ _).drew
theorem Env.alloc {w : World} (h : Env w) (o : Obj) : Env (w.alloc o) := h.below ((Below.refl _ _).alloc (Nat.le_refl _) o)

theorem fin0 (w : World) (o : Obj) (dk : Array UInt8) (k : Nat) : ∃ os, (putRow (fun (b : UInt8) => Value.int .u8 (b.toNat : Int)) (w.alloc o) w.heap.size 0 dk).drewN k = grow (w.drewN k) os := by
  rw [alloc_eq_grow]
  obtain ⟨os', _, e⟩ := putRow_grow_new (fun (b : UInt8) => Value.int .u8 (b.toNat : Int)) w #[o] w.heap.size 0 dk (Nat.le_refl _)
  exact ⟨os', by rw [e]; rfl⟩
theorem grow_below (w : World) (k : Nat) (os : Array Obj) : Below w.heap.size w (grow (w.drewN k) os) :=
  ⟨rfl, rfl, rfl, by simp [grow], fun i hi => by simp only [grow]; exact Array.getElem?_append_left hi⟩

set_option maxRecDepth 100000 in
theorem fmt180 (u : Nat) (hu : u < 4294967296) (w : World) (hE : Env w) :
    Calls Tryz.prog 180 #[.int .u64 u, .int .i64 10] w fun e w' => e = .returned (.string ⟨(Lib.decDigits u).toArray⟩) ∧ Below w.heap.size w w' := by
  by_cases h100 : u < 100
  · go_enter Tryz.func180, Tryz.ntmps180
    go_wp2_with (go_at_call 196; refine (Tryz.internal_strconv_small u h100 _).mono ?_; rintro e w' ⟨rfl, rfl⟩)
    go_ret
    exact ⟨rfl, Below.refl _ _⟩
  · have hu1 : 1 ≤ u := by omega
    have hu64 : u < 18446744073709551616 := by omega
    have hnd20 : Lib.nDigits u ≤ 20 := by have := Lib.numDigits_eq u hu1 hu64; split at this <;> omega
    have hal : Tryz.prog.arrayLen 221 = 24 := by kernel_rfl
    have hsl1 : ∀ W, (Instr.sliceAt 221 (.pointer (some ⟨w.heap.size, 0, none⟩)) none (some (.int .i64 (Lib.nDigits u : Int))) none).run Tryz.prog W = .ok (.slice (some ⟨w.heap.size, 0, none⟩) (Lib.nDigits u) 24) W := fun W => by
      rw [run_sliceAt_array_h W 221 ⟨w.heap.size, 0, none⟩ (by kernel_rfl) .i64 (Lib.nDigits u : Int) (by omega) (by rw [hal]; omega)]
      go_simp
    have hH0 := Lib.holds_zero0 w 221 (Lib.nDigits u) (by omega)
    have hfmt := Tryz.internal_strconv_formatBase10 w.heap.size 0 24 u (Array.replicate (Lib.nDigits u) 0) (w.alloc (.cells Lib.zeros24 221)) hH0 (by rw [Array.size_replicate]; exact Lib.lt_pow_nDigits u) hu64 (by rw [Array.size_replicate]; omega)
    rw [Array.size_replicate] at hfmt
    have HH0 := Lib.hid hH0
    have HP := Lib.hid (hE.alloc (.cells Lib.zeros24 221)).pow
    clear hH0 hal hE
    go_enter Tryz.func180, Tryz.ntmps180
    go_wp2_with (go_at_call 197; go_must (refine (Tryz.internal_strconv_numDigits u hu1 hu64 _ HP.out).mono ?_); rintro e w' ⟨rfl, rfl⟩)
    have HF := Lib.hid hfmt
    clear hfmt
    refine HF.out.mono ?_
    rintro e w' ⟨rfl, k, v', dk, rfl, hF⟩
    have hcv : (convert 24 9 (.slice (some ⟨w.heap.size, 0, none⟩) (Lib.nDigits u) 24)).run Tryz.prog ((putRow (fun (b : UInt8) => Value.int .u8 (b.toNat : Int)) (w.alloc (.cells Lib.zeros24 221)) w.heap.size 0 dk).drewN k) = .ok (.string ⟨(Lib.decDigits u).toArray⟩) ((putRow (fun (b : UInt8) => Value.int .u8 (b.toNat : Int)) (w.alloc (.cells Lib.zeros24 221)) w.heap.size 0 dk).drewN k) := by
      have h := run_convert_bytes_back (P := Tryz.prog) ((putRow (fun (b : UInt8) => Value.int .u8 (b.toNat : Int)) (w.alloc (.cells Lib.zeros24 221)) w.heap.size 0 dk).drewN k) 24 9 5 ⟨w.heap.size, 0, none⟩ 24 (Lib.decDigits u) Tryz.underlying24 Tryz.underlying5 Tryz.underlying9 (fun j hj => by
        rw [Lib.row_is_numeral hF j hj, Lib.add_plain, World.cell?_drewN]
        exact cell?_putRow (fun (b : UInt8) => Value.int .u8 (b.toNat : Int)) _ w.heap.size 0 _ dk HH0.out (by rw [hF.size, Array.size_replicate]) j (by rw [hF.size]; rw [Lib.decDigits_length] at hj; exact hj))
      rw [Lib.decDigits_length] at h
      exact h
    have hbel : Below w.heap.size w ((putRow (fun (b : UInt8) => Value.int .u8 (b.toNat : Int)) (w.alloc (.cells Lib.zeros24 221)) w.heap.size 0 dk).drewN k) := by
      obtain ⟨os, e⟩ := fin0 w (.cells Lib.zeros24 221) dk k
      rw [e]
      exact grow_below w k os
    go_wp2_with fail
    go_ret
    exact ⟨rfl, hbel⟩

theorem fmt_any (u : Nat) (hu : u < 4294967296) (w : World) (hE : Env w) :
    Calls Tryz.prog 159 #[.int .u64 u, .int .i64 10] w fun e w' => e = .returned (.string ⟨(Lib.decDigits u).toArray⟩) ∧ Below w.heap.size w w' := by
  go_enter Tryz.func159, Tryz.ntmps159
  go_wp2_with (go_at_call 180; refine (fmt180 u hu _ hE).mono ?_; rintro e w' ⟨rfl, hb⟩)
  go_ret
  exact ⟨rfl, hb⟩

theorem decimal_any (u : Nat) (hu : u < 4294967296) (w : World) (hE : Env w) :
    Calls Tryz.prog 112 #[.int .u32 u] w fun e w' => e = .returned (.string ⟨(Lib.decDigits u).toArray⟩) ∧ Below w.heap.size w w' := by
  go_enter Tryz.func112, Tryz.ntmps112
  go_wp2_with (go_at_call 159; refine (fmt_any u hu _ hE).mono ?_; rintro e w' ⟨rfl, hb⟩)
  go_ret
  exact ⟨rfl, hb⟩

/-- What 'char.Number' tells. -/
def numOf (l : List UInt8) : Option Nat :=
  match Lib.parseUintB 32 l with
  | .ok u => if Lib.decDigits u = l then some u else none
  | _ => none
def numV (o : Option Nat) : Value := .tuple #[.int .u32 ((o.getD 0 : Nat) : Int), .bool o.isSome]

theorem parse_lt (l : List UInt8) (u : Nat) (h : Lib.parseUintB 32 l = .ok u) : u < 4294967296 := by
  unfold Lib.parseUintB at h
  split at h
  · simp at h
  · have := Lib.parseUintM_le (2 ^ 32 - 1) l 0 u (by omega) h
    omega

set_option maxRecDepth 100000 in
theorem number_any (s : ByteArray) (hs : s.size ≤ 281474976710656) (w : World) (hE : Env w) :
    Calls Tryz.prog 184 #[.string s] w fun e w' => e = .returned (numV (numOf s.data.toList)) ∧ Below w.heap.size w w' := by
  obtain ⟨N, hN⟩ : ∃ N, N = numV (numOf s.data.toList) := ⟨_, rfl⟩
  rw [← hN]
  cases hp : Lib.parseUintB 32 s.data.toList with
  | ok u =>
    have hu := parse_lt _ _ hp
    by_cases hd : Lib.decDigits u = s.data.toList
    · have hn : N = .tuple #[.int .u32 (u : Int), .bool true] := by rw [hN]; simp [numOf, hp, hd, numV]
      have H := Lib.hid hn
      have HP := Lib.hid hp
      have HE := Lib.hid hE
      have hne : (Lib.decDigits u == s.toList) = true := by rw [ByteArray.toList_eq]; simp [hd]
      clear hn hN hp hd
      go_enter Tryz.func184, Tryz.ntmps184
      go_wp2_with fail
      refine (Tryz.strconv_ParseUint_10_at32_ok s (by omega) u HP.out _).mono ?_
      rintro e w1 ⟨rfl, hw1⟩
      have hb1 : Below w.heap.size w w1 := by
        rcases hw1 with rfl | rfl
        · exact Below.refl _ _
        · exact bytesWorld_below w s
      clear hw1
      go_wp2_with fail
      refine (decimal_any u hu w1 (HE.out.below hb1)).mono ?_
      rintro e w2 ⟨rfl, hb2⟩
      have hb3 := hb1.trans (hb2.mono hb1.size)
      clear hb2 hb1
      go_wp2_with fail
      go_ret2
      exact ⟨by rw [H.out]; rfl, hb3⟩
    · have hn : N = .tuple #[.int .u32 0, .bool false] := by rw [hN]; simp [numOf, hp, hd, numV]
      have H := Lib.hid hn
      have HP := Lib.hid hp
      have HE := Lib.hid hE
      have hne : (Lib.decDigits u == s.toList) = false := by rw [ByteArray.toList_eq]; simp [hd]
      clear hn hN hp hd
      go_enter Tryz.func184, Tryz.ntmps184
      go_wp2_with fail
      refine (Tryz.strconv_ParseUint_10_at32_ok s (by omega) u HP.out _).mono ?_
      rintro e w1 ⟨rfl, hw1⟩
      have hb1 : Below w.heap.size w w1 := by
        rcases hw1 with rfl | rfl
        · exact Below.refl _ _
        · exact bytesWorld_below w s
      clear hw1
      go_wp2_with fail
      refine (decimal_any u hu w1 (HE.out.below hb1)).mono ?_
      rintro e w2 ⟨rfl, hb2⟩
      have hb3 := hb1.trans (hb2.mono hb1.size)
      clear hb2 hb1
      go_wp2_with fail
      go_ret2
      exact ⟨by rw [H.out]; rfl, hb3⟩
  | «syntax» =>
    have hn : N = .tuple #[.int .u32 0, .bool false] := by rw [hN]; simp [numOf, hp, numV]
    obtain ⟨tp, p, hv⟩ := hE.esyn
    have H := Lib.hid hn
    have HP := Lib.hid hp
    have HV := Lib.hid hv
    clear hn hN hp hv
    go_enter Tryz.func184, Tryz.ntmps184
    go_wp2_with fail
    refine (Tryz.strconv_ParseUint_10_at32_syntax_var s (by omega) HP.out tp p _ HV.out).mono ?_
    rintro e w1 ⟨M, rfl, _, _, hb1⟩
    go_wp2_with fail
    go_ret2
    exact ⟨by rw [H.out]; rfl, hb1⟩
  | range =>
    have hn : N = .tuple #[.int .u32 0, .bool false] := by rw [hN]; simp [numOf, hp, numV]
    obtain ⟨tp, p, hv⟩ := hE.erng
    have H := Lib.hid hn
    have HP := Lib.hid hp
    have HV := Lib.hid hv
    clear hn hN hp hv
    go_enter Tryz.func184, Tryz.ntmps184
    go_wp2_with fail
    refine (Tryz.strconv_ParseUint_10_at32_range_var s (by omega) HP.out tp p _ HV.out).mono ?_
    rintro e w1 ⟨M, rfl, _, _, hb1⟩
    go_wp2_with fail
    go_ret2
    exact ⟨by rw [H.out]; rfl, hb1⟩
end Go.Proofs.YtkdnfjafabgioaaGreatDoor.Own
