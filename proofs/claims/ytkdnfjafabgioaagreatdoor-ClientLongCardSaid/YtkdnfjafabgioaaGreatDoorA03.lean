import Derived.Test.YtkdnfjafabgioaaGreatDoorA02
import Derived.Shelf.Bytes.SlSmallAll
import Derived.Lib.ConvBytes
import Derived.Laws.BytesArg
namespace Go.Proofs.YtkdnfjafabgioaaGreatDoor.Own
open Go.RowKit Go.Shelf

/-! Bytes in memory. -/
def ints (l : List UInt8) : List Int := l.map fun c => (c.toNat : Int)
theorem ints_length (l : List UInt8) : (ints l).length = l.length := by simp [ints]
theorem ints_getD (l : List UInt8) (j : Nat) : (ints l).getD j 0 = ((l.getD j 0).toNat : Int) := by
  simp only [ints, List.getD_eq_getElem?_getD, List.getElem?_map]
  cases l[j]? <;> rfl
theorem ints_range (l : List UInt8) : ∀ x ∈ ints l, 0 ≤ x ∧ x < 256 := by
  intro x hx
  obtain ⟨c, _, rfl⟩ := List.mem_map.1 hx
  have := c.toNat_lt
  omega
theorem bytesOf_ints (l : List UInt8) : Lib.bytesOf (ints l) = l := by
  simp [Lib.bytesOf, ints, Function.comp_def]
/-- A slice of bytes that is read: its address, its bytes. -/
def Byt (w : World) (p : Option Addr) (l : List UInt8) : Prop := l.length ≤ maxLen ∧ Lib.BytesIn w p l.length (ints l)
/-- The bytes of a block, from its head; none is frozen. -/
structure BytN (w : World) (N : Nat) (l : List UInt8) : Prop where
  cell : ∀ j, j < l.length → w.cell? ⟨N, j, none⟩ = some (.int .u8 ((l.getD j 0).toNat : Int))
  free : ∀ j, j < l.length → w.frozen? ⟨N, j, none⟩ = false
theorem Byt.at {w : World} {p : Option Addr} {l : List UInt8} (h : Byt w p l) (hn : 0 < l.length) : ∃ b o, p = some ⟨b, o, none⟩ ∧ b < w.heap.size ∧ ∀ j, j < l.length → w.cell? ⟨b, o + j, none⟩ = some (.int .u8 ((l.getD j 0).toNat : Int)) := by
  obtain ⟨b, o, e, hc⟩ := h.2.at hn
  refine ⟨b, o, e, World.block_lt_of_cell? w _ (hc 0 hn), fun j hj => ?_⟩
  rw [hc j hj, ints_getD]
theorem Byt.below {w w' : World} {p : Option Addr} {l : List UInt8} (h : Byt w p l) (hb : Below w.heap.size w w') : Byt w' p l := by
  refine ⟨h.1, fun hn => ?_⟩
  obtain ⟨b, o, e, hc⟩ := h.2.at hn
  refine ⟨b, o, e, fun i hi => (hb.cell (p := ⟨b, o + i, none⟩) (World.block_lt_of_cell? w _ (hc i hi))).trans (hc i hi)⟩
theorem Byt.nil (w : World) (p : Option Addr) : Byt w p [] := ⟨by simp, Lib.BytesIn.nil _ _ _⟩
theorem BytN.byt {w : World} {N : Nat} {l : List UInt8} (h : BytN w N l) (hl : l.length ≤ maxLen) : Byt w (some ⟨N, 0, none⟩) l :=
  ⟨hl, fun _ => ⟨N, 0, rfl, fun i hi => by rw [Nat.zero_add, ints_getD]; exact h.cell i hi⟩⟩
theorem BytN.below {w w' : World} {N : Nat} {l : List UInt8} (h : BytN w N l) (hb : Below w.heap.size w w') (hN : N < w.heap.size) : BytN w' N l :=
  ⟨fun j hj => (hb.cell (p := ⟨N, j, none⟩) hN).trans (h.cell j hj), fun j hj => (hb.frozen (p := ⟨N, j, none⟩) hN).trans (h.free j hj)⟩
theorem BytN.set {w : World} {N : Nat} {l : List UInt8} (h : BytN w N l) (k : Nat) (hk : k < l.length) (c : UInt8) : BytN (w.setCell ⟨N, k, none⟩ (.int .u8 (c.toNat : Int))) N (l.set k c) := by
  constructor
  · intro j hj
    rw [List.length_set] at hj
    by_cases e : j = k
    · subst e
      rw [World.cell?_setCell_same' _ _ _ (by rw [h.cell j hj]; rfl)]
      simp [List.getD_eq_getElem?_getD, hj]
    · rw [World.cell?_setCell_other _ _ _ _ (by simp <;> omega), h.cell j hj]
      simp [List.getD_eq_getElem?_getD, Ne.symm e]
  · intro j hj
    rw [List.length_set] at hj
    rw [World.frozen?_setCell]
    exact h.free j hj
/-- '[]byte(s)'. -/
theorem bytesN (w : World) (s : ByteArray) : BytN (Lib.bytesWorld w 5 s) w.heap.size s.data.toList := by
  have hsz : s.data.toList.length = s.size := by simp
  constructor
  · intro j hj
    exact Lib.bytesWorld_cell w 5 s j (by omega)
  · intro j hj
    have h := Lib.bytesWorld_at_new w 5 s
    have hz : s.size ≤ (Lib.bytesCells w 5 s).size := by unfold Lib.bytesCells; simp
    unfold World.frozen?
    rw [h]
    simp
    omega
theorem bytesWorld_below (w : World) (s : ByteArray) : Below w.heap.size w (Lib.bytesWorld w 5 s) :=
  ⟨rfl, rfl, rfl, by rw [Lib.bytesWorld_size]; omega, fun i hi => Lib.bytesWorld_at_old w 5 s i hi⟩
theorem run_bytes (s : ByteArray) (W : World) : (convert 9 24 (.string s)).run Tryz.prog W = .ok (.slice (some ⟨W.heap.size, 0, none⟩) s.size (grownCap W s.size 0 5)) (Lib.bytesWorld W 5 s) :=
  Lib.run_convert_string_bytes W 9 24 5 s Tryz.underlying9 Tryz.underlying24 Tryz.underlying5
theorem Byt.string {w : World} {p : Option Addr} {l : List UInt8} (h : Byt w p l) (c : Nat) : (convert 24 9 (.slice p l.length c)).run Tryz.prog w = .ok (.string ⟨l.toArray⟩) w := by
  rcases Nat.eq_zero_or_pos l.length with h0 | h0
  · obtain rfl := List.eq_nil_of_length_eq_zero h0
    cases p with
    | none => exact run_convert_bytes_nil w 24 5 Tryz.underlying24 Tryz.underlying5 0 c 9 Tryz.underlying9
    | some a =>
      show (convert 24 9 (.slice (some a) 0 c)).run Tryz.prog w = _
      rw [run_convert_bytes_string w 24 9 5 _ 0 c Tryz.underlying24 Tryz.underlying5 Tryz.underlying9]
      simp [Conv.bytesToString, loadCells, loadCellsFrom]
      rfl
  · obtain ⟨b, o, rfl, _, hc⟩ := h.at h0
    have := run_convert_bytes_arg (P := Tryz.prog) w 24 5 Tryz.underlying24 Tryz.underlying5 b o l.length c (ints l) (ints_length l) (fun i hi => by rw [hc i hi, ints_getD]) 9 Tryz.underlying9
    have e : strOfNums (ints l) = ⟨l.toArray⟩ := by unfold strOfNums; simp [ints, Function.comp_def]
    rw [this, e]

def upB (c : UInt8) : UInt8 := if 97 ≤ c.toNat ∧ c.toNat ≤ 122 then c - 32 else c
theorem up_bits (c : UInt8) (h : 97 ≤ c.toNat ∧ c.toNat ≤ 122) : bits BinOp.andNot .u8 (c.toNat : Int) 32 = ((upB c).toNat : Int) := by
  have key : ∀ n : Fin 256, 97 ≤ n.val ∧ n.val ≤ 122 → bits BinOp.andNot .u8 (n.val : Int) 32 = ((upB (UInt8.ofNat n.val)).toNat : Int) := by decide +kernel
  have := key ⟨c.toNat, c.toNat_lt⟩ h
  simpa using this

theorem up2_any (c : UInt8) (w : World) : Calls Tryz.prog 133 #[.int .u8 c.toNat] w fun e w' => e = .returned (.int .u8 (upB c).toNat) ∧ w = w' := by
  have := u8_range c
  by_cases h1 : 97 ≤ c.toNat
  · by_cases h2 : c.toNat ≤ 122
    · have hb := up_bits c ⟨h1, h2⟩
      go_enter Tryz.func133, Tryz.ntmps133
      go_wp2
      go_ret
      exact ⟨rfl, rfl⟩
    · have hu : upB c = c := if_neg (by omega)
      have H := Lib.hid hu
      clear hu
      go_enter Tryz.func133, Tryz.ntmps133
      go_wp2
      go_ret
      exact ⟨by rw [H.out]; rfl, rfl⟩
  · have hu : upB c = c := if_neg (by omega)
    have H := Lib.hid hu
    clear hu
    go_enter Tryz.func133, Tryz.ntmps133
    go_wp2
    go_ret
    exact ⟨by rw [H.out]; rfl, rfl⟩
end Go.Proofs.YtkdnfjafabgioaaGreatDoor.Own
