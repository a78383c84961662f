import Derived.Test.YtkdnfjafabgioaaGreatDoorA29
set_option linter.unusedVariables false
set_option linter.unusedSimpArgs false
namespace Go.Proofs.YtkdnfjafabgioaaGreatDoor.Own
open Go.RowKit Go.Shelf

/-- A command's fields. -/
structure Cmd where
  tag : List UInt8
  kind : Int
  box : List UInt8
  set : List (Nat × Nat)
  items : Int
  mode : Int
  silent : Bool
  flags : Nat
  data : List UInt8
/-- A command as a value: SV, DV: where its set and its data lie. -/
def cmdV (c : Cmd) (SV DV : Value) : Value := .agg #[.string ⟨c.tag.toArray⟩, .int .i64 c.kind, .string ⟨c.box.toArray⟩, SV, .int .i64 c.items, .int .i64 c.mode, .bool c.silent, .int .u8 (c.flags : Int), DV]
/-- What a command's set and data are in memory. -/
structure CmdIn (w : World) (c : Cmd) (SV DV : Value) : Prop where
  set : ∃ A cp, SV = .slice A c.set.length cp ∧ c.set.length ≤ cp ∧ CellsIn w 0 A (rngCells c.set)
  data : ∃ A cp, DV = .slice A c.data.length cp ∧ c.data.length ≤ cp ∧ Byt w A c.data
  nilS : ∀ cp, SV = .slice none c.set.length cp → c.set = [] ∧ cp = 0
  nilD : ∀ cp, DV = .slice none c.data.length cp → c.data = [] ∧ cp = 0

theorem heap_second (w : World) (o1 o2 : Obj) : ((w.alloc o1).alloc o2).heap[w.heap.size + 1]? = some o2 := by
  have := World.alloc_heap_new (w.alloc o1) o2
  rwa [World.size_alloc] at this
/-- The later fields of a boxed command. -/
theorem box_fields {W w' : World} {b : Nat} {v0 v1 v2 v3 v4 v5 v6 v7 v8 : Value} (hb : Below W.heap.size W w') (hz : b < W.heap.size) (h : W.heap[b]? = some (.cells #[v0, v1, v2, v3, v4, v5, v6, v7, v8] 26)) :
    w'.cell? ⟨b, 4, none⟩ = some v4 ∧ w'.cell? ⟨b, 5, none⟩ = some v5 ∧ w'.cell? ⟨b, 6, none⟩ = some v6 ∧ w'.cell? ⟨b, 7, none⟩ = some v7 ∧ w'.cell? ⟨b, 8, none⟩ = some v8 := by
  have h' := (hb.block b hz).trans h
  refine ⟨?_, ?_, ?_, ?_, ?_⟩ <;> simp [World.cell?, h']

set_option maxRecDepth 100000 in
set_option maxHeartbeats 3200000 in
theorem same_any (a b : Cmd) (SA SB DA DB : Value) (w : World) (ha : CmdIn w a SA DA) (hb : CmdIn w b SB DB) (hal : a.set.length ≤ 1000000000) :
    Calls Tryz.prog 54 #[cmdV a SA DA, cmdV b SB DB] w fun e w' => e = .returned (.bool (decide (a.tag = b.tag) && (decide (a.kind = b.kind) && (decide (a.box = b.box) && (decide (a.set = b.set) && (decide (a.items = b.items) && (decide (a.mode = b.mode) && (decide (a.silent = b.silent) && (decide (a.flags = b.flags) && decide (a.data = b.data)))))))))) ∧ Below w.heap.size w w' := by
  obtain ⟨sA, sc, rfl, _, hsa⟩ := ha.set
  obtain ⟨sB, sd, rfl, _, hsb⟩ := hb.set
  obtain ⟨dA, dc, rfl, _, hda⟩ := ha.data
  obtain ⟨dB, dd, rfl, _, hdb⟩ := hb.data
  obtain ⟨atag, akind, abox, aset, aitems, amode, asil, afl, adata⟩ := a
  obtain ⟨btag, bkind, bbox, bset, bitems, bmode, bsil, bfl, bdata⟩ := b
  simp only at *
  unfold cmdV
  simp only
  have HS := Lib.hid (And.intro hsa (And.intro hsb (And.intro hda hdb)))
  clear hsa hsb hda hdb ha hb
  have hq : ∀ W, Below w.heap.size w W → Calls Tryz.prog 105 #[.slice sA aset.length sc, .slice sB bset.length sd] W fun e w' => e = .returned (.bool (decide (aset = bset))) ∧ Below W.heap.size W w' := fun W hW => eqRanges_any sA sB sc sd 0 aset bset W (HS.out.1.below hW) (HS.out.2.1.below hW) hal
  have HQ := Lib.hid hq
  clear hq
  by_cases h : atag = btag
  rotate_left
  · go_enter Tryz.func54, Tryz.ntmps54
    go_wp2_with fail
    go_ret
    exact ⟨by simp [h], ((Below.refl _ _).alloc (Nat.le_refl _) _).alloc (by simp) _⟩
  subst h
  by_cases h : akind = bkind
  rotate_left
  · go_enter Tryz.func54, Tryz.ntmps54
    go_wp2_with fail
    go_ret
    exact ⟨by simp [h], ((Below.refl _ _).alloc (Nat.le_refl _) _).alloc (by simp) _⟩
  subst h
  by_cases h : abox = bbox
  rotate_left
  · go_enter Tryz.func54, Tryz.ntmps54
    go_wp2_with fail
    go_ret
    exact ⟨by simp [h], ((Below.refl _ _).alloc (Nat.le_refl _) _).alloc (by simp) _⟩
  subst h
  by_cases h : aset = bset
  rotate_left
  · go_enter Tryz.func54, Tryz.ntmps54
    go_wp2_with fail
    refine (HQ.out _ ?_).mono ?_
    · exact ((Below.refl _ _).alloc (Nat.le_refl _) _).alloc (by simp) _
    rintro e w1 ⟨rfl, hb1⟩
    obtain ⟨ax4, ax5, ax6, ax7, ax8⟩ := box_fields (b := w.heap.size) hb1 (by simp; omega) (by rw [Below.heap_alloc _ _ _ (by simp)]; exact World.alloc_heap_new w _)
    obtain ⟨bx4, bx5, bx6, bx7, bx8⟩ := box_fields (b := w.heap.size + 1) hb1 (by simp) (heap_second _ _ _)
    have hbw : Below w.heap.size w w1 := (((Below.refl _ _).alloc (Nat.le_refl _) _).alloc (by simp) _).trans (hb1.mono (by simp; omega))
    have kda := (HS.out.2.2.1.below hbw).string dc
    have kdb := (HS.out.2.2.2.below hbw).string dd
    clear hb1
    go_wp2_with fail
    go_ret
    exact ⟨by simp [h], hbw⟩
  subst h
  by_cases h : aitems = bitems
  rotate_left
  · go_enter Tryz.func54, Tryz.ntmps54
    go_wp2_with fail
    refine (HQ.out _ ?_).mono ?_
    · exact ((Below.refl _ _).alloc (Nat.le_refl _) _).alloc (by simp) _
    rintro e w1 ⟨rfl, hb1⟩
    obtain ⟨ax4, ax5, ax6, ax7, ax8⟩ := box_fields (b := w.heap.size) hb1 (by simp; omega) (by rw [Below.heap_alloc _ _ _ (by simp)]; exact World.alloc_heap_new w _)
    obtain ⟨bx4, bx5, bx6, bx7, bx8⟩ := box_fields (b := w.heap.size + 1) hb1 (by simp) (heap_second _ _ _)
    have hbw : Below w.heap.size w w1 := (((Below.refl _ _).alloc (Nat.le_refl _) _).alloc (by simp) _).trans (hb1.mono (by simp; omega))
    have kda := (HS.out.2.2.1.below hbw).string dc
    have kdb := (HS.out.2.2.2.below hbw).string dd
    clear hb1
    go_wp2_with fail
    go_ret
    exact ⟨by simp [h], hbw⟩
  subst h
  by_cases h : amode = bmode
  rotate_left
  · go_enter Tryz.func54, Tryz.ntmps54
    go_wp2_with fail
    refine (HQ.out _ ?_).mono ?_
    · exact ((Below.refl _ _).alloc (Nat.le_refl _) _).alloc (by simp) _
    rintro e w1 ⟨rfl, hb1⟩
    obtain ⟨ax4, ax5, ax6, ax7, ax8⟩ := box_fields (b := w.heap.size) hb1 (by simp; omega) (by rw [Below.heap_alloc _ _ _ (by simp)]; exact World.alloc_heap_new w _)
    obtain ⟨bx4, bx5, bx6, bx7, bx8⟩ := box_fields (b := w.heap.size + 1) hb1 (by simp) (heap_second _ _ _)
    have hbw : Below w.heap.size w w1 := (((Below.refl _ _).alloc (Nat.le_refl _) _).alloc (by simp) _).trans (hb1.mono (by simp; omega))
    have kda := (HS.out.2.2.1.below hbw).string dc
    have kdb := (HS.out.2.2.2.below hbw).string dd
    clear hb1
    go_wp2_with fail
    go_ret
    exact ⟨by simp [h], hbw⟩
  subst h
  by_cases h : asil = bsil
  rotate_left
  · go_enter Tryz.func54, Tryz.ntmps54
    go_wp2_with fail
    refine (HQ.out _ ?_).mono ?_
    · exact ((Below.refl _ _).alloc (Nat.le_refl _) _).alloc (by simp) _
    rintro e w1 ⟨rfl, hb1⟩
    obtain ⟨ax4, ax5, ax6, ax7, ax8⟩ := box_fields (b := w.heap.size) hb1 (by simp; omega) (by rw [Below.heap_alloc _ _ _ (by simp)]; exact World.alloc_heap_new w _)
    obtain ⟨bx4, bx5, bx6, bx7, bx8⟩ := box_fields (b := w.heap.size + 1) hb1 (by simp) (heap_second _ _ _)
    have hbw : Below w.heap.size w w1 := (((Below.refl _ _).alloc (Nat.le_refl _) _).alloc (by simp) _).trans (hb1.mono (by simp; omega))
    have kda := (HS.out.2.2.1.below hbw).string dc
    have kdb := (HS.out.2.2.2.below hbw).string dd
    clear hb1
    go_wp2_with fail
    go_ret
    exact ⟨by simp [h], hbw⟩
  subst h
  by_cases h : afl = bfl
  rotate_left
  · go_enter Tryz.func54, Tryz.ntmps54
    go_wp2_with fail
    refine (HQ.out _ ?_).mono ?_
    · exact ((Below.refl _ _).alloc (Nat.le_refl _) _).alloc (by simp) _
    rintro e w1 ⟨rfl, hb1⟩
    obtain ⟨ax4, ax5, ax6, ax7, ax8⟩ := box_fields (b := w.heap.size) hb1 (by simp; omega) (by rw [Below.heap_alloc _ _ _ (by simp)]; exact World.alloc_heap_new w _)
    obtain ⟨bx4, bx5, bx6, bx7, bx8⟩ := box_fields (b := w.heap.size + 1) hb1 (by simp) (heap_second _ _ _)
    have hbw : Below w.heap.size w w1 := (((Below.refl _ _).alloc (Nat.le_refl _) _).alloc (by simp) _).trans (hb1.mono (by simp; omega))
    have kda := (HS.out.2.2.1.below hbw).string dc
    have kdb := (HS.out.2.2.2.below hbw).string dd
    clear hb1
    go_wp2_with fail
    go_ret
    exact ⟨by simp [h], hbw⟩
  subst h
  by_cases h : adata = bdata
  rotate_left
  · go_enter Tryz.func54, Tryz.ntmps54
    go_wp2_with fail
    refine (HQ.out _ ?_).mono ?_
    · exact ((Below.refl _ _).alloc (Nat.le_refl _) _).alloc (by simp) _
    rintro e w1 ⟨rfl, hb1⟩
    obtain ⟨ax4, ax5, ax6, ax7, ax8⟩ := box_fields (b := w.heap.size) hb1 (by simp; omega) (by rw [Below.heap_alloc _ _ _ (by simp)]; exact World.alloc_heap_new w _)
    obtain ⟨bx4, bx5, bx6, bx7, bx8⟩ := box_fields (b := w.heap.size + 1) hb1 (by simp) (heap_second _ _ _)
    have hbw : Below w.heap.size w w1 := (((Below.refl _ _).alloc (Nat.le_refl _) _).alloc (by simp) _).trans (hb1.mono (by simp; omega))
    have kda := (HS.out.2.2.1.below hbw).string dc
    have kdb := (HS.out.2.2.2.below hbw).string dd
    clear hb1
    go_wp2_with fail
    go_ret
    exact ⟨by simp [h], hbw⟩
  subst h
  go_enter Tryz.func54, Tryz.ntmps54
  go_wp2_with fail
  refine (HQ.out _ ?_).mono ?_
  · exact ((Below.refl _ _).alloc (Nat.le_refl _) _).alloc (by simp) _
  rintro e w1 ⟨rfl, hb1⟩
  obtain ⟨ax4, ax5, ax6, ax7, ax8⟩ := box_fields (b := w.heap.size) hb1 (by simp; omega) (by rw [Below.heap_alloc _ _ _ (by simp)]; exact World.alloc_heap_new w _)
  obtain ⟨bx4, bx5, bx6, bx7, bx8⟩ := box_fields (b := w.heap.size + 1) hb1 (by simp) (heap_second _ _ _)
  have hbw : Below w.heap.size w w1 := (((Below.refl _ _).alloc (Nat.le_refl _) _).alloc (by simp) _).trans (hb1.mono (by simp; omega))
  have kda := (HS.out.2.2.1.below hbw).string dc
  have kdb := (HS.out.2.2.2.below hbw).string dd
  clear hb1
  go_wp2_with fail
  go_ret
  exact ⟨by simp [], hbw⟩
end Go.Proofs.YtkdnfjafabgioaaGreatDoor.Own
