import Derived.Test.YtkdnfjafabgioaaGreatDoorA38
import Derived.WideMake
namespace Go.Proofs.YtkdnfjafabgioaaGreatDoor.Own
open Go.RowKit Go.Shelf

theorem alloc_set (w : World) (o o' : Obj) : { (w.alloc o) with heap := (w.alloc o).heap.setIfInBounds w.heap.size o' } = w.alloc o' := by
  have e : (w.heap.push o).setIfInBounds w.heap.size o' = w.heap.push o' := by
    apply Array.ext
    · simp
    · intro i h1 h2
      simp only [Array.size_push] at h2
      by_cases h : i = w.heap.size
      · subst h; simp
      · rw [Array.getElem_setIfInBounds_ne _ (Ne.symm h), Array.getElem_push_lt (by omega), Array.getElem_push_lt (by omega)]; simp; omega
  unfold World.alloc
  rw [e]
theorem run_insert_new (t kt et : TypeId) (es : Array MapEntry) (clock : Nat) (n : Int) (val : Value) (w : World) (hm : Tryz.prog.underlying t = some (.map kt et)) (hk : Tryz.prog.underlying kt = some (.int .i64)) (hf : Instr.findNow (.int .i64) (.int .i64 n) es.toList 0 = some none) :
    (Instr.mapUpdate t (.map (some w.heap.size)) (.int .i64 n) val).run Tryz.prog (w.alloc (.map es clock)) = .ok () (w.alloc (.map (es.push { key := .int .i64 n, val := val, born := clock }) (clock + 1))) := by
  have hb : (w.alloc (.map es clock)).heap[w.heap.size]? = some (.map es clock) := by show (w.heap.push _)[w.heap.size]? = _; simp
  have hc : (Instr.checkKey false 10000 kt (.int .i64 n)).run Tryz.prog (w.alloc (.map es clock)) = .ok () _ := MapKept.run_checkKey (k := .int .i64 n) hk (by simp [MapKept.IsKey]) false 9999
  simp only [Instr.mapUpdate, run_underlying hm, MapKept.run_getObj_map hb, hc, MapKept.run_findKey hk hf, MapKept.run_setObj_map _ hb, Result.andThen, Sem.run_bind]
  rw [alloc_set]
def wrF (k : Nat) : Value := .agg #[.func (.func k) #[] #[]]
def wrMap : Obj := .map #[⟨.int .i64 5, wrF 56, 0⟩, ⟨.int .i64 6, wrF 58, 1⟩, ⟨.int .i64 7, wrF 61, 2⟩, ⟨.int .i64 8, wrF 64, 3⟩] 4
theorem writers_any (w : World) :
    Calls Tryz.prog 29 #[] w fun e w' => e = .returned (.map (some w.heap.size)) ∧ w' = w.alloc wrMap := by
  have hmk := fun w => @run_makeMap_plain Tryz.prog w 55
  have h5 := run_insert_new 55 3 53 #[] 0 5 (wrF 56) w Tryz.underlying55 Tryz.underlying3 (by kernel_rfl)
  have h6 := run_insert_new 55 3 53 #[⟨.int .i64 5, wrF 56, 0⟩] 1 6 (wrF 58) w Tryz.underlying55 Tryz.underlying3 (by kernel_rfl)
  have h7 := run_insert_new 55 3 53 #[⟨.int .i64 5, wrF 56, 0⟩, ⟨.int .i64 6, wrF 58, 1⟩] 2 7 (wrF 61) w Tryz.underlying55 Tryz.underlying3 (by kernel_rfl)
  have h8 := run_insert_new 55 3 53 #[⟨.int .i64 5, wrF 56, 0⟩, ⟨.int .i64 6, wrF 58, 1⟩, ⟨.int .i64 7, wrF 61, 2⟩] 3 8 (wrF 64) w Tryz.underlying55 Tryz.underlying3 (by kernel_rfl)
  unfold wrMap
  simp only [List.push_toArray, List.cons_append, List.nil_append, Nat.zero_add, Nat.reduceAdd, wrF] at h5 h6 h7 h8 ⊢
  go_enter Tryz.func29, Tryz.ntmps29
  go_wp2_with fail
  go_ret
  exact ⟨rfl, rfl⟩

/-- The writer of a kind. -/
def wrV (k : Int) : Value := if k = 5 then .func (.func 56) #[] #[] else if k = 6 then .func (.func 58) #[] #[] else if k = 7 then .func (.func 61) #[] #[] else if k = 8 then .func (.func 64) #[] #[] else .nilFunc
def wrOk (k : Int) : Bool := decide (5 ≤ k ∧ k ≤ 8)
theorem zero53 (w : World) : (zeroValue 53).run Tryz.prog w = .ok (.agg #[.nilFunc]) w := by kernel_rfl
theorem find_k (k : Int) : Instr.findNow (.int .i64) (.int .i64 k) [⟨.int .i64 5, wrF 56, 0⟩, ⟨.int .i64 6, wrF 58, 1⟩, ⟨.int .i64 7, wrF 61, 2⟩, ⟨.int .i64 8, wrF 64, 3⟩] 0 = some (if k = 5 then some (0, wrF 56) else if k = 6 then some (1, wrF 58) else if k = 7 then some (2, wrF 61) else if k = 8 then some (3, wrF 64) else none) := by
  by_cases h5 : k = 5
  · subst h5; rfl
  by_cases h6 : k = 6
  · subst h6; rfl
  by_cases h7 : k = 7
  · subst h7; rfl
  by_cases h8 : k = 8
  · subst h8; rfl
  rw [if_neg h5, if_neg h6, if_neg h7, if_neg h8]
  have e : ∀ j : Int, ¬ k = j → (k == j) = false := fun j h => by simpa using h
  simp [Instr.findNow, Instr.sameNow, e _ h5, e _ h6, e _ h7, e _ h8]
theorem look_any (k : Int) (W : World) (b : Nat) (h : W.heap[b]? = some wrMap) : (Instr.lookup 55 (.map (some b)) (.int .i64 k) true).run Tryz.prog W = .ok (.tuple #[.agg #[wrV k], .bool (wrOk k)]) W := by
  unfold wrMap at h
  have hc : (Instr.checkKey false 10000 3 (.int .i64 k)).run Tryz.prog W = .ok () W := MapKept.run_checkKey (k := .int .i64 k) Tryz.underlying3 (by simp [MapKept.IsKey]) false 9999
  have hf := MapKept.run_findKey (w := W) Tryz.underlying3 (find_k k)
  have hz := zero53 W
  by_cases h5 : k = 5
  · subst h5
    simp [Instr.lookup, run_underlying Tryz.underlying55, MapKept.run_getObj_map h, hc, hf, Result.andThen]
    simp [wrF, wrV, wrOk]
  by_cases h6 : k = 6
  · subst h6
    simp [Instr.lookup, run_underlying Tryz.underlying55, MapKept.run_getObj_map h, hc, hf, Result.andThen]
    simp [wrF, wrV, wrOk]
  by_cases h7 : k = 7
  · subst h7
    simp [Instr.lookup, run_underlying Tryz.underlying55, MapKept.run_getObj_map h, hc, hf, Result.andThen]
    simp [wrF, wrV, wrOk]
  by_cases h8 : k = 8
  · subst h8
    simp [Instr.lookup, run_underlying Tryz.underlying55, MapKept.run_getObj_map h, hc, hf, Result.andThen]
    simp [wrF, wrV, wrOk]
  rw [if_neg h5, if_neg h6, if_neg h7, if_neg h8] at hf
  have e : wrOk k = false := by unfold wrOk; simp; omega
  rw [e]
  simp [Instr.lookup, run_underlying Tryz.underlying55, MapKept.run_getObj_map h, hc, hf, hz, Result.andThen, wrV, h5, h6, h7, h8]
end Go.Proofs.YtkdnfjafabgioaaGreatDoor.Own
