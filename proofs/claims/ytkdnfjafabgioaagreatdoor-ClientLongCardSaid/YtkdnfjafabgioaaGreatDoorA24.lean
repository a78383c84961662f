import Derived.Test.YtkdnfjafabgioaaGreatDoorA23
import Derived.RangeFuncNested
import Derived.RangeFuncBound
import Derived.RangeFuncCalls
import Derived.RangeFuncLeaves
import Derived.Shelf.Abstract
import Derived.Shelf.RegionOpen
import Derived.OwnWalkIn
import Derived.TacticsInMore
import Derived.LoopNIn
import Derived.LoopIn
set_option linter.unusedVariables false
set_option linter.unusedSimpArgs false
namespace Go.Proofs.YtkdnfjafabgioaaGreatDoor.Own
open Go.RowKit Go.Shelf

variable {F : Fence} {n : Nat} {P : Program}

/-- The record of a loop over a function, in one of its states. -/
def recB (r : Loop) : Loop := { r with state := .busy }

/-- One round that goes on. -/
theorem yield_on {l : Nat} {args : Array Value} {W : World} {rec : Loop} {R : World → Prop} (hF : F.fn rec.fn) (hl : W.heap[l]? = some (.loop rec)) (hst : rec.state = .ready) (hpe : rec.pending = none) (hsz : args.size = rec.params.size)
    (h : rec.assign.wpIn (F.inRound l) n P (Exit.then (fun a₁ w₁ => w₁.heap[l]? = some (.loop rec) ∧ rec.body.wpIn (F.inRound l) n P (fun e _ W3 => e = .normal ∧ W3.heap[l]? = some (.loop (recB rec)) ∧ R W3) a₁ (w₁.putObj l (.loop (recB rec)))) (fun _ _ _ => False)) { tmps := (rec.params.zip args).foldl (fun t (p, v) => t.setIfInBounds p v) rec.tmps, defers := [] } W) :
    YieldAt F n P l args W fun e W' => e = .returned (.bool true) ∧ ∃ W3, R W3 ∧ W3.heap[l]? = some (.loop (recB rec)) ∧ W' = W3.putObj l (.loop rec) := by
  refine ⟨_, _, _, _, run_yield hl hsz, roundIn_of_wpIn hF (wpIn_mono h ?_)⟩
  intro e a w hp
  cases e with
  | normal =>
    obtain ⟨h1, h2⟩ := hp
    refine ⟨_, run_beginRound h1 hst, wpIn_mono h2 ?_⟩
    rintro e a3 W3 ⟨rfl, h3, h4⟩
    have he := run_endRound (P := P) none h3
    have hr : ({ recB rec with state := if (none : Option Code).isNone then .ready else .done, pending := none } : Loop) = rec := by
      cases rec
      simp only [recB] at *
      simp [hst, hpe]
    rw [hr] at he
    exact ⟨_, _, he, rfl, W3, h4, h3, rfl⟩
  | exit id => exact hp.elim
  | goto t => exact hp.elim
  | ret => exact hp.elim
  | panic chain => exact hp.elim
  | outgrown => exact hp.elim

/-- The record as the statement lays it. -/
def recOf (fn : FuncId) (tmps : Array Value) (ps : Array Tmp) (assign body : Code) (d : Nat) : Loop := { state := .ready, pending := none, fn, tmps, params := ps, assign, body, defers := d }
/-- The world with the loop's two blocks. -/
def loopW (w : World) (rec : Loop) : World := (w.alloc (.deferred (some []))).alloc (.loop rec)

/-- The statement, where every round goes on. -/
theorem rangeFunc_on {g : Operand} {ps : Array Tmp} {assign body : Code} {Q : Exit → Act → World → Prop} {a : Act} {w : World} (hro : F.round = none) (h1 : 1 ≤ n) {gf : Nat} {lb : Array Value} (hg : a.eval g = .func (.func gf) #[] lb) (hFg : F.fn gf) (eg : ∀ args w, (callFunc gf args).run P w = .ok (.enter gf args) w)
    (hiter : ∀ fn, F.fn fn → CallsIn F (n - 1) P gf (#[.func (.yield (w.heap.size + 1)) #[] #[]] ++ lb) (loopW w (recOf fn a.tmps ps assign body w.heap.size)) fun e W2 => (∃ v, e = .returned v) ∧ W2.heap[w.heap.size + 1]? = some (.loop (recOf fn a.tmps ps assign body w.heap.size)) ∧ Q .normal { a with defers := { target := .collected w.heap.size, args := #[] } :: a.defers } (W2.putObj (w.heap.size + 1) (.loop { recOf fn a.tmps ps assign body w.heap.size with state := .exhausted }))) :
    (Code.rangeFunc g ps assign body).wpIn F n P Q a w := by
  refine wpIn_rangeFunc ?_
  intro fn hfn
  rw [hro]
  refine ⟨w.heap.size + 1, [{ target := .collected w.heap.size, args := #[] }], loopW w (recOf fn a.tmps ps assign body w.heap.size), { target := .fn (.func gf) lb, args := #[.func (.yield (w.heap.size + 1)) #[] #[]] }, loopW w (recOf fn a.tmps ps assign body w.heap.size), gf,
    #[.func (.yield (w.heap.size + 1)) #[] #[]] ++ lb, loopW w (recOf fn a.tmps ps assign body w.heap.size), ?_, ?_, ?_, ?_, fun _ => h1, ?_⟩
  · exact run_enterLoop_outer _ _ _ _ _
  · simp only [resolve, hg]
    simp [go_sem]
  · intro f' hf'; simp [Target.leads] at hf'; subst hf'; exact hFg
  · simp [invoke, go_sem, eg]
  · refine (hiter fn hfn).mono ?_
    rintro e W2 ⟨⟨v, rfl⟩, hl, hQ⟩
    exact ⟨none, _, run_endLoop (P := P) hl (by simp [recOf]), hQ⟩

end Go.Proofs.YtkdnfjafabgioaaGreatDoor.Own
