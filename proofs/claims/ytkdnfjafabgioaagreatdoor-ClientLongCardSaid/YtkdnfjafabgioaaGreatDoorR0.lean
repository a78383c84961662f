import Derived.Test.YtkdnfjafabgioaaGreatDoorCards
import Derived.Test.YtkdnfjafabgioaaGreatDoorA05
import Derived.Test.YtkdnfjafabgioaaGreatDoorTie
import Derived.WalkKit
import Derived.ProofKit
import Derived.OpenShut
import Derived.Deep.DeepHandedRow
import Derived.Lib.LaidTab
import Derived.Lib.LaidU8
import Derived.Lib.ItoaNum
import Derived.Lib.Space
import Derived.Stop.LaidErr
import Derived.LaidSub
import Derived.MakeChecks
import Derived.Shelf.Strings.Shaped
set_option linter.unusedVariables false
namespace Go.Proofs.YtkdnfjafabgioaaGreatDoor.Own
open Go.ChangeShapes Go.WideShapes Go.ChangeAt Go.RowKit Go.MakeChecks

theorem ownK : ownKnob Tryz.prog.godebug = none := by kernel_rfl
def tab32 : List Int := [0, 1, 28, 2, 29, 14, 24, 3, 30, 22, 20, 15, 25, 17, 4, 8, 31, 27, 13, 23, 21, 19, 16, 7, 26, 12, 18, 6, 11, 5, 10, 9]
def tab64 : List Int := [0, 1, 56, 2, 57, 49, 28, 3, 61, 58, 42, 50, 38, 29, 17, 4, 62, 47, 59, 36, 45, 43, 51, 22, 53, 39, 33, 30, 24, 18, 12, 5, 63, 55, 48, 27, 60, 41, 37, 16, 46, 35, 44, 21, 52, 32, 23, 11, 54, 26, 40, 15, 34, 20, 31, 10, 25, 14, 19, 9, 13, 8, 7, 6]
/-- So many blocks has the settled world. -/
noncomputable def low : Nat := (World.holding Tryz.prog default ⟨#[], #[], []⟩).heap.size
def synS : ByteArray := { data := #[105, 110, 118, 97, 108, 105, 100, 32, 115, 121, 110, 116, 97, 120] }
def rngS : ByteArray := { data := #[118, 97, 108, 117, 101, 32, 111, 117, 116, 32, 111, 102, 32, 114, 97, 110, 103, 101] }
/-- The settled world with four blocks more (White_Space's ranges, its table, two error texts), the variables holding what their initialisers lay. -/
noncomputable def laidWorld (os : Os) : World :=
  let w0 := World.holding Tryz.prog os ⟨#[.cells (Lib.whiteT.map fun (z : Nat) => Value.int .u16 (z : Int)).toArray 202, .cells #[.slice (some ⟨low, 0, none⟩) 7 7, .slice none 0 0, .int .i64 2] 199, .cells #[.string synS] 261, .cells #[.string rngS] 261], #[], []⟩
  let put (h : Array Obj) (g : Nat) (cs : Array Value) : Array Obj := h.modify g fun
    | .cells _ t frozen => .cells cs t frozen
    | o => o
  { w0 with heap := (put (put (put (put (put (put (put (put (put w0.heap 0 (Lib.asciiSpaceTab.map fun z => Value.int .u8 z).toArray)
      1 #[.pointer (some ⟨low + 1, 0, none⟩)]) 3 (Lib.pow10Tab.map fun z => Value.int .u64 z).toArray)
      4 (tab32.map fun z => Value.int .u8 z).toArray) 5 (tab64.map fun z => Value.int .u8 z).toArray)
      6 #[.iface 259 (.pointer (some ⟨low + 2, 0, none⟩))]) 7 #[.iface 259 (.pointer (some ⟨low + 3, 0, none⟩))])
      8 (Lib.firstTab.map fun z => Value.int .u8 z).toArray)
      9 ((List.range 16).flatMap fun i => [Value.int .u8 (Lib.accLo i), Value.int .u8 (Lib.accHi i)]).toArray) }
theorem laid_met1 (os : Os) (args : Array Value) : laidMet Tryz.prog Rows.clientLongRow.laid ((laidWorld os).forCall (fun _ _ => 0) ⟨#[], args, []⟩).memory :=
  laidMet_of_run' 10 (by kernel_rfl) (by kernel_rfl)
theorem gAsp : Tryz.prog.globalNamed "strings.asciiSpace" = some 0 := by kernel_rfl
theorem gMax : Tryz.prog.globalNamed "internal/bytealg.MaxLen" = some 2 := by kernel_rfl
theorem gPow : Tryz.prog.globalNamed "internal/strconv.uint64pow10" = some 3 := by kernel_rfl
theorem gSyn : Tryz.prog.globalNamed "strconv.ErrSyntax" = some 6 := by kernel_rfl
theorem gRng : Tryz.prog.globalNamed "strconv.ErrRange" = some 7 := by kernel_rfl
theorem tAsp : (Tryz.prog.globals[0]?).map (·.type) = some 149 := by kernel_rfl
theorem tMax : (Tryz.prog.globals[2]?).map (·.type) = some 3 := by kernel_rfl
theorem tPow : (Tryz.prog.globals[3]?).map (·.type) = some 237 := by kernel_rfl
theorem tSyn : (Tryz.prog.globals[6]?).map (·.type) = some 99 := by kernel_rfl
theorem tRng : (Tryz.prog.globals[7]?).map (·.type) = some 99 := by kernel_rfl
theorem c149 : Tryz.prog.cellsOf 149 = 256 := by kernel_rfl
theorem c237 : Tryz.prog.cellsOf 237 = 20 := by kernel_rfl
theorem c142 : Tryz.prog.cellsOf 142 = 1 := by kernel_rfl
theorem c5 : Tryz.prog.cellsOf 5 = 1 := by kernel_rfl
theorem c9 : Tryz.prog.cellsOf 9 = 1 := by kernel_rfl
theorem c261 : Tryz.prog.cellsOf 261 = 1 := by kernel_rfl
theorem starE : "*" ++ "errors.errorString" = "*errors.errorString" := by decide
theorem row259 (u : TypeId) (h : Tryz.prog.typeName? 3 u = some "*errors.errorString") : u = 259 :=
  typeName_ptr_named (nm := "errors.errorString") (by rw [starE]; kernel_rfl) (by kernel_rfl) (by decide) u (by rw [starE]; exact h)

theorem env_of {laid : List (String × DataW Unit)} {W : World} (hL : laidMetH Tryz.prog laid W) (hs : W.ShapedOpen Tryz.prog)
    (hp : laid.filter (fun x => x.1 == "internal/strconv.uint64pow10") = [("internal/strconv.uint64pow10", Lib.tabData .u64 Lib.pow10Tab)])
    (ha : laid.filter (fun x => x.1 == "strings.asciiSpace") = [("strings.asciiSpace", Lib.tabData .u8 Lib.asciiSpaceTab)])
    (he : laid.filter (fun x => x.1 == "strconv.ErrSyntax") = [("strconv.ErrSyntax", .iface "*errors.errorString" (.ptr (.agg [.lit (.string synS.data.toList)])))])
    (hr : laid.filter (fun x => x.1 == "strconv.ErrRange") = [("strconv.ErrRange", .iface "*errors.errorString" (.ptr (.agg [.lit (.string rngS.data.toList)])))]) : Env W := by
  have h1 := hL.filter (fun x => x.1 == "internal/strconv.uint64pow10")
  have h2 := hL.filter (fun x => x.1 == "strings.asciiSpace")
  have h3 := hL.filter (fun x => x.1 == "strconv.ErrSyntax")
  have h4 := hL.filter (fun x => x.1 == "strconv.ErrRange")
  rw [hp, laidMetH_plain _ _ _ (by decide)] at h1
  rw [ha, laidMetH_plain _ _ _ (by decide)] at h2
  rw [he, laidMetH_plain _ _ _ (by decide)] at h3
  rw [hr, laidMetH_plain _ _ _ (by decide)] at h4
  obtain ⟨a3, s3, hv3, -, -, -⟩ := laid_sentinel h3 gSyn tSyn Tryz.underlying99 row259 Tryz.underlying259 Tryz.underlying261 rfl rfl Tryz.underlying9 c261 c9
  obtain ⟨a4, s4, hv4, -, -, -⟩ := laid_sentinel h4 gRng tRng Tryz.underlying99 row259 Tryz.underlying259 Tryz.underlying261 rfl rfl Tryz.underlying9 c261 c9
  exact ⟨Lib.tabIs_of_head gPow tPow Tryz.underlying237 Tryz.underlying142 c142 c237 h1, ⟨_, _, hv3⟩, ⟨_, _, hv4⟩, cell_of_shapedOpen_int (zero := #[.int .i64 0]) (t := 3) hs (of_decide_eq_true (by kernel_rfl)) (by kernel_rfl) rfl (by kernel_rfl) (by kernel_rfl) Tryz.underlying3, Lib.tabIs_of_head gAsp tAsp Tryz.underlying149 Tryz.underlying5 c5 c149 h2⟩
end Go.Proofs.YtkdnfjafabgioaaGreatDoor.Own
