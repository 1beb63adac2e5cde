/-
  What a row's list of package variables gives: the facts of which the contracts lean (GW); and a world that fits the list. Conditions: the list is met; the world is shaped as the program's variables are.
-/
import Derived.Test.YtfibkajflenekaaDoorRows
import Derived.Test.YtfibkajflenekaaDoorBase
import Derived.Stop.LaidErr
import Derived.WalkKit
import Derived.ProofKit
import Derived.OpenShut
import Derived.ShutString
import Derived.ChangeOld
import Derived.Below
import Derived.SizedLaws
import Derived.Lay
import Derived.MakeChecks
import Derived.Deep.DeepWitnessRowRef
namespace Go.Proofs.YtfibkajflenekaaDoor.G
set_option linter.unusedVariables false
open Go.RowKit
theorem gSynType : (Tryd.prog.globals[1]?).map (·.type) = some 87 := by kernel_rfl
theorem gRngType : (Tryd.prog.globals[2]?).map (·.type) = some 87 := by kernel_rfl
theorem gTabType : (Tryd.prog.globals[5]?).map (·.type) = some 164 := by kernel_rfl
theorem under164 : Tryd.prog.underlying 164 = some (.array 20 141) := by kernel_rfl
theorem cells164 : Tryd.prog.cellsOf 164 = 20 := by kernel_rfl
theorem under141 : Tryd.prog.underlying 141 = some (.int .u64) := by kernel_rfl
theorem cells141 : Tryd.prog.cellsOf 141 = 1 := by kernel_rfl
theorem cells162 : Tryd.prog.cellsOf 162 = 1 := by kernel_rfl
theorem cells9 : Tryd.prog.cellsOf 9 = 1 := by kernel_rfl
theorem star : "*" ++ "errors.errorString" = "*errors.errorString" := by decide
theorem row160 (u : TypeId) (h : Tryd.prog.typeName? 3 u = some "*errors.errorString") : u = 160 :=
  typeName_ptr_named (nm := "errors.errorString") (by rw [star]; kernel_rfl) (by kernel_rfl) (by decide) u (by rw [star]; exact h)
theorem vars_of {W : World} (hL : laidMetH Tryd.prog Rows.askBackRow.laid W) (hsh : W.ShapedOpen Tryd.prog) : Vars W := by
  rw [MakeChecks.laidMetH_plain _ _ _ (by kernel_rfl)] at hL
  have h2 := hL.tail.tail
  have h4 := h2.tail.tail
  have h5 := h4.tail
  obtain ⟨a0, s0, hv0, _⟩ := laid_sentinel h4 gRng gRngType Tryd.underlying87 row160 Tryd.underlying160 Tryd.underlying162 rfl rfl Tryd.underlying9 cells162 cells9
  obtain ⟨a1, s1, hv1, _⟩ := laid_sentinel h5 gSyn gSynType Tryd.underlying87 row160 Tryd.underlying160 Tryd.underlying162 rfl rfl Tryd.underlying9 cells162 cells9
  exact ⟨Lib.tabIs_of_head (zs := Lib.pow10Tab) gTab gTabType under164 under141 cells141 cells164 h2, ⟨_, _, hv1⟩, ⟨_, _, hv0⟩, Tryd.laysM145.s1_3 W hsh⟩
end Go.Proofs.YtfibkajflenekaaDoor.G
