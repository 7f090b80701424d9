/- What the laid variables give: Globs; a start that meets the condition; the cards' closing call. -/
import Derived.Test.YtmgkejobolgkmaaGreatDoorLexGlobs
import Derived.Test.YtmgkejobolgkmaaGreatDoorRows
import Derived.Test.YtmgkejobolgkmaaGreatDoorTie
import Derived.LaidMore
import Derived.LaidLaws
import Derived.LaidHandle
import Derived.ChangeSame
import Derived.ChangeVars
import Derived.JoinedOf
import Derived.RowKit
import Derived.RowKitTokens
import Derived.Stop.LaidErr
import Derived.Stop.Joined
import Derived.Lib.LaidTab
namespace Go.Proofs.YtmgkejobolgkmaaGreatDoor
open Go Go.ChangeShapes Go.WideShapes Go.RowKit
set_option linter.unusedVariables false

abbrev laidL : List (String × DataW Unit) := Rows.parseBlanksRow.laid
set_option maxRecDepth 100000 in
theorem lrow105 (u : TypeId) (h : Tryz.prog.typeName? 3 u = some "*errors.errorString") : u = 213 :=
  typeName_ptr_named (nm := "errors.errorString") (by rw [show "*" ++ "errors.errorString" = "*errors.errorString" by decide]; kernel_rfl) (by kernel_rfl) (by decide) u (by rw [show "*" ++ "errors.errorString" = "*errors.errorString" by decide]; exact h)
set_option maxRecDepth 100000 in
theorem globs_of_laid {W : World} (h : laidMetH Tryz.prog laidL W) : PL.Globs W := by
  have hL : laidMet Tryz.prog laidL W := h
  have h3 := hL.tail.tail.tail
  have h4 := h3.tail
  have h6 := h4.tail.tail
  obtain ⟨a0, s0, hv0, _⟩ := laid_sentinel (g := 3) h3 (by kernel_rfl) (by kernel_rfl) Tryz.underlying125 lrow105 Tryz.underlying213 Tryz.underlying215 rfl rfl Tryz.underlying9 (by kernel_rfl) (by kernel_rfl)
  obtain ⟨a1, s1, hv1, _⟩ := laid_sentinel (g := 2) h4 (by kernel_rfl) (by kernel_rfl) Tryz.underlying125 lrow105 Tryz.underlying213 Tryz.underlying215 rfl rfl Tryz.underlying9 (by kernel_rfl) (by kernel_rfl)
  exact ⟨Lib.tabIs_of_head (g := 1) (t := 192) (e := 5) (n := 256) (by kernel_rfl) (by kernel_rfl) Tryz.underlying192 Tryz.underlying5 (by kernel_rfl) (by kernel_rfl) h6, ⟨_, _, hv1⟩, ⟨_, _, hv0⟩⟩
theorem lown : ownKnob Tryz.prog.godebug = none := by kernel_rfl
set_option maxRecDepth 100000 in
theorem door_met (os : Os) (args : Array Value) : laidMetH Tryz.prog laidL ((World.doorLaid Tryz.prog 246 os).forCall (fun _ _ => 0) ⟨#[], args, []⟩).memory :=
  laidMetH_of_parts3 (fuel := 8) (laidMet_of_run' 8 (by kernel_rfl) (by kernel_rfl)) (by kernel_rfl) (by kernel_rfl)
set_option maxRecDepth 100000 in
theorem door_shaped (os : Os) (args : Array Value) : ((World.doorLaid Tryz.prog 246 os).forCall (fun _ _ => 0) ⟨#[], args, []⟩).Shaped Tryz.prog := World.shaped_of_RefB (by kernel_rfl) (by kernel_rfl)
theorem door_os (os : Os) : (World.doorLaid Tryz.prog 246 os).os = os := by
  unfold World.doorLaid
  rfl
end Go.Proofs.YtmgkejobolgkmaaGreatDoor
