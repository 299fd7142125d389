import Derived.Test.YtapiffkeclnbbaaDoorRows
import Derived.Test.YtapiffkeclnbbaaDoorCards
import Derived.Test.YtapiffkeclnbbaaDoorTie
import Derived.WalkKit
import Derived.ProofKit
import Derived.LaidMore
import Derived.OpenShut
import Derived.ChangeOld
import Derived.Below
import Derived.SizedLaws
import Derived.Lib.SmallJoins
import Derived.Lib.LaidTab
import Derived.Deep.Strs
import Derived.Deep.Slices
import Derived.Carry
import Derived.Stop.Joined
import Derived.SevenTiedAt
import Derived.Stop.LaidErr
import Derived.Test.YtapiffkeclnbbaaDoorB0
import Derived.Test.YtapiffkeclnbbaaDoorS6
/-! What a Stats row hands in, opened; what is listed, read. -/
set_option linter.unusedVariables false
set_option linter.unusedSimpArgs false
namespace Go.Proofs.YtapiffkeclnbbaaDoor.R
open Go.Joins Go.ChangeShapes Go.WideShapes Go.RowKit Go.Deep Go.Proofs.YtapiffkeclnbbaaDoor.B0 Go.Proofs.YtapiffkeclnbbaaDoor.S
theorem own : ownKnob Tryd.prog.godebug = none := by kernel_rfl
theorem laidOut : laidOutB Tryd.prog = true := by kernel_rfl
theorem gSpace : Tryd.prog.globalNamed "strings.asciiSpace" = some 0 := by kernel_rfl
theorem gSpaceType : (Tryd.prog.globals[0]?).map (·.type) = some 53 := by kernel_rfl
theorem k53 : Tryd.prog.cellsOf 53 = 256 := by kernel_rfl
theorem k5 : Tryd.prog.cellsOf 5 = 1 := by kernel_rfl
def sp256 : List Int := (List.range 256).map fun c => if Lib.isSp (UInt8.ofNat c) then 1 else 0
theorem sp_data : (Rows.laid_strings_asciiSpace : DataW Unit) = Lib.tabData .u8 sp256 := by kernel_rfl
def laid2 : List (String × DataW Unit) := [("unicode.White_Space", Rows.laid_unicode_White_Space), ("strings.asciiSpace", Rows.laid_strings_asciiSpace)]
theorem sp_of_laid {W : World} (h : laidMetH Tryd.prog laid2 W) : Sp W := by
  rw [MakeChecks.laidMetH_plain _ _ _ (by kernel_rfl)] at h
  have h2 := h.tail
  rw [sp_data] at h2
  have hT := Lib.tabIs_of_head gSpace gSpaceType Tryd.underlying53 Tryd.underlying5 k5 k53 h2
  intro c hc
  have h3 := hT.cell gSpace c (by simp [sp256]; exact hc)
  rw [h3]
  simp [sp256, hc, List.getD]
theorem door_met (os : Os) (args : Array Value) : laidMetH Tryd.prog laid2 ((World.doorLaid Tryd.prog 33 os).forCall (fun _ _ => 0) ⟨#[], args, []⟩).memory :=
  laidMetH_of_parts3 (fuel := 8) (laidMet_of_run' 8 (by kernel_rfl) (by kernel_rfl)) (by kernel_rfl) (by kernel_rfl)
theorem okU_of {x : Int} (h : (Lit.int .u64 x).wf = true) : okU x := by
  have h := bounds_u64 h
  unfold okU
  omega
end Go.Proofs.YtapiffkeclnbbaaDoor.R
