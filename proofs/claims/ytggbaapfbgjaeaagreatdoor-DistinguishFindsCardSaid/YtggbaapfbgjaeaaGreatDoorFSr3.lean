/- The law returns true for every input: the statement. -/
import Derived.Test.YtggbaapfbgjaeaaGreatDoorFSq3
import Derived.WalkKit
import Derived.Deep.RegionWith
import Derived.Lay
import Derived.LaidLaws
import Derived.MakeChecks
import Derived.Handy
import Derived.SevenTiedAt
import Derived.ProofKit
import Derived.OpenShut
import Derived.ShutString
import Derived.ChangeOld
import Derived.Below
set_option linter.all false
namespace Go.Proofs.YtggbaapfbgjaeaaGreatDoor.distinguishFindsDone
open Go Go.Am Go.Proofs Go.Proofs.YtggbaapfbgjaeaaGreatDoor
open Go.ChangeShapes Go.WideShapes Go.ChangeAt Go.RowKit
theorem andI {a b : Bool} (h : a = true) (k : b = true) : (a && b) = true := by rw [h, k]; rfl
set_option maxHeartbeats 40000000 in
theorem over:Rows.distinguishFindsRow.holds Tryz.pinned (OpenSpec.ofChange Rows.distinguishFindsSpec) :=by
 refine OpenClaim.holds_of_wide 3 Tryz.f3 rfl rfl rfl rfl rfl rfl rfl ⟨rfl,rfl,rfl,rfl,rfl⟩ rfl rfl rfl rfl rfl ?_ Tryz.func3 ?_
  (of_decide_eq_true ?_) (by unfold Func.isWrapper;first | (rw[if_pos (by decide +kernel)];kernel_rfl) | (rw[if_neg (by decide +kernel)];exact⟨rfl,rfl⟩))
  (fun os started H enc _=>lifted os started H enc)
 .as_aux_lemma=>kernel_rfl
 .unfold joinedFacts
  repeat' with_reducible refine andI ?_ ?_
  all_goals as_aux_lemma=>kernel_rfl
 .as_aux_lemma=>kernel_rfl
end Go.Proofs.YtggbaapfbgjaeaaGreatDoor.distinguishFindsDone
