/- The law returns true for every input: the statement. -/
import Derived.Test.YtbepbclaoohngaaGreatCDe5s
import Derived.ProofKit
import Derived.WalkKit
import Derived.OpenShut
import Derived.ShutString
import Derived.ChangeOld
import Derived.Below
import Derived.KernelRfl
set_option linter.all false
namespace Go.Proofs.YtbepbclaoohngaaGreat.detectSeesDone
open Go Go.Am Go.Proofs Go.Proofs.YtbepbclaoohngaaGreat
open Go.ChangeShapes Go.WideShapes Go.ChangeAt Go.RowKit
theorem andI {a b : Bool} (h : a = true) (k : b = true) : (a && b) = true := by rw [h, k]; rfl
set_option maxHeartbeats 40000000 in
theorem over:Rows.detectSeesRow.holds Tryz.pinned (OpenSpec.ofChange Rows.detectSeesSpec) :=by
 refine OpenClaim.holds_of_wide 5 Tryz.f5 rfl rfl rfl rfl rfl rfl rfl ⟨rfl,rfl,rfl,rfl,rfl⟩ rfl rfl rfl rfl rfl ?_ Tryz.func5 ?_
  (of_decide_eq_true ?_) (by unfold Func.isWrapper;first | (rw[if_pos (by decide +kernel)];kernel_rfl) | (rw[if_neg (by decide +kernel)];exact⟨rfl,rfl⟩))
  (fun os started H enc _=>lifted os started H enc)
 .as_aux_lemma=>kernel_rfl
 .unfold joinedFacts
  repeat' with_reducible refine andI ?_ ?_
  all_goals as_aux_lemma=>kernel_rfl
 .as_aux_lemma=>kernel_rfl
theorem proved:Rows.DetectSeesSaid:=over
#print axioms proved
end Go.Proofs.YtbepbclaoohngaaGreat.detectSeesDone
