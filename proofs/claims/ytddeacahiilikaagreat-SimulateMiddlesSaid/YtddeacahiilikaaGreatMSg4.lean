/- The law returns true for every input: the statement. -/
import Derived.Test.YtddeacahiilikaaGreatMSf4
import Derived.SizedLaws
import Derived.Deep.Slices
import Derived.WideShapes
import Derived.ChangeSame
import Derived.KernelRfl
import Derived.ProofKit
import Derived.WalkKit
import Derived.OpenShut
import Derived.ShutString
import Derived.ChangeOld
import Derived.Below
set_option linter.all false
namespace Go.Proofs.YtddeacahiilikaaGreat.simulateMiddlesDone
open Go Go.Am Go.Proofs Go.Proofs.YtddeacahiilikaaGreat
open Go.ChangeShapes Go.WideShapes Go.ChangeAt Go.RowKit
set_option maxHeartbeats 40000000 in
theorem over:Rows.simulateMiddlesRow.holds Tryz.pinned (OpenSpec.ofChange Rows.simulateMiddlesSpec) :=by
 refine OpenClaim.holds_of_wide 4 Tryz.f4 rfl rfl rfl rfl rfl rfl rfl ⟨rfl,rfl,rfl,rfl,rfl⟩ rfl rfl rfl rfl rfl ?_ Tryz.func4 ?_
  (of_decide_eq_true ?_) (by unfold Func.isWrapper;first | (rw[if_pos (by decide +kernel)];kernel_rfl) | (rw[if_neg (by decide +kernel)];exact⟨rfl,rfl⟩))
  (fun os started H enc _=>lifted os started H enc)
 .as_aux_lemma=>kernel_rfl
 .as_aux_lemma=>kernel_rfl
 .as_aux_lemma=>kernel_rfl
theorem proved:Rows.SimulateMiddlesSaid:=over
#print axioms proved
end Go.Proofs.YtddeacahiilikaaGreat.simulateMiddlesDone
