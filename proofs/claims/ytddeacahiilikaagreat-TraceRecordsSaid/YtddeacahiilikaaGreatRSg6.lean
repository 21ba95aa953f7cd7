/- The law returns true for every input: the statement. -/
import Derived.Test.YtddeacahiilikaaGreatRSf6
import Derived.KernelRfl
import Derived.ProofKit
import Derived.WalkKit
import Derived.OpenShut
import Derived.ShutString
import Derived.ChangeOld
import Derived.Below
set_option linter.all false
namespace Go.Proofs.YtddeacahiilikaaGreat.traceRecordsDone
open Go Go.Am Go.Proofs Go.Proofs.YtddeacahiilikaaGreat
open Go.ChangeShapes Go.WideShapes Go.ChangeAt Go.RowKit
set_option maxHeartbeats 40000000 in
theorem over:Rows.traceRecordsRow.holds Tryz.pinned (OpenSpec.ofChange Rows.traceRecordsSpec) :=by
 refine OpenClaim.holds_of_wide 6 Tryz.f6 rfl rfl rfl rfl rfl rfl rfl ⟨rfl,rfl,rfl,rfl,rfl⟩ rfl rfl rfl rfl rfl ?_ Tryz.func6 ?_
  (of_decide_eq_true ?_) (by unfold Func.isWrapper;first | (rw[if_pos (by decide +kernel)];kernel_rfl) | (rw[if_neg (by decide +kernel)];exact⟨rfl,rfl⟩))
  (fun os started H enc _=>lifted os started H enc)
 .as_aux_lemma=>kernel_rfl
 .as_aux_lemma=>kernel_rfl
 .as_aux_lemma=>kernel_rfl
theorem proved:Rows.TraceRecordsSaid:=over
#print axioms proved
end Go.Proofs.YtddeacahiilikaaGreat.traceRecordsDone
