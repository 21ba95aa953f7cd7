/- The law returns true for every input: the statement. -/
import Derived.Test.YtbepbclaoohngaaGreatVDe7s
import Derived.SizedLaws
import Derived.Deep.Slices
import Derived.WideShapes
import Derived.ChangeSame
import Derived.KernelRfl
import Derived.Shelf.Sort.Plain
import Derived.Shelf.Slices.In.SortNone
import Derived.ProofKit
import Derived.WalkKit
import Derived.OpenShut
import Derived.ShutString
import Derived.ChangeOld
import Derived.Below
set_option linter.all false
namespace Go.Proofs.YtbepbclaoohngaaGreat.detectVerifiesDone
open Go Go.Am Go.Proofs Go.Proofs.YtbepbclaoohngaaGreat
open Go.ChangeShapes Go.WideShapes Go.ChangeAt Go.RowKit
theorem andI {a b : Bool} (h : a = true) (k : b = true) : (a && b) = true := by rw [h, k]; rfl
set_option maxHeartbeats 40000000 in
theorem over:Rows.detectVerifiesRow.holds Tryz.pinned (OpenSpec.ofChange Rows.detectVerifiesSpec) :=by
 refine OpenClaim.holds_of_wide 7 Tryz.f7 rfl rfl rfl rfl rfl rfl rfl ⟨rfl,rfl,rfl,rfl,rfl⟩ rfl rfl rfl rfl rfl ?_ Tryz.func7 ?_
  (of_decide_eq_true ?_) (by unfold Func.isWrapper;first | (rw[if_pos (by decide +kernel)];kernel_rfl) | (rw[if_neg (by decide +kernel)];exact⟨rfl,rfl⟩))
  (fun os started H enc _=>lifted os started H enc)
 .as_aux_lemma=>kernel_rfl
 .unfold joinedFacts
  repeat' with_reducible refine andI ?_ ?_
  all_goals as_aux_lemma=>kernel_rfl
 .as_aux_lemma=>kernel_rfl
theorem proved:Rows.DetectVerifiesSaid:=over
#print axioms proved
end Go.Proofs.YtbepbclaoohngaaGreat.detectVerifiesDone
