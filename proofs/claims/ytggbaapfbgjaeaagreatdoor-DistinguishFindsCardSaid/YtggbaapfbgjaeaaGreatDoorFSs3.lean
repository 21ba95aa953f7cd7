/- The law returns true for every input: the statement. -/
import Derived.Test.YtggbaapfbgjaeaaGreatDoorFSr3
import Derived.WalkKit
import Derived.Deep.RegionWith
import Derived.Lay
import Derived.LaidLaws
import Derived.MakeChecks
import Derived.Handy
import Derived.SevenTiedAt
import Derived.ProofKit
import Derived.OpenShut
import Derived.ShutString
import Derived.ChangeOld
import Derived.Below
set_option linter.all false
namespace Go.Proofs.YtggbaapfbgjaeaaGreatDoor.distinguishFindsDone
open Go Go.Am Go.Proofs Go.Proofs.YtggbaapfbgjaeaaGreatDoor
open Go.ChangeShapes Go.WideShapes Go.ChangeAt Go.RowKit
theorem proved:Rows.DistinguishFindsCardSaid :=
 Claim7.holds_tied_plain_at .later [] [.data, .data, .data] true (true, "9959c826baf198ffce50579f06e279d843709b97e94ec5b31d1738605335ddcf") false over (fun _ h => by cases h) (by as_aux_lemma=>kernel_rfl) (fun _ h => by cases h) distinguishFinds_row_tie rfl ⟨rfl, rfl⟩ (by as_aux_lemma=>kernel_rfl) rfl
  (fun f fn hf hfn=>by
   obtain rfl : f = 3 := Option.some.inj ((show Tryz.prog.funcNamed "pneumatic/pneumaticlaw53.DistinguishFinds" = some 3 by as_aux_lemma=>kernel_rfl).symm.trans hf) |>.symm
   obtain rfl:fn=Tryz.f3:=(Option.some.inj (Tryz.func3.symm.trans hfn)).symm;exact⟨by as_aux_lemma=>kernel_rfl,fun j t ht=>by
    rw[Tryz.params3]at ht;have hm:t∈[26,29,3]:=by simpa using Array.mem_of_getElem? ht
    have hall:([26,29,3].all fun u=>!Tryz.prog.wantsStandIn u)=true:=by as_aux_lemma=>kernel_rfl
    exact(show Tryz.prog.wantsStandIn t=false by simpa using jP.1 hall t hm)⟩)
  (by as_aux_lemma=>kernel_rfl)
#print axioms proved
end Go.Proofs.YtggbaapfbgjaeaaGreatDoor.distinguishFindsDone
