/- The law DistinguishFinds returns true for every input, and leaves what. -/
import Derived.Test.YtggbaapfbgjaeaaGreatDoorFMk1
import Derived.Test.YtggbaapfbgjaeaaGreatDoorRows
import Derived.Test.YtggbaapfbgjaeaaGreatDoorCards
import Derived.Test.YtggbaapfbgjaeaaGreatDoorTie
import Derived.Test.YtggbaapfbgjaeaaGreatDoorFDl3
import Derived.Lay
import Derived.LaidLaws
import Derived.MakeChecks
import Derived.Handy
import Derived.SevenTiedAt
import Derived.ProofKit
import Derived.OpenShut
import Derived.ShutString
import Derived.ChangeOld
import Derived.Below
import Derived.WalkKit
set_option linter.all false
namespace Go.Proofs.YtggbaapfbgjaeaaGreatDoor.distinguishFindsDone
open Go Go.Am Go.Proofs Go.Proofs.YtggbaapfbgjaeaaGreatDoor
open Go.ChangeShapes Go.WideShapes Go.ChangeAt Go.RowKit
set_option linter.unusedVariables false
theorem own:ownKnob Tryz.prog.godebug=none:=by kernel_rfl
theorem laidOut:laidOutB Tryz.prog=true:=by kernel_rfl
set_option maxRecDepth 100000 in
theorem lifted(os:Os)(started:os.Started)(H:Type)(enc:TypeId×Value->H) :
  ReturnsInHanded {} Tryz.checked os 3 .any (fun w args=>(Rows.distinguishFindsSpec.pre enc Tryz.prog Tryz.f3 Rows.distinguishFindsRow.domain false w args/\laidMetH Tryz.prog Rows.distinguishFindsRow.laid w)/\sizedMet enc Tryz.prog Tryz.f3 (OpenSpec.ofChange Rows.distinguishFindsSpec) false w args)
   (Rows.distinguishFindsSpec.post enc Tryz.prog Tryz.f3 false true false false):=by
 refine returnsInHanded_of_change_and (C:=Tryz.checked) (X:=fun w _=>laidMetH Tryz.prog Rows.distinguishFindsRow.laid w) (fun _ _ _ hh h=>h.of_heap hh) own started (by kernel_rfl) Tryz.func3
  (ChangeSpec.witness_shaped (enc:=enc) (C:=Tryz.checked) (os:=os) (X:=fun w _=>laidMetH Tryz.prog Rows.distinguishFindsRow.laid w) false (World.laidAll Tryz.prog os Rows.distinguishFindsRow.laid) #[.agg #[.int .i64 0,.slice none 0 0,.slice none 0 0,.slice none 0 0,.slice none 0 0],.agg #[.int .i64 0,.int .i64 0,.int .i64 0,.int .i64 0],.int .i64 0] 8 (World.laidAll_os _ _ _)
   (World.shaped_of_ZipB (by kernel_rfl) (by kernel_rfl)) (by kernel_rfl) (by kernel_rfl) (by kernel_rfl)
   (by rw[MakeChecks.laidMetH_plain _ _ _ (by kernel_rfl)];exact laidMet_laidAll _ (by kernel_rfl) (by kernel_rfl))) ?_
 intro W base args ds gs before hval0 hW hcnd hsz0 _ _;have hval:∀(j:Nat) t v,Tryz.f3.params[j]?=some t->args[j]?=some v->Value.okWide Tryz.prog W .any base t v:=hval0;have hW':=hW;obtain⟨p,q,hA0,hV,rfl,hfz,hnd⟩:=hW;have hA:DataW.TrodAll enc Tryz.prog W 0 (fun _=>true) true Tryz.f3.params.toList args.toList ds p:=hA0;rw[Tryz.params3]at hA hval;obtain⟨v0,vs0,d0,ds0,p0,q0,hargs,rfl,rfl,h0,r0⟩:=trodAll_cons hA;obtain⟨v1,vs1,d1,ds1,p1,q1,rfl,rfl,rfl,h1,r1⟩:=trodAll_cons r0;obtain⟨v2,vs2,d2,ds2,p2,q2,rfl,rfl,rfl,h2,r2⟩:=trodAll_cons r1;obtain⟨rfl,rfl,rfl⟩:=trodAll_nil r2;obtain rfl:args=#[v0,v1,v2]:=by cases args;simp_all
 obtain⟨rfl,rfl⟩:=trodVars_none hV;have k0:=h0;have k1:=h1;have k2:=h2;have lt0:∀x∈p0,x.block<W.heap.size:=by obtain⟨m,hm⟩:=k0;exact DataW.trod_lt m _ _ _ hm
 have lt1:∀x∈p1,x.block<W.heap.size:=by obtain⟨m,hm⟩:=k1;exact DataW.trod_lt m _ _ _ hm
 have lt2:∀x∈p2,x.block<W.heap.size:=by obtain⟨m,hm⟩:=k2;exact DataW.trod_lt m _ _ _ hm
 obtain⟨n0,x0,a0,b0⟩:=zfp zqh (by decide:26∈_) (hval 0 26 v0 rfl rfl) h0;obtain⟨y1,y1b,y1c,y1d,rfl⟩:=zjp (hval 1 29 v1 rfl rfl) h1;have a1:=zow (E:=zlg W) y1 y1b y1c y1d;obtain⟨n2,x2,a2,b2⟩:=zfp zqh (by decide:3∈_) (hval 2 3 v2 rfl rfl) h2;obtain⟨y0,rfl⟩:∃c:Ct,x0=c.v:=by
  rcases b0 with⟨vs,rfl,ht⟩ | ⟨ha,_⟩
  .obtain⟨c,rfl⟩:=zpe ht;exact⟨c,rfl⟩
  .rw[z2p]at ha;cases ha
 obtain⟨y2,rfl⟩:∃n:Int,x2=num n:=by
  rcases b2 with⟨vs,rfl,ht⟩ | ⟨_,ht⟩
  .unfold rel at a2;obtain⟨us,rfl,_⟩:=a2;obtain⟨a,hh⟩:=okWide_int Tryz.underlying3 (hval 2 3 _ rfl rfl);cases hh
  .obtain⟨m,hm⟩:=qhx ht;cases hm;exact⟨m,rfl⟩
 clear hA0 hval0;have hr:=ev3 y0 (y1,y1b) (y1c,y1d) y2;refine(zyp (us:=#[v0,.agg #[.int .i64 y1,.int .i64 y1b,.int .i64 y1c,.int .i64 y1d],v2]) made (by unfold qaj;exact⟨_,_,rfl,a0,by unfold qaj;exact⟨_,_,rfl,a1,by unfold qaj;exact⟨_,_,rfl,a2,by unfold qaj;rfl⟩⟩⟩) hr rfl).mono fun e W' ⟨he,old⟩=>?_;subst he;exact⟨_,rfl,_,_,_,[],_,[],hW',trodAll_mk1 (shut_bool Tryz.underlying4 _),(trodAll_cons_mk (Old.trod laidOut (by kernel_rfl) (of_decide_eq_true (by kernel_rfl)) k0 old lt0) (trodAll_cons_mk (Old.trod laidOut (by kernel_rfl) (of_decide_eq_true (by kernel_rfl)) k1 old lt1) (trodAll_cons_mk (Old.trod laidOut (by kernel_rfl) (of_decide_eq_true (by kernel_rfl)) k2 old lt2) trodAll_mk0))),rfl,old.frame _,fun h=>by cases h⟩
end Go.Proofs.YtggbaapfbgjaeaaGreatDoor.distinguishFindsDone
