/- The law DetectEither returns true for every input, and leaves what cam. -/
import Derived.Test.YtbepbclaoohngaaGreatRows
import Derived.Test.YtbepbclaoohngaaGreatDt28
import Derived.Test.YtbepbclaoohngaaGreatMk1
import Derived.ProofKit
import Derived.WalkKit
import Derived.OpenShut
import Derived.ShutString
import Derived.ChangeOld
import Derived.Below
import Derived.KernelRfl
set_option linter.all false
namespace Go.Proofs.YtbepbclaoohngaaGreat.detectEitherDone
open Go Go.Am Go.Proofs Go.Proofs.YtbepbclaoohngaaGreat
open Go.ChangeShapes Go.WideShapes Go.ChangeAt Go.RowKit
set_option linter.unusedVariables false
theorem own:ownKnob Tryz.prog.godebug=none:=by kernel_rfl
theorem laidOut:laidOutB Tryz.prog=true:=by kernel_rfl
set_option maxRecDepth 100000 in
theorem lifted(os:Os)(started:os.Started)(H:Type)(enc:TypeId×Value->H) :
  ReturnsInHanded {} Tryz.checked os 9 .any (Rows.detectEitherSpec.pre6 enc Tryz.prog Tryz.f9 Rows.detectEitherRow.domain false) (Rows.detectEitherSpec.post enc Tryz.prog Tryz.f9 false true false false):=by
 refine returnsInHanded_of_change (C:=Tryz.checked) own started (by kernel_rfl) Tryz.func9
  (ChangeSpec.witness6 (enc:=enc) (C:=Tryz.checked) false ⟨#[],#[.agg #[.int .i64 0,.slice none 0 0,.slice none 0 0,.slice none 0 0,.slice none 0 0],.agg #[.int .i64 0,.int .i64 0]],[]⟩ 8 (by kernel_rfl) (by kernel_rfl) (by kernel_rfl) (by kernel_rfl)) ?_
 intro W base args ds gs before hval0 hW hcnd _
 have hval:∀(j:Nat) t v,Tryz.f9.params[j]?=some t->args[j]?=some v->Value.okWide Tryz.prog W .any base t v:=hval0
 have hW':=hW
 obtain⟨p,q,hA0,hV,rfl,hfz,hnd⟩:=hW
 have hA:DataW.TrodAll enc Tryz.prog W 0 (fun _=>true) true Tryz.f9.params.toList args.toList ds p:=hA0
 rw[Tryz.params9]at hA hval
 obtain⟨v0,vs0,d0,ds0,p0,q0,hargs,rfl,rfl,h0,r0⟩:=trodAll_cons hA
 obtain⟨v1,vs1,d1,ds1,p1,q1,rfl,rfl,rfl,h1,r1⟩:=trodAll_cons r0
 obtain⟨rfl,rfl,rfl⟩:=trodAll_nil r1
 obtain rfl:args=#[v0,v1]:=by cases args;simp_all
 obtain⟨rfl,rfl⟩:=trodVars_none hV
 have k0:=h0
 have k1:=h1
 have lt0:∀x∈p0,x.block<W.heap.size:=by obtain⟨m,hm⟩:=k0;exact DataW.trod_lt m _ _ _ hm
 have lt1:∀x∈p1,x.block<W.heap.size:=by obtain⟨m,hm⟩:=k1;exact DataW.trod_lt m _ _ _ hm
 obtain⟨n0,x0,a0,b0⟩:=qmg qub (by decide:26∈_) (hval 0 26 v0 rfl rfl) h0
 obtain⟨n1,x1,a1,b1⟩:=qmg qub (by decide:28∈_) (hval 1 28 v1 rfl rfl) h1
 obtain⟨y0,rfl⟩:∃c:Ct,x0=c.v:=by
  rcases b0 with⟨vs,rfl,ht⟩ | ⟨ha,_⟩
  .obtain⟨c,rfl⟩:=q3o ht
   exact⟨c,rfl⟩
  .rw[zsy]at ha
   cases ha
 obtain⟨y1,y1i,rfl⟩:∃k i:Int,x1=fv k i:=by
  rcases b1 with⟨vs,rfl,ht⟩ | ⟨ha,_⟩
  .obtain⟨k,i,rfl⟩:=q3q ht
   exact⟨k,i,rfl⟩
  .rw[zsz]at ha
   cases ha
 clear hA0 hval0
 have hr:=ev9 y0 y1 y1i
 refine(zii (us:=#[v0,v1]) made (by unfold qai;exact⟨_,_,rfl,a0,by unfold qai;exact⟨_,_,rfl,a1,by unfold qai;rfl⟩⟩) hr rfl).mono fun e W' ⟨he,old⟩=>?_
 subst he
 exact⟨_,rfl,_,_,_,[],_,[],hW',trodAll_mk1 (shut_bool Tryz.underlying4 _),(trodAll_cons_mk (Old.trod laidOut (by kernel_rfl) (of_decide_eq_true (by kernel_rfl)) k0 old lt0) (trodAll_cons_mk (Old.trod laidOut (by kernel_rfl) (of_decide_eq_true (by kernel_rfl)) k1 old lt1) trodAll_mk0)),rfl,old.frame _,fun h=>by cases h⟩
end Go.Proofs.YtbepbclaoohngaaGreat.detectEitherDone
