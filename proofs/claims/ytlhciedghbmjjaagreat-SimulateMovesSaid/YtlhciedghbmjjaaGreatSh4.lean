/- The law SimulateMoves returns true for every input, and leaves what came in as it was. It holds with no further condition. -/
import Derived.Test.YtlhciedghbmjjaaGreatRows
import Derived.Test.YtlhciedghbmjjaaGreatSi47
import Derived.Test.YtlhciedghbmjjaaGreatTq6
import Derived.ProofKit
import Derived.WalkKit
import Derived.OpenShut
import Derived.ShutString
import Derived.ChangeOld
import Derived.Below
import Derived.SizedLaws
import Derived.KernelRfl
set_option linter.all false
namespace Go.Proofs.YtlhciedghbmjjaaGreat.simulateMovesDone
open Go Go.Am Go.Proofs Go.Proofs.YtlhciedghbmjjaaGreat
open Go.ChangeShapes Go.WideShapes Go.ChangeAt Go.RowKit
set_option linter.unusedVariables false
theorem own:ownKnob Tryz.prog.godebug=none:=by kernel_rfl
theorem laidOut:laidOutB Tryz.prog=true:=by kernel_rfl
set_option maxRecDepth 100000 in
theorem lifted(os:Os)(started:os.Started)(H:Type)(enc:TypeId×Value->H) :
  ReturnsInHanded {} Tryz.checked os 4 .any (Rows.simulateMovesSpec.pre6 enc Tryz.prog Tryz.f4 Rows.simulateMovesRow.domain false) (Rows.simulateMovesSpec.post enc Tryz.prog Tryz.f4 false true false false):=by
 refine returnsInHanded_of_change_sized (C:=Tryz.checked) own started (by kernel_rfl) Tryz.func4
  (ChangeSpec.witness6 (enc:=enc) (C:=Tryz.checked) false ⟨#[],#[.agg #[.int .i64 0,.slice none 0 0,.slice none 0 0,.slice none 0 0,.slice none 0 0,.slice none 0 0],.slice none 0 0,.int .i64 0],[]⟩ 8 (by kernel_rfl) (by kernel_rfl) (by kernel_rfl) (by kernel_rfl)) ?_
 intro W base args ds gs before hval0 hW hcnd hsz0 _
 have hval:∀(j:Nat) t v,Tryz.f4.params[j]?=some t->args[j]?=some v->Value.okWide Tryz.prog W .any base t v:=hval0
 have hW':=hW
 obtain⟨p,q,hA0,hV,rfl,hfz,hnd⟩:=hW
 have hA:DataW.TrodAll enc Tryz.prog W 0 (fun _=>true) true Tryz.f4.params.toList args.toList ds p:=hA0
 rw[Tryz.params4]at hA hval
 obtain⟨v0,vs0,d0,ds0,p0,q0,hargs,rfl,rfl,h0,r0⟩:=trodAll_cons hA
 obtain⟨v1,vs1,d1,ds1,p1,q1,rfl,rfl,rfl,h1,r1⟩:=trodAll_cons r0
 obtain⟨v2,vs2,d2,ds2,p2,q2,rfl,rfl,rfl,h2,r2⟩:=trodAll_cons r1
 obtain⟨rfl,rfl,rfl⟩:=trodAll_nil r2
 obtain rfl:args=#[v0,v1,v2]:=by cases args;simp_all
 obtain⟨rfl,rfl⟩:=trodVars_none hV
 have hsz:(DataW.weightsEach Tryz.prog (Tryz.f4.params.toList++[]) ([d0,d1,d2]++[])).all (·<=reachBytes)=true:=hsz0
 rw[Tryz.params4]at hsz
 have k0:=h0
 have k1:=h1
 have k2:=h2
 have lt0:∀x∈p0,x.block<W.heap.size:=by obtain⟨m,hm⟩:=k0;exact DataW.trod_lt m _ _ _ hm
 have lt1:∀x∈p1,x.block<W.heap.size:=by obtain⟨m,hm⟩:=k1;exact DataW.trod_lt m _ _ _ hm
 have lt2:∀x∈p2,x.block<W.heap.size:=by obtain⟨m,hm⟩:=k2;exact DataW.trod_lt m _ _ _ hm
 obtain⟨n0,x0,a0,b0⟩:=qqq qxj (by decide:29∈_) (hval 0 29 v0 rfl rfl) h0
 obtain⟨n1,x1,a1,b1⟩:=qqq qxj (by decide:30∈_) (hval 1 30 v1 rfl rfl) h1
 obtain⟨n2,x2,a2,b2⟩:=qqq qxj (by decide:3∈_) (hval 2 3 v2 rfl rfl) h2
 obtain⟨y0,rfl⟩:∃m:Mch,x0=m.v:=by
  rcases b0 with⟨vs,rfl,ht⟩ | ⟨ha,_⟩
  .obtain⟨m,rfl⟩:=q3a ht
   exact⟨m,rfl⟩
  .rw[zza]at ha
   cases ha
 have z0:=zgd k0 a0 (qsy hsz (j:=0) rfl rfl)
 obtain⟨y1,rfl⟩:∃l:List Prs,x1=prs l:=by
  rcases b1 with⟨vs,rfl,ht⟩ | ⟨_,ht⟩
  .unfold rel at a1
   obtain⟨us,rfl,_⟩:=a1
   obtain⟨a,l,c,hh⟩:=okWide_slice Tryz.underlying30 (hval 1 30 _ rfl rfl)
   cases hh
  .obtain⟨l,hl⟩:=qxx ht
   cases hl
   exact⟨l,rfl⟩
 have z1:=q8j k1 (okWide_slice Tryz.underlying30 (hval 1 30 v1 rfl rfl)) a1 (qsy hsz (j:=1) rfl rfl)
 obtain⟨y2,rfl⟩:∃n:Int,x2=num n:=by
  rcases b2 with⟨vs,rfl,ht⟩ | ⟨_,ht⟩
  .unfold rel at a2
   obtain⟨us,rfl,_⟩:=a2
   obtain⟨a,hh⟩:=okWide_int Tryz.underlying3 (hval 2 3 _ rfl rfl)
   cases hh
  .obtain⟨m,hm⟩:=qec ht
   cases hm
   exact⟨m,rfl⟩
 clear hA0 hval0
 have hr:=ev4 y0 z0 y1 z1 y2
 refine(zmi (us:=#[v0,v1,v2]) made (by unfold qai;exact⟨_,_,rfl,a0,by unfold qai;exact⟨_,_,rfl,a1,by unfold qai;exact⟨_,_,rfl,a2,by unfold qai;rfl⟩⟩⟩) hr rfl).mono fun e W' ⟨he,old⟩=>?_
 subst he
 exact⟨_,rfl,_,_,_,[],_,[],hW',trodAll_mk1 (shut_bool Tryz.underlying4 _),(trodAll_cons_mk (Old.trod laidOut (by kernel_rfl) (of_decide_eq_true (by kernel_rfl)) k0 old lt0) (trodAll_cons_mk (Old.trod laidOut (by kernel_rfl) (of_decide_eq_true (by kernel_rfl)) k1 old lt1) (trodAll_cons_mk (Old.trod laidOut (by kernel_rfl) (of_decide_eq_true (by kernel_rfl)) k2 old lt2) trodAll_mk0))),rfl,old.frame _,fun h=>by cases h⟩
theorem over:Rows.simulateMovesRow.holds Tryz.pinned (OpenSpec.ofChange Rows.simulateMovesSpec) :=
 OpenClaim.holds_of_wide 4 Tryz.f4 rfl rfl rfl rfl rfl rfl rfl ⟨rfl,rfl,rfl,rfl,rfl⟩ rfl rfl rfl rfl rfl (by kernel_rfl) Tryz.func4 (by kernel_rfl)
  (of_decide_eq_true (by kernel_rfl)) (by unfold Func.isWrapper;first | (rw[if_pos (by decide +kernel)];kernel_rfl) | (rw[if_neg (by decide +kernel)];exact⟨rfl,rfl⟩))
  (fun os started H enc _=>lifted os started H enc)
theorem proved:Rows.SimulateMovesSaid:=over
#print axioms proved
end Go.Proofs.YtlhciedghbmjjaaGreat.simulateMovesDone
