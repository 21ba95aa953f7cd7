/- The law DetectFinds returns true for every input, and leaves what came. -/
import Derived.Test.YtbepbclaoohngaaGreatCDt13
import Derived.KernelRfl
import Derived.Test.YtbepbclaoohngaaGreatCDt20
import Derived.Test.YtbepbclaoohngaaGreatCAw13
import Derived.Test.YtbepbclaoohngaaGreatRows
import Derived.Test.YtbepbclaoohngaaGreatCMk1
import Derived.ProofKit
import Derived.WalkKit
import Derived.OpenShut
import Derived.ShutString
import Derived.ChangeOld
import Derived.Below
set_option linter.all false
namespace Go.Proofs.YtbepbclaoohngaaGreat
open Go Go.Am Go.Proofs
set_option maxRecDepth 100000
set_option maxHeartbeats 4000000
theorem ev11(c:Ct)(most:Int):ev pg (.call (.fn 11 [] []) [c.v,num most] [])=some { v:=.bool (c.few&&(decide (most<=30)||decide (16384<most))),st:=⟨[],[]⟩ }:=by
 have e1:=ev26 c
 rw[qaa,pg11]
 generalize c.few=b at *
 cases b with
 | false=>simp[ir11,e1]
 | true =>
  by_cases h:most<=30
  .simp[ir11,e1,h]
  .by_cases h2:16384<most<;>simp[ir11,e1,h,h2]
def zsh(l:List Evn)(k:Nat):Tm:=[some (evs l),some (evs l),none,none,none,nN k]++zN 20
theorem jem(l:List Evn)(hl:l.length<=100000){st:St}(h0:At (zsh l 0) [] st):∃r,ev pg (.code (.going 0 L17_0) st)=some r/\qas (.exit 0) (zsh l l.length) [] r:=by
 refine qfy l.length (zsh l) (fun _=>[]) _ ?_ ?_ h0
 .intro k f hf hk
  have hk':(k:Int)<l.length:=by omega
  have wk:=qbb (k:=k) (by omega)
  simp[zsh,L17_0,hk,hk',wk,hf.ne]
 .intro f hf
  simp[zsh,L17_0,hf.ne]
theorem ev17(l:List Evn)(hl:l.length<=100000):ev pg (.call (.fn 17 [] []) [evs l,evs l] [])=some { v:=.bool true,st:=⟨[],[]⟩ }:=by
 have q:=fun st=>jem l hl (st:=st)
 rw[qaa,pg17]
 simp[ir17,qah]
 generalize hr:ev pg (.code (.going _ L17_0) _)=o
 obtain⟨r,rfl,f,hf,rfl⟩:∃r,o=some r/\_:=by rw[<-hr];exact q _ (by simp[zsh])
 simp[zsh]
def zsi(l:List (Ste×Ste))(k:Nat):Tm:=[some (prs l),some (prs l),none,none,none,nN k]++zN 21
theorem jen(l:List (Ste×Ste))(hl:l.length<=100000)(hp:∀p∈l,PS p){st:St}(h0:At (zsi l 0) [] st):∃r,ev pg (.code (.going 0 L18_0) st)=some r/\qas (.exit 0) (zsi l l.length) [] r:=by
 refine qfy l.length (zsi l) (fun _=>[]) _ ?_ ?_ h0
 .intro k f hf hk
  have hk':(k:Int)<l.length:=by omega
  have wk:=qbb (k:=k) (by omega)
  have e:=ev50 l[k] l[k] (hp _ (jH hk))
  rw[zwj.2 rfl]at e
  simp[zsi,L18_0,hk,hk',e,wk,hf.ne]
 .intro f hf
  simp[zsi,L18_0,hf.ne]
theorem ev18(l:List (Ste×Ste))(hl:l.length<=100000)(hp:∀p∈l,PS p):ev pg (.call (.fn 18 [] []) [prs l,prs l] [])=some { v:=.bool true,st:=⟨[],[]⟩ }:=by
 have q:=fun st=>jen l hl hp (st:=st)
 rw[qaa,pg18]
 simp[ir18,qah]
 generalize hr:ev pg (.code (.going _ L18_0) _)=o
 obtain⟨r,rfl,f,hf,rfl⟩:∃r,o=some r/\_:=by rw[<-hr];exact q _ (by simp[zsi])
 simp[zsi]
abbrev jbw(l:List (Ste×Ste))(a:Nat×Nat):H:=[o0,⟨a.1,.arr a.2 (l.map qbw)⟩]
def zsk(L:List (Ste×Ste))(k:Nat)(a:Nat×Nat):Tm:=[none,none,some (.sl 0 0 0 0 0),some (.sl 1 a.1 a.2 0 (L.take k).length),none,none,some (prs L),nN L.length,nN k]++zN 13
abbrev jbt(a:Nat×Nat):Prop:=a.2=10\/a.2=0
theorem jep(L:List (Ste×Ste))(hL:L.length<=100000){st:St}(a0:Nat×Nat)(g0:jbt a0)(h0:At (zsk L 0 a0) (jbw [] a0) st):∃r,ev pg (.code (.going 2 L19_0) st)=some r/\∃a,jbt a/\qas (.exit 0) (zsk L L.length a) (jbw L a) r:=by
 have hT:L.take L.length=L:=List.take_length
 refine qct L.length (zsk L) (fun k a=>jbw (L.take k) a) (fun _ a=>jbt a) _ ?_ ?_ a0 g0 (by simpa using h0)
 .rintro k ⟨g,m⟩ f hf hk hG
  have hk':(k:Int)<L.length:=by omega
  have wk:=qbb (k:=k) (by omega)
  have hsl:(L.take k).length<=k:=List.length_take_le _ _
  unfold zsk
  rw[jK hk]
  generalize L.take k=C at *
  have hb1:(C.length+1)*240<=140737488355328:=by omega
  have hmm:m=10\/m=0:=hG
  rcases hmm with rfl | rfl<;>simp[L19_0,hk,hk',wk,hb1,hf.ne]
 .rintro⟨g,m⟩ f hf hG
  rw[hT]
  unfold zsk
  rw[hT]
  have hmm:m=10\/m=0:=hG
  rcases hmm with rfl | rfl<;>simp[L19_0,hf.ne]
theorem ev19(L:List (Ste×Ste))(hL:L.length<=100000):ev pg (.call (.fn 19 [] []) [prs L] [])=some { v:=prs L,st:=⟨[],[]⟩ }:=by
 have q:=fun st=>jep L hL (0,0) (.inr rfl) (st:=st)
 have hT:L.take L.length=L:=List.take_length
 rw[qaa,pg19]
 simp[ir19,qah]
 generalize hr:ev pg (.code (.going _ L19_0) _)=o
 obtain⟨r,rfl,⟨g,m⟩,hm,f,hf,rfl⟩:∃r,o=some r/\_:=by rw[<-hr];exact q _ (by simp[zsk])
 clear hr
 unfold zsk
 rw[hT]
 have hmm:m=10\/m=0:=hm
 rcases hmm with rfl | rfl<;>simp
theorem zou{w:Ct×Ct}{most:Int}{k:Nat}{s:Sr}(h:SrOk w most s)(hk:k<s.D.length)(x:Evn):∀z,(qki w most k s x).2=some z->z.1.length<=s.D.length:=by
 intro z hz
 have hkN:k<s.N.length:=by rw[h.len];exact hk
 have hr:=h.run k hkN
 unfold qki at hz
 split at hz
 .split at hz
  .simp only[jC]at hz
   rw[<-hz,jA hkN]
   simp only[Option.getD_some,jF,List.length_cons,List.length_nil]
   omega
  .split at hz
   .cases hz
   .split at hz
    .simp only[jC]at hz
     rw[<-hz]
     simp
    .cases hz
 .simp only[jC]at hz
  rw[<-hz]
  simp
theorem q4x{w:Ct×Ct}(hw:WS w){most:Int}{k:Nat}:∀(l:List Evn) (s:Sr),SrOk w most s->k<s.D.length->∀z,(qhq (qki w most k) s l).2=some z->(z.1.length:Int)<=most
 | [],s,h,hk,z,hz=>by cases hz
 | x :: l,s,h,hk,z,hz=>by
  have h1:=q3d hw h hk x
  have h2:=q3c w most k s x
  have h3:=zou h hk x
  simp only[qhq]at hz
  cases hy:qki w most k s x with
  | mk s' o =>
   rw[hy]at hz h1 h2 h3
   cases o with
   | none=>exact q4x hw l s' h1 (by simp only at h2;omega) z hz
   | some u =>
    simp only[jC]at hz
    have h4:=h3 u rfl
    have:=h.most
    rw[<-hz]
    omega
theorem zrs{w:Ct×Ct}(hw:WS w){most:Int}:∀(d k:Nat) (s:Sr),SrOk w most s->SrOk w most (sGo w most d k s).1/\∀z,(sGo w most d k s).2=some z->(z.1.length:Int)<=most
 | 0,k,s,h=>⟨h,fun z hz=>by cases hz⟩
 | d+1,k,s,h=>by
  simp only[sGo]
  split
  .rename_i hk
   have h1:=qrm hw h hk
   have h2:=q4x hw (qze w ((s.D[k]?).getD q3t)) s h hk
   have hR:qdu w most k s=qhq (qki w most k) s (qze w ((s.D[k]?).getD q3t)):=rfl
   rw[<-hR]at h2
   generalize qdu w most k s=z at *
   obtain⟨s',z⟩:=z
   cases z with
   | none=>exact zrs hw d (k+1) s' h1
   | some y=>exact⟨h1,fun z hz=>by simp only[jC]at hz;rw[<-hz];exact h2 y rfl⟩
  .exact⟨h,fun z hz=>by cases hz⟩
theorem zoz{w:Ct×Ct}{most:Int}(h1:1<=most)(hl:LieP w (qcn w).1):SrOk w most ⟨[(qcn w).1],[[]]⟩:=⟨by simpa using hl,rfl,by simpa using h1,by simp⟩
theorem zeg{w:Ct×Ct}(hw:WS w){most:Int}(h1:1<=most):(∀p∈(qie w most).1.1,LieP w p)/\((qie w most).1.1.length:Int)<=most/\((qie w most).1.2.2.1.length:Int)<=most:=by
 have hlie:=qon hw
 unfold qie
 by_cases he:(qcn w).2.2=0
 .rw[if_pos he]
  cases hr:(qcn w).2.1 with
  | true =>
   cases hd:difP w (qcn w).1 with
   | true=>simp;omega
   | false =>
    simp only[Bool.not_true,Bool.or_self,Bool.false_eq_true,if_false]
    obtain⟨a,b⟩:=zrs hw (most.toNat+1) 0 _ (zoz h1 (hlie he hr))
    generalize sGo w most (most.toNat+1) 0 ⟨[(qcn w).1],[[]]⟩=z at *
    obtain⟨s,z⟩:=z
    cases z with
    | none=>exact⟨a.lie,a.most,by simp[zrr];omega⟩
    | some z=>exact⟨by simp[zrr],by simp[zrr];omega,b z rfl⟩
  | false=>simp;omega
 .rw[if_neg he]
  simp;omega
theorem q6q{c:Ct}(hs:c.small=true)(k i most:Int):(∀p∈(qbz c k i most).1.1,PS p)/\(qbz c k i most).1.1.length<=100000/\(qbz c k i most).1.2.2.1.length<=100000:=by
 unfold qbz
 split
 .rename_i h
  split
  .simp
  .obtain⟨a,b,c⟩:=zeg (qsv hs h).1.toWS (most:=most) (by omega)
   exact⟨fun p hp=>(a p hp).small,by omega,by omega⟩
 .simp
theorem ev3(c:Ct)(k i most:Int):ev pg (.call (.fn 3 [] []) [c.v,fv k i,num most] [])=some { v:=.bool true,st:=⟨[],[]⟩ }:=by
 have e1:=ev11 c most
 have e12:=ev12
 rw[qaa,pg3]
 cases hf:c.few with
 | false =>
  rw[hf]at e1
  simp[ir3,e1,e12]
 | true =>
  rw[hf]at e1
  have hs:=q4t hf
  obtain⟨a,b,d⟩:=q6q hs k i most
  have e2:=ev13 c hs k i most
  have e3:=ev14 c hs k i most
  have e4:=ev15 c hs k i most
  have e5:=ev16 c hs k i most
  have f1:(ztg (qbz c k i most)).1.length<=100000:=by
   unfold ztg
   split
   .exact d
   .simp
  have f2:(zkw (qbz c k i most)).1.length<=100000/\∀p∈(zkw (qbz c k i most)).1,PS p:=by
   unfold zkw
   split
   .split
    .simp
    .exact⟨b,a⟩
   .simp
  have e6:=ev17 _ f1
  have e7:=ev19 _ f2.1
  have e8:=ev18 _ f2.1 f2.2
  clear f1 f2 a b d
  generalize ztg (qbz c k i most)=x at *
  generalize zkw (qbz c k i most)=y at *
  cases hm:(decide (most<=30)||decide (16384<most))with
  | false =>
   rw[hm]at e1
   simp only[Bool.and_false]at e1
   simp[ir3,e1,e12]
  | true =>
   rw[hm]at e1
   simp only[Bool.and_true]at e1
   obtain⟨run,en,e⟩:=x
   obtain⟨L,g⟩:=y
   simp only at *
   simp[ir3,e1,e12,e2,e3,e4,e5,e6,e7,e8]
end Go.Proofs.YtbepbclaoohngaaGreat
namespace Go.Proofs.YtbepbclaoohngaaGreat.detectFindsDone
open Go Go.Am Go.Proofs Go.Proofs.YtbepbclaoohngaaGreat
open Go.ChangeShapes Go.WideShapes Go.ChangeAt Go.RowKit
set_option linter.unusedVariables false
theorem own:ownKnob Tryz.prog.godebug=none:=by kernel_rfl
theorem laidOut:laidOutB Tryz.prog=true:=by kernel_rfl
set_option maxRecDepth 100000 in
theorem lifted(os:Os)(started:os.Started)(H:Type)(enc:TypeId×Value->H) :
  ReturnsInHanded {} Tryz.checked os 3 .any (Rows.detectFindsSpec.pre6 enc Tryz.prog Tryz.f3 Rows.detectFindsRow.domain false) (Rows.detectFindsSpec.post enc Tryz.prog Tryz.f3 false true false false):=by
 refine returnsInHanded_of_change (C:=Tryz.checked) own started (by kernel_rfl) Tryz.func3
  (ChangeSpec.witness6 (enc:=enc) (C:=Tryz.checked) false ⟨#[],#[.agg #[.int .i64 0,.slice none 0 0,.slice none 0 0,.slice none 0 0,.slice none 0 0],.agg #[.int .i64 0,.int .i64 0],.int .i64 0],[]⟩ 8 (by kernel_rfl) (by kernel_rfl) (by kernel_rfl) (by kernel_rfl)) ?_
 intro W base args ds gs before hval0 hW hcnd _
 have hval:∀(j:Nat) t v,Tryz.f3.params[j]?=some t->args[j]?=some v->Value.okWide Tryz.prog W .any base t v:=hval0
 have hW':=hW
 obtain⟨p,q,hA0,hV,rfl,hfz,hnd⟩:=hW
 have hA:DataW.TrodAll enc Tryz.prog W 0 (fun _=>true) true Tryz.f3.params.toList args.toList ds p:=hA0
 rw[Tryz.params3]at hA hval
 obtain⟨v0,vs0,d0,ds0,p0,q0,hargs,rfl,rfl,h0,r0⟩:=trodAll_cons hA
 obtain⟨v1,vs1,d1,ds1,p1,q1,rfl,rfl,rfl,h1,r1⟩:=trodAll_cons r0
 obtain⟨v2,vs2,d2,ds2,p2,q2,rfl,rfl,rfl,h2,r2⟩:=trodAll_cons r1
 obtain⟨rfl,rfl,rfl⟩:=trodAll_nil r2
 obtain rfl:args=#[v0,v1,v2]:=by cases args;simp_all
 obtain⟨rfl,rfl⟩:=trodVars_none hV
 have k0:=h0
 have k1:=h1
 have k2:=h2
 have lt0:∀x∈p0,x.block<W.heap.size:=by obtain⟨m,hm⟩:=k0;exact DataW.trod_lt m _ _ _ hm
 have lt1:∀x∈p1,x.block<W.heap.size:=by obtain⟨m,hm⟩:=k1;exact DataW.trod_lt m _ _ _ hm
 have lt2:∀x∈p2,x.block<W.heap.size:=by obtain⟨m,hm⟩:=k2;exact DataW.trod_lt m _ _ _ hm
 obtain⟨n0,x0,a0,b0⟩:=qsa q0e (by decide:26∈_) (hval 0 26 v0 rfl rfl) h0
 obtain⟨n1,x1,a1,b1⟩:=qsa q0e (by decide:28∈_) (hval 1 28 v1 rfl rfl) h1
 obtain⟨n2,x2,a2,b2⟩:=qsa q0e (by decide:3∈_) (hval 2 3 v2 rfl rfl) h2
 obtain⟨y0,rfl⟩:∃c:Ct,x0=c.v:=by
  rcases b0 with⟨vs,rfl,ht⟩ | ⟨ha,_⟩
  .obtain⟨c,rfl⟩:=zbq ht
   exact⟨c,rfl⟩
  .rw[zyu]at ha
   cases ha
 obtain⟨y1,y1i,rfl⟩:∃k i:Int,x1=fv k i:=by
  rcases b1 with⟨vs,rfl,ht⟩ | ⟨ha,_⟩
  .obtain⟨k,i,rfl⟩:=zbr ht
   exact⟨k,i,rfl⟩
  .rw[zyv]at ha
   cases ha
 obtain⟨y2,rfl⟩:∃n:Int,x2=num n:=by
  rcases b2 with⟨vs,rfl,ht⟩ | ⟨_,ht⟩
  .unfold rel at a2
   obtain⟨us,rfl,_⟩:=a2
   obtain⟨a,hh⟩:=okWide_int Tryz.underlying3 (hval 2 3 _ rfl rfl)
   cases hh
  .obtain⟨m,hm⟩:=qew ht
   cases hm
   exact⟨m,rfl⟩
 clear hA0 hval0
 have hr:=ev3 y0 y1 y1i y2
 refine(zqa (us:=#[v0,v1,v2]) made (by unfold qaj;exact⟨_,_,rfl,a0,by unfold qaj;exact⟨_,_,rfl,a1,by unfold qaj;exact⟨_,_,rfl,a2,by unfold qaj;rfl⟩⟩⟩) hr rfl).mono fun e W' ⟨he,old⟩=>?_
 subst he
 exact⟨_,rfl,_,_,_,[],_,[],hW',trodAll_mk1 (shut_bool Tryz.underlying4 _),(trodAll_cons_mk (Old.trod laidOut (by kernel_rfl) (of_decide_eq_true (by kernel_rfl)) k0 old lt0) (trodAll_cons_mk (Old.trod laidOut (by kernel_rfl) (of_decide_eq_true (by kernel_rfl)) k1 old lt1) (trodAll_cons_mk (Old.trod laidOut (by kernel_rfl) (of_decide_eq_true (by kernel_rfl)) k2 old lt2) trodAll_mk0))),rfl,old.frame _,fun h=>by cases h⟩
end Go.Proofs.YtbepbclaoohngaaGreat.detectFindsDone
