/- The law DetectHarmless returns true for every input, and leaves what c. -/
import Derived.Test.YtbepbclaoohngaaGreatDt23
import Derived.Test.YtbepbclaoohngaaGreatDe3
import Derived.KernelRfl
import Derived.Test.YtbepbclaoohngaaGreatDt28
import Derived.Test.YtbepbclaoohngaaGreatRu3
import Derived.Test.YtbepbclaoohngaaGreatRows
import Derived.Test.YtbepbclaoohngaaGreatMk1
import Derived.ProofKit
import Derived.WalkKit
import Derived.OpenShut
import Derived.ShutString
import Derived.ChangeOld
import Derived.Below
set_option linter.all false
namespace Go.Proofs.YtbepbclaoohngaaGreat
open Go Go.Am Go.Proofs
set_option maxRecDepth 100000
def Dg(s:Sr):Prop:=∀p∈s.D,p.1=p.2
theorem zze{w:Ct×Ct}(he:w.1=w.2){p:Ste×Ste}(hp:p.1=p.2)(x:Evn)(h0:(qfg w p x).2.2=0):(qfg w p x).2.1=true/\(qfg w p x).1.1=(qfg w p x).1.2:=by
 unfold qfg at h0 ⊢
 split at h0
 .rename_i h
  rw[if_pos h,<-he,<-hp]
  exact⟨by simp[h],rfl⟩
 .rename_i h;exact absurd h0 h
theorem zqd{w:Ct×Ct}(he:w.1=w.2){p:Ste×Ste}(hp:p.1=p.2):difP w p=false:=by
 unfold difP
 rw[<-he,<-hp]
 simp
theorem zxd{w:Ct×Ct}(he:w.1=w.2){most:Int}{k:Nat}{s:Sr}(h:Dg s){p:Ste×Ste}(hp:s.D[k]?=some p)(x:Evn):Dg (qhg w most k s x).1/\∀z,(qhg w most k s x).2=some z->z.2.1=false:=by
 have hpe:=h p (jR hp)
 unfold qhg
 rw[hp]
 simp only[Option.getD_some]
 by_cases h0:(qfg w p x).2.2=0
 .obtain⟨a,b⟩:=zze he hpe x h0
  have c:=zqd he b
  rw[if_pos h0,a,c]
  simp only[Bool.not_true,Bool.or_self,Bool.false_eq_true,if_false]
  split
  .exact⟨h,fun z hz=>by simp at hz⟩
  .split
   .exact⟨h,fun z hz=>by simp only[jC]at hz;rw[<-hz]⟩
   .refine⟨fun q hq=>?_,fun z hz=>by simp at hz⟩
    rcases jQ.1 hq with hq | hq
    .exact h q hq
    .rw[List.mem_singleton.1 hq];exact b
 .rw[if_neg h0]
  exact⟨h,fun z hz=>by simp only[jC]at hz;rw[<-hz]⟩
theorem zam{w:Ct×Ct}(he:w.1=w.2){most:Int}{k:Nat}{p:Ste×Ste}:∀(l:List Evn) (s:Sr),Dg s->s.D[k]?=some p->Dg (qck (qhg w most k) s l).1/\∀z,(qck (qhg w most k) s l).2=some z->z.2.1=false
 | [],s,h,hp=>⟨h,fun z hz=>by cases hz⟩
 | x :: l,s,h,hp=>by
  have hk:k<s.D.length:=(jG.1 hp).1
  obtain⟨h1,h2⟩:=zxd he (most:=most) h hp x
  have h3:=qvk w most k s x hk
  simp only[qck]
  cases hy:qhg w most k s x with
  | mk s' o =>
   rw[hy]at h1 h2 h3
   cases o with
   | none=>exact zam he l s' h1 (by rw[h3];exact hp)
   | some z=>exact⟨h1,h2⟩
theorem zsa{w:Ct×Ct}(he:w.1=w.2){most:Int}:∀(d k:Nat) (s:Sr),Dg s->∀z,(sGo w most d k s).2=some z->z.2.1=false
 | 0,k,s,h,z,hz=>by cases hz
 | d+1,k,s,h,z,hz=>by
  simp only[sGo]at hz
  split at hz
  .rename_i hk
   have hp:s.D[k]?=some s.D[k]:=jA hk
   obtain⟨h1,h2⟩:=zam he (most:=most) (qkm w s.D[k]) s h hp
   have hR:qde w most k s=qck (qhg w most k) s (qkm w s.D[k]):=by unfold qde;rw[hp];rfl
   rw[<-hR]at h1 h2
   generalize qde w most k s=y at *
   obtain⟨s',y⟩:=y
   cases y with
   | none=>exact zsa he d (k+1) s' h1 z hz
   | some y =>
    simp only[jC]at hz
    rw[<-hz]
    exact h2 y rfl
  .cases hz
theorem zko{w:Ct×Ct}(he:w.1=w.2){most:Int}:(qdt w most).1.2.2.2=false:=by
 unfold qdt
 by_cases h0:(qap w).2.2=0
 .rw[if_pos h0]
  have ha:(qap w).2.1=true/\(qap w).1.1=(qap w).1.2:=by
   unfold qap at h0 ⊢
   split at h0
   .rename_i h
    rw[if_pos h,<-he]
    exact⟨by simp[h],rfl⟩
   .rename_i h;exact absurd h0 h
  rw[ha.1,zqd he ha.2]
  simp only[Bool.not_true,Bool.or_self,Bool.false_eq_true,if_false]
  have:=zsa he (most:=most) (most.toNat+1) 0 ⟨[(qap w).1],[[]]⟩ (by intro p hp;rw[List.mem_singleton.1 hp];exact ha.2)
  generalize sGo w most (most.toNat+1) 0 ⟨[(qap w).1],[[]]⟩=z at *
  obtain⟨s,z⟩:=z
  cases z with
  | none=>rfl
  | some z=>exact this z rfl
 .rw[if_neg h0]
theorem zpm{c:Ct}(hs:c.small=true){k i:Int}(hi:qhs c k i=0):qtv c k i=0/\(qun c k i=[]->c=qio c k i):=by
 have hf:qtv c k i=0:=by
  unfold qhs at hi
  split at hi
  .assumption
  .exact hi
 refine⟨hf,fun h=>?_⟩
 unfold qio
 rw[if_pos hi]
 exact(zex hs hf).1 h
theorem zwg{w:Ct×Ct}{p:Ste×Ste}(h:LieP w p){x:Evn}(hk:¬(x.kind<0\/2<x.kind))(hm:qow p.1 x=true):∃y∈qkm w p,∀c s,qbk c s y=qbk c s x:=by
 have h0:0<=x.idx:=zwh hm
 have hx:((x.idx.toNat:Nat):Int)=x.idx:=Int.toNat_of_nonneg h0
 rw[zag h]
 by_cases h2:x.kind=2
 .refine⟨x,List.mem_append_right _ ?_,fun _ _=>rfl⟩
  unfold qow at hm
  rw[if_neg (by omega),if_pos h2]at hm
  cases hi:p.1.inputs[x.idx.toNat]? with
  | none=>rw[hi]at hm;simp at hm
  | some v =>
   rw[hi]at hm
   simp at hm
   obtain⟨hlt,hv⟩:=jG.1 hi
   unfold zew
   rw[List.mem_iff_getElem]
   refine⟨x.idx.toNat,by simpa using hlt,?_⟩
   simp only[List.getElem_mapIdx,hv,hx]
   obtain⟨a,b,d⟩:=x
   simp only at h2 hm ⊢
   subst h2
   cases v<;>cases d<;>simp_all
 .have h01:x.kind=0\/x.kind=1:=by omega
  refine⟨⟨x.kind,x.idx,false⟩,List.mem_append_left _ ?_,?_⟩
  .unfold qow at hm
   rw[if_neg (by omega),if_neg h2]at hm
   rw[zbs]
   rcases h01 with h | h
   .left
    rw[h]at hm ⊢
    refine⟨x.idx.toNat,?_,hm,by rw[hx]⟩
    unfold qdg at hm
    rw[if_pos rfl]at hm
    cases he:p.1.ends[x.idx.toNat]? with
    | none=>rw[he]at hm;simp at hm
    | some v=>exact(jG.1 he).1
   .right
    rw[h]at hm ⊢
    refine⟨x.idx.toNat,?_,hm,by rw[hx]⟩
    unfold qdg at hm
    rw[if_neg (by omega)]at hm
    cases he:p.1.timers[x.idx.toNat]? with
    | none=>rw[he]at hm;simp at hm
    | some v=>exact(jG.1 he).1
  .intro c s
   unfold qbk qow qer
   simp only[h2,if_false]
   rcases h01 with h | h<;>simp[h]
theorem znk{a b a' b':Ste}(h1:a.ends=a'.ends)(h2:b.ends=b'.ends):qjv a b=qjv a' b':=by
 unfold qjv qwd
 rw[h1,h2]
theorem zhq(a b:Ste):(qjv a b).length<=a.ends.length:=by
 unfold qjv
 refine Nat.le_trans (List.length_filterMap_le _ _) ?_
 simp
theorem zaa{w:Ct×Ct}{p:Ste×Ste}(h:difP w p=false):p.1.ends=p.2.ends:=by
 unfold difP at h
 simp at h
 exact h.1
theorem q1a{w:Ct×Ct}{most:Int}{p0:Ste×Ste}{s:Sr}(h:Fnds w most p0 s.D.length s):∀(l:List Evn) (p:Ste×Ste) (k i:Nat) (a b:Crs),p∈s.D->a.st=p.1->b.st=p.2->a.strokes=b.strokes ->
  (qfh w l p k).2.2=(qjg w.1 l i a).2.2/\((qfh w l p k).2.2=0->qfh w l p k=(((k+l.length:Nat):Int),false,0)/\(qjg w.2 l i b).2.2=0/\(qjg w.1 l i a).1.strokes=(qjg w.2 l i b).1.strokes/\((∀r∈a.strokes,r.length<=100000)->∀r∈(qjg w.1 l i a).1.strokes,r.length<=100000)/\(qjg w.1 l i a).1.strokes.length=a.strokes.length+l.length)
 | [],p,k,i,a,b,hp,ha,hb,hs=>by
  simp[qfh,qjg,hs]
 | x :: l,p,k,i,a,b,hp,ha,hb,hs=>by
  have hl:=h.lie p hp
  simp only[qfh,qjg]
  rw[ha,hb,qqb hl]
  by_cases he:(qbk w.1 p.1 x).2.2=0
  .have hb0:(qfg w p x).2.2=0:=by rw[qqb hl];exact he
   have hmk:¬(x.kind<0\/2<x.kind)/\qow p.1 x=true:=by
    unfold qbk at he
    split at he
    .simp at he
    .rename_i h1
     split at he
     .rename_i h2;exact⟨h1,h2⟩
     .simp at he
   obtain⟨y,hy,hxy⟩:=zwg hl hmk.1 hmk.2
   have hbe:qfg w p y=qfg w p x:=by
    unfold qfg
    rw[hl.g.next1,hl.b.next1,hl.g.next1,hl.b.next1,hxy,hxy]
   obtain⟨o1,o2,o3⟩:=h.errs hp hy
   rw[hbe]at o1 o2 o3
   have hd:=h.dif _ o3
   rw[if_pos he,if_pos he,o2,hd]
   simp only[Bool.not_true,Bool.or_self,Bool.false_eq_true,if_false]
   have hb1:(qfg w p x).1=((qbk w.1 p.1 x).1,(qbk w.2 p.2 x).1):=by
    unfold qfg
    rw[hl.g.next1,hl.b.next1,if_pos he]
   have hb2:(qbk w.2 p.2 x).2.2=0:=by
    have:=o2
    unfold qfg at this
    rw[hl.g.next1,hl.b.next1,if_pos he]at this
    simpa using this
   rw[if_pos hb2]
   have hfr:qjv p.1 (qbk w.1 p.1 x).1=qjv p.2 (qbk w.2 p.2 x).1:=by
    refine znk (zaa (h.dif _ hp)) ?_
    have:=zaa hd
    rw[hb1]at this
    exact this
   obtain⟨i1,i2⟩:=q1a h l (qfg w p x).1 (k+1) (i+1) ⟨(qbk w.1 p.1 x).1,a.strokes++[qjv p.1 (qbk w.1 p.1 x).1],norm (qos w.1) (a.conf++(qbk w.1 p.1 x).2.1)⟩ ⟨(qbk w.2 p.2 x).1,b.strokes++[qjv p.2 (qbk w.2 p.2 x).1],norm (qos w.2) (b.conf++(qbk w.2 p.2 x).2.1)⟩ o3 (by rw[hb1]) (by rw[hb1]) (by simp only[hs,hfr])
   refine⟨i1,fun h0=>?_⟩
   obtain⟨j1,j2,j3,j4,j5⟩:=i2 h0
   refine⟨?_,j2,j3,fun hr=>j4 ?_,?_⟩
   .rw[j1]
    simp only[List.length_cons]
    congr 2
    omega
   .intro r hr'
    rcases jQ.1 hr' with hr' | hr'
    .exact hr r hr'
    .rw[List.mem_singleton.1 hr']
     have:=zhq p.1 (qbk w.1 p.1 x).1
     have:=hl.small.g.e
     omega
   .rw[j5]
    simp only[jF,List.length_cons,List.length_nil]
    omega
  .rw[if_neg he,if_neg he]
   exact⟨rfl,fun h0=>absurd h0 he⟩
set_option maxHeartbeats 8000000
abbrev z9z(S:List (List (Int×Bool))):V:=.imm (S.map zyd)
theorem ev42(a:List (Int×Bool))(ha:a.length<=100000):ev pg (.call (.fn 42 [] []) [zsd a,zsd a] [])=some { v:=.bool true,st:=⟨[],[]⟩ }:=by
 have e1:=ev43 a a ha
 rw[qab,pg42]
 simp[ir42,e1]
def zss(S:List (List (Int×Bool)))(k:Nat):Tm:=[none,some (z9z S),some (.fn 42 [] [])]++zN 12++[some (z9z S),nN S.length,nN k]++zN 14
theorem jdg(S:List (List (Int×Bool)))(hS:S.length<=100000)(hr:∀r∈S,r.length<=100000){st:St}(h0:At (zss S 0) [] st):∃r,ev pg (.code (.going 0 L41_0) st)=some r/\qbn (.exit 0) (zss S S.length) [] r:=by
 refine qnw S.length (zss S) (fun _=>[]) _ ?_ ?_ h0
 .intro k f hf hk
  have hk':(k:Int)<S.length:=by omega
  have wk:=qbs (k:=k) (by omega)
  have e:=ev42 S[k] (hr _ (jH hk))
  simp[zss,L41_0,hk,hk',e,wk,hf.ne]
 .intro f hf
  simp[zss,L41_0,hf.ne]
theorem ev41(S:List (List (Int×Bool)))(hS:S.length<=100000)(hr:∀r∈S,r.length<=100000):ev pg (.call (.fn 41 [] []) [z9z S,z9z S,.fn 42 [] []] [])=some { v:=.bool true,st:=⟨[],[]⟩ }:=by
 have q:=fun st=>jdg S hS hr (st:=st)
 rw[qab,pg41]
 simp[ir41,qam]
 generalize hr:ev pg (.code (.going _ L41_0) _)=o
 obtain⟨r,rfl,f,hf,rfl⟩:∃r,o=some r/\_:=by rw[<-hr];exact q _ (by simp[zss])
 simp[zss]
theorem ev10(c:Ct)(k i:Int)(l:List Evn):ev pg (.call (.fn 10 [] []) [c.v,fv k i,evs l] [])=some { v:=.bool true,st:=⟨[],[]⟩ }:=by
 have e1:=ev30 c k i
 have e12:=ev12
 rw[qab,pg10]
 cases hf:c.few with
 | false =>
  rw[hf]at e1
  simp only[Bool.false_and]at e1
  simp[ir10,e1,e12]
 | true =>
  rw[hf]at e1
  by_cases hi:qhs c k i=0
  .simp only[hi,decide_true,Bool.and_true]at e1
   by_cases hl:12<l.length
   .have hl':(12:Int)<l.length:=by omega
    simp[ir10,e1,e12,hl,hl']
   .have hl':¬(12:Int)<l.length:=by omega
    have hs:=qqk hf
    have hW:=(qmr hs hi).1
    have e2:=ev13 c hs k i 30
    have e3:=ev37 c hs k i
    obtain⟨hflt,htch⟩:=zpm hs hi
    have hdg:=fun h=>zko (w:=(c,qio c k i)) (most:=30) (htch h)
    rw[qki hi]at e2
    rw[hflt]at e3
    have e4:=ev38 c hs k i
    rw[hi]at e4
    have e5:=ev27 c hs k i l
    have e6:=ev39 c hs
    have e7:=ev39 (qio c k i) hW.b
    have hsg:=fun h0 h1 h2=>zkp (c:=c) (k:=k) (i:=i) hi h0 h1 h2 (l:=l) (by omega)
    have htz:((qun c k i).length:Int)=0->qun c k i=[]:=fun h=>List.length_eq_zero_iff.1 (by omega)
    generalize qun c k i=tc at *
    generalize hdd:qio c k i=d at *
    rcases q3j hW (most:=30) (by omega)with⟨h1,h2⟩ | ⟨h0,h1,h2⟩ | ⟨h0,h1,h2,hlie,⟨s,h3,h4⟩ | ⟨run,h3,h4⟩⟩
    .generalize qdt (c,d) 30=x at *
     unfold zli at e2
     rw[if_neg h1]at e2
     rcases h2 with h2 | h2<;>rw[h2]at e2<;>simp[ir10,e1,e2,e3,e12,hl,hl']
    .rw[h1]at e2 hdg
     simp[zli]at e2
     have ht:¬(tc.length:Int)=0:=fun h=>by have:=hdg (htz h);simp at this
     have htb:((tc.length:Int)==0)=false:=by simpa using ht
     simp[ir10,e1,e2,e3,e12,hl,hl',ht,htb]
    .rw[h3]at e2
     simp[zli]at e2
     have hst:(qcy c).2.2=0/\(qcy d).2.2=0/\(qap (c,d)).1=((qcy c).1,(qcy d).1):=by
      unfold qap at h0 h1 ⊢
      split at h0
      .rename_i h
       rw[if_pos h]at h1 ⊢
       exact⟨h,by simpa using h1,rfl⟩
      .rename_i h;exact absurd h0 h
     obtain⟨s1,s2,s3⟩:=hst
     have hmem:=jR h4.st
     have sg:=hsg h0 h1 h2
     rw[sg]at e5
     have rb:=q1a h4 l (qap (c,d)).1 0 0 ⟨(qap (c,d)).1.1,[],[]⟩ ⟨(qap (c,d)).1.2,[],[]⟩ hmem rfl rfl rfl
     have e8:=ev40 c (qap (c,d)).1.1 hs hlie.small.g l (by omega)
     have e9:=ev40 d (qap (c,d)).1.2 hW.b hlie.small.b l (by omega)
     have r1:zln c (qap (c,d)).1.1 l=qjg c l 0 ⟨(qap (c,d)).1.1,[],[]⟩:=by
      unfold zln
      rw[if_pos hlie.g.quE,if_neg (by omega)]
     have r2:zln d (qap (c,d)).1.2 l=qjg d l 0 ⟨(qap (c,d)).1.2,[],[]⟩:=by
      unfold zln
      rw[if_pos hlie.b.quE,if_neg (by omega)]
     rw[r1]at e8
     rw[r2]at e9
     rw[s3]at e5 e8 e9 rb
     unfold zwq at e6 e7
     rw[s1]at e6
     rw[s2]at e7
     clear r1 r2 sg hsg hmem hlie h4 h3 s3 h0 h1 h2 hdg htch
     simp only at e5 e8 e9 rb
     generalize qfh (c,d) l ((qcy c).1,(qcy d).1) 0=z at *
     generalize qjg c l 0 ⟨(qcy c).1,[],[]⟩=a at *
     generalize qjg d l 0 ⟨(qcy d).1,[],[]⟩=b at *
     generalize qcy c=sc at *
     generalize qcy d=sd at *
     obtain⟨z1,z2,z3⟩:=z
     obtain⟨A,a2,a3⟩:=a
     obtain⟨B,b2,b3⟩:=b
     simp only at rb e5 e8 e9
     obtain⟨rb1,rb2⟩:=rb
     subst rb1
     simp[Crs.v]at e8 e9
     have w0:IntKind.i64.wrap 0=0:=by decide
     have wl:((0+l.length:Nat):Int)=l.length:=by omega
     by_cases hz:z3=0
     .subst hz
      obtain⟨q1,q2,q3,q4,q5⟩:=rb2 rfl
      simp only[Prod.mk.injEq]at q1
      obtain⟨rfl,rfl,-⟩:=q1
      subst q2
      have e10:=ev41 A.strokes (by rw[q5];simp;omega) (q4 (by simp))
      rw[<-q3]at e9
      rw[wl]at e5
      simp[ir10,e1,e2,e3,e4,e5,e6,e7,e8,e9,e10,e12,hl,hl',w0]
     .have hzb:(z3 != 0)=true:=bne_iff_ne.2 hz
      simp[ir10,e1,e2,e3,e4,e5,e6,e7,e8,e9,e12,hl,hl',hz,hzb,w0]
    .rw[h3]at e2 hdg
     simp[zli]at e2
     have ht:¬(tc.length:Int)=0:=fun h=>by have:=hdg (htz h);simp at this
     have htb:((tc.length:Int)==0)=false:=by simpa using ht
     simp[ir10,e1,e2,e3,e12,hl,hl',ht,htb]
  .simp only[hi,decide_false,Bool.and_false]at e1
   simp[ir10,e1,e12]
end Go.Proofs.YtbepbclaoohngaaGreat
namespace Go.Proofs.YtbepbclaoohngaaGreat.detectHarmlessDone
open Go Go.Am Go.Proofs Go.Proofs.YtbepbclaoohngaaGreat
open Go.ChangeShapes Go.WideShapes Go.ChangeAt Go.RowKit
set_option linter.unusedVariables false
theorem own:ownKnob Tryz.prog.godebug=none:=by kernel_rfl
theorem laidOut:laidOutB Tryz.prog=true:=by kernel_rfl
set_option maxRecDepth 100000 in
theorem lifted(os:Os)(started:os.Started)(H:Type)(enc:TypeId×Value->H) :
  ReturnsInHanded {} Tryz.checked os 10 .any (Rows.detectHarmlessSpec.pre6 enc Tryz.prog Tryz.f10 Rows.detectHarmlessRow.domain false) (Rows.detectHarmlessSpec.post enc Tryz.prog Tryz.f10 false true false false):=by
 refine returnsInHanded_of_change (C:=Tryz.checked) own started (by kernel_rfl) Tryz.func10
  (ChangeSpec.witness6 (enc:=enc) (C:=Tryz.checked) false ⟨#[],#[.agg #[.int .i64 0,.slice none 0 0,.slice none 0 0,.slice none 0 0,.slice none 0 0],.agg #[.int .i64 0,.int .i64 0],.slice none 0 0],[]⟩ 8 (by kernel_rfl) (by kernel_rfl) (by kernel_rfl) (by kernel_rfl)) ?_
 intro W base args ds gs before hval0 hW hcnd _
 have hval:∀(j:Nat) t v,Tryz.f10.params[j]?=some t->args[j]?=some v->Value.okWide Tryz.prog W .any base t v:=hval0
 have hW':=hW
 obtain⟨p,q,hA0,hV,rfl,hfz,hnd⟩:=hW
 have hA:DataW.TrodAll enc Tryz.prog W 0 (fun _=>true) true Tryz.f10.params.toList args.toList ds p:=hA0
 rw[Tryz.params10]at hA hval
 obtain⟨v0,vs0,d0,ds0,p0,q0,hargs,rfl,rfl,h0,r0⟩:=trodAll_cons hA
 obtain⟨v1,vs1,d1,ds1,p1,q1,rfl,rfl,rfl,h1,r1⟩:=trodAll_cons r0
 obtain⟨v2,vs2,d2,ds2,p2,q2,rfl,rfl,rfl,h2,r2⟩:=trodAll_cons r1
 obtain⟨rfl,rfl,rfl⟩:=trodAll_nil r2
 obtain rfl:args=#[v0,v1,v2]:=by cases args;simp_all
 obtain⟨rfl,rfl⟩:=trodVars_none hV
 have k0:=h0
 have k1:=h1
 have k2:=h2
 have lt0:∀x∈p0,x.block<W.heap.size:=by obtain⟨m,hm⟩:=k0;exact DataW.trod_lt m _ _ _ hm
 have lt1:∀x∈p1,x.block<W.heap.size:=by obtain⟨m,hm⟩:=k1;exact DataW.trod_lt m _ _ _ hm
 have lt2:∀x∈p2,x.block<W.heap.size:=by obtain⟨m,hm⟩:=k2;exact DataW.trod_lt m _ _ _ hm
 obtain⟨n0,x0,a0,b0⟩:=qmg qub (by decide:26∈_) (hval 0 26 v0 rfl rfl) h0
 obtain⟨n1,x1,a1,b1⟩:=qmg qub (by decide:28∈_) (hval 1 28 v1 rfl rfl) h1
 obtain⟨n2,x2,a2,b2⟩:=qmg qub (by decide:31∈_) (hval 2 31 v2 rfl rfl) h2
 obtain⟨y0,rfl⟩:∃c:Ct,x0=c.v:=by
  rcases b0 with⟨vs,rfl,ht⟩ | ⟨ha,_⟩
  .obtain⟨c,rfl⟩:=q3o ht
   exact⟨c,rfl⟩
  .rw[zsy]at ha
   cases ha
 obtain⟨y1,y1i,rfl⟩:∃k i:Int,x1=fv k i:=by
  rcases b1 with⟨vs,rfl,ht⟩ | ⟨ha,_⟩
  .obtain⟨k,i,rfl⟩:=q3q ht
   exact⟨k,i,rfl⟩
  .rw[zsz]at ha
   cases ha
 obtain⟨y2,rfl⟩:∃l:List Evn,x2=evs l:=by
  rcases b2 with⟨vs,rfl,ht⟩ | ⟨_,ht⟩
  .unfold rel at a2
   obtain⟨us,rfl,_⟩:=a2
   obtain⟨a,l,c,hh⟩:=okWide_slice Tryz.underlying31 (hval 2 31 _ rfl rfl)
   cases hh
  .obtain⟨l,hl⟩:=zla ht
   cases hl
   exact⟨l,rfl⟩
 clear hA0 hval0
 have hr:=ev10 y0 y1 y1i y2
 refine(zii (us:=#[v0,v1,v2]) made (by unfold qai;exact⟨_,_,rfl,a0,by unfold qai;exact⟨_,_,rfl,a1,by unfold qai;exact⟨_,_,rfl,a2,by unfold qai;rfl⟩⟩⟩) hr rfl).mono fun e W' ⟨he,old⟩=>?_
 subst he
 exact⟨_,rfl,_,_,_,[],_,[],hW',trodAll_mk1 (shut_bool Tryz.underlying4 _),(trodAll_cons_mk (Old.trod laidOut (by kernel_rfl) (of_decide_eq_true (by kernel_rfl)) k0 old lt0) (trodAll_cons_mk (Old.trod laidOut (by kernel_rfl) (of_decide_eq_true (by kernel_rfl)) k1 old lt1) (trodAll_cons_mk (Old.trod laidOut (by kernel_rfl) (of_decide_eq_true (by kernel_rfl)) k2 old lt2) trodAll_mk0))),rfl,old.frame _,fun h=>by cases h⟩
end Go.Proofs.YtbepbclaoohngaaGreat.detectHarmlessDone
