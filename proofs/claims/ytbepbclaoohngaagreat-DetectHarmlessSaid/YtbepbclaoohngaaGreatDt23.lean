/- The program's Verify: listed; one event. -/
import Derived.Test.YtbepbclaoohngaaGreatDt19
import Derived.KernelRfl
import Derived.Test.YtbepbclaoohngaaGreatDt15
set_option linter.all false
namespace Go.Proofs.YtbepbclaoohngaaGreat
open Go Go.Am Go.Proofs
set_option maxRecDepth 100000
theorem ztx{w:Ct×Ct}{p:Ste×Ste}(h:LieP w p){x:Evn}(hx:x∈qkm w p):¬(x.kind<0\/2<x.kind)/\qow p.1 x=true:=by
 rw[zag h]at hx
 rcases jQ.1 hx with hx | hx
 .rcases zbs.1 hx with⟨i,hi,hb,rfl⟩ | ⟨i,hi,hb,rfl⟩
  .refine⟨by simp,?_⟩
   unfold qow
   rw[if_neg (by simp),if_neg (by simp)]
   simpa using hb
  .refine⟨by simp,?_⟩
   unfold qow
   rw[if_neg (by simp),if_neg (by simp)]
   simpa using hb
 .unfold zew at hx
  obtain⟨i,hi,rfl⟩:=List.mem_iff_getElem.1 hx
  have hi':i<p.1.inputs.length:=by simpa using hi
  refine⟨by simp,?_⟩
  unfold qow
  simp[hi']
theorem ztw{w:Ct×Ct}{p:Ste×Ste}(h:LieP w p){x:Evn}(hx:x∈qkm w p):(qfg w p x).2.2=0\/(qfg w p x).2.2=21:=by
 obtain⟨h1,h2⟩:=ztx h hx
 rw[qqb h]
 unfold qbk
 rw[if_neg h1,if_pos h2]
 unfold qjf
 split
 .exact .inl rfl
 .exact .inr rfl
def okE(w:Ct×Ct)(D:List (Ste×Ste))(p:Ste×Ste)(x:Evn):Prop:=(qfg w p x).2.2=0/\(qfg w p x).2.1=true/\(qfg w p x).1∈D
structure Fnds(w:Ct×Ct)(most:Int)(p0:Ste×Ste)(k:Nat)(s:Sr):Prop extends SrOk w most s where
 dif:∀p∈s.D,difP w p=false
 st:s.D[0]?=some p0
 done:∀(j:Nat) (p:Ste×Ste),j<k->s.D[j]?=some p->∀x∈qkm w p,okE w s.D p x
 path:∀(j:Nat) (p:Ste×Ste) (l0:List Evn),s.D[j]?=some p->s.N[j]?=some l0->∀l,qfh w (l0++l) p0 0=qfh w l p l0.length
 nodup:s.D.Nodup
 org:∀(j:Nat) (q:Ste×Ste),s.D[j]?=some q->j≠0->∃(i:Nat) (p:Ste×Ste) (x:Evn),i≠j/\s.D[i]?=some p/\x∈qkm w p/\qfg w p x=(q,true,0)
def zlp(w:Ct×Ct)(p0:Ste×Ste)(z:q7j):Prop:=(z.2.2≠0->z.2.2=21\/z.2.2=12)/\(z.2.2=0->z.2.1=true/\∃l x p,z.1=l++[x]/\(∀l',qfh w (l++l') p0 0=qfh w l' p l.length)/\(qfg w p x).2.2=0/\(!(qfg w p x).2.1||difP w (qfg w p x).1)=true)
theorem z3g{w:Ct×Ct}(hw:WS w){most:Int}{p0:Ste×Ste}{k:Nat}{s:Sr}(h:Fnds w most p0 k s){p:Ste×Ste}(hp:s.D[k]?=some p){x:Evn}(hx:x∈qkm w p) :
  ((qhg w most k s x).2=none->Fnds w most p0 k (qhg w most k s x).1/\(qhg w most k s x).1.D[k]?=some p/\okE w (qhg w most k s x).1.D p x/\∀q∈s.D,q∈(qhg w most k s x).1.D) /\
  (∀z,(qhg w most k s x).2=some z->zlp w p0 z):=by
 obtain⟨hk,hpk⟩:=jG.1 hp
 have hkN:k<s.N.length:=by rw[h.len];exact hk
 have hN:s.N[k]?=some s.N[k]:=jA hkN
 have hlie:LieP w p:=h.lie p (jR hp)
 have hok:=q3h hw h.toSrOk hk x
 have hpath:=h.path k p _ hp hN
 have hpre:=qvk w most k s x hk
 have herr:=ztw hlie hx
 have hlieq:=q9p hw (p:=p) (x:=x)
 unfold qhg at hok hpre ⊢
 rw[hp,hN]at hok hpre ⊢
 simp only[Option.getD_some]at hok hpre ⊢
 by_cases he:(qfg w p x).2.2=0
 .rw[if_pos he]at hok hpre ⊢
  by_cases hd:(!(qfg w p x).2.1||difP w (qfg w p x).1)=true
  .rw[if_pos hd]
   refine⟨fun h=>by simp at h,fun z hz=>?_⟩
   simp only[jC]at hz
   rw[<-hz]
   exact⟨fun h=>absurd rfl h,fun _=>⟨rfl,s.N[k],x,p,rfl,hpath,he,hd⟩⟩
  .rw[if_neg hd]at hok hpre ⊢
   have hd':(qfg w p x).2.1=true/\difP w (qfg w p x).1=false:=by simpa using hd
   by_cases hh:qzu s.D (qfg w p x).1=true
   .rw[if_pos hh]
    refine⟨fun _=>⟨h,hp,⟨he,hd'.1,qnu.1 hh⟩,fun q hq=>hq⟩,fun z hz=>by simp at hz⟩
   .rw[if_neg hh]at hok hpre ⊢
    by_cases hM:(s.D.length:Int)=most
    .rw[if_pos hM]
     refine⟨fun h=>by simp at h,fun z hz=>?_⟩
     simp only[jC]at hz
     rw[<-hz]
     exact⟨fun _=>.inr rfl,fun h=>by simp at h⟩
    .rw[if_neg hM]at hok hpre ⊢
     simp only at hok hpre ⊢
     refine⟨fun _=>⟨?_,hpre,⟨he,hd'.1,by simp⟩,fun q hq=>List.mem_append_left _ hq⟩,fun z hz=>by simp at hz⟩
     refine { toSrOk:=hok,dif:=?_,st:=?_,done:=?_,path:=?_,nodup:=?_,org:=?_ }
     .intro q hq
      rcases jQ.1 hq with hq | hq
      .exact h.dif q hq
      .rw[List.mem_singleton.1 hq];exact hd'.2
     .rw[jI (by omega)];exact h.st
     .intro j q hj hq y hy
      rw[jI (by omega)]at hq
      obtain⟨a,b,c⟩:=h.done j q hj hq y hy
      exact⟨a,b,List.mem_append_left _ c⟩
     .intro j q l0 hq hl l
      by_cases hj:j<s.D.length
      .rw[jI hj]at hq
       rw[jI (by have:=h.len;omega)]at hl
       exact h.path j q l0 hq hl l
      .have hlt:=(jG.1 hq).1
       simp only[jF,List.length_cons,List.length_nil]at hlt
       have hjE:j=s.D.length:=by omega
       subst hjE
       rw[jJ (by omega)]at hq
       rw[jJ (by have:=h.len;omega)]at hl
       have h0:s.D.length-s.N.length=0:=by have:=h.len;omega
       rw[Nat.sub_self]at hq
       rw[h0]at hl
       simp only[List.getElem?_cons_zero,jC]at hq hl
       rw[<-hq,<-hl,List.append_assoc,hpath]
       simp only[List.cons_append,List.nil_append,qfh]
       rw[if_pos he,if_neg hd]
       simp
     .rw[List.nodup_append]
      refine⟨h.nodup,by simp,fun a ha b hb e=>?_⟩
      rw[List.mem_singleton.1 hb]at e
      rw[e]at ha
      exact hh (qnu.2 ha)
     .intro j q hq hj
      by_cases hjl:j<s.D.length
      .rw[jI hjl]at hq
       obtain⟨i,p',y,h1,h2,h3,h4⟩:=h.org j q hq hj
       refine⟨i,p',y,h1,?_,h3,h4⟩
       rw[jI (jG.1 h2).1]
       exact h2
      .have hlt:=(jG.1 hq).1
       simp only[jF,List.length_cons,List.length_nil]at hlt
       have hjE:j=s.D.length:=by omega
       subst hjE
       rw[jJ (by omega),Nat.sub_self]at hq
       simp only[List.getElem?_cons_zero,jC]at hq
       refine⟨k,p,x,by omega,hpre,hx,?_⟩
       rw[<-hq,<-hd'.1,<-he]
 .rw[if_neg he]
  refine⟨fun h=>by simp at h,fun z hz=>?_⟩
  simp only[jC]at hz
  rw[<-hz]
  refine⟨fun _=>.inl (herr.resolve_left he),fun h=>absurd h he⟩
theorem zhp{w:Ct×Ct}(hw:WS w){most:Int}{p0:Ste×Ste}{k:Nat}{p:Ste×Ste}:∀(E:List Evn) (s:Sr),Fnds w most p0 k s->s.D[k]?=some p->(∀x∈E,x∈qkm w p) ->
  ((qck (qhg w most k) s E).2=none->Fnds w most p0 k (qck (qhg w most k) s E).1/\(qck (qhg w most k) s E).1.D[k]?=some p/\(∀x∈E,okE w (qck (qhg w most k) s E).1.D p x)/\∀q∈s.D,q∈(qck (qhg w most k) s E).1.D) /\
  (∀z,(qck (qhg w most k) s E).2=some z->zlp w p0 z)
 | [],s,h,hp,hE=>⟨fun _=>⟨h,hp,fun x hx=>(by cases hx),fun q hq=>hq⟩,fun z hz=>by cases hz⟩
 | x :: E,s,h,hp,hE=>by
  obtain⟨h1,h2⟩:=z3g hw h hp (hE x List.mem_cons_self)
  simp only[qck]
  cases hy:qhg w most k s x with
  | mk s' o =>
   rw[hy]at h1 h2
   cases o with
   | none =>
    obtain⟨a,b,c,d⟩:=h1 rfl
    obtain⟨i1,i2⟩:=zhp hw E s' a b (fun y hy=>hE y (List.mem_cons_of_mem _ hy))
    refine⟨fun hn=>?_,i2⟩
    obtain⟨a',b',c',d'⟩:=i1 hn
    refine⟨a',b',fun y hy=>?_,fun q hq=>d' q (d q hq)⟩
    rcases List.mem_cons.1 hy with rfl | hy
    .exact⟨c.1,c.2.1,d' _ c.2.2⟩
    .exact c' y hy
   | some z=>exact⟨fun h=>by simp at h,h2⟩
theorem z3f{w:Ct×Ct}(hw:WS w){most:Int}{p0:Ste×Ste}:∀(d k:Nat) (s:Sr),Fnds w most p0 k s->k<=s.D.length->most<(k:Int)+d ->
  ((sGo w most d k s).2=none->Fnds w most p0 (sGo w most d k s).1.D.length (sGo w most d k s).1)/\(∀z,(sGo w most d k s).2=some z->zlp w p0 z)
 | 0,k,s,h,hk,hd=>by
  have:=h.most
  omega
 | d+1,k,s,h,hk,hd=>by
  simp only[sGo]
  split
  .rename_i hkl
   have hp:s.D[k]?=some s.D[k]:=jA hkl
   obtain⟨h1,h2⟩:=zhp hw (qkm w s.D[k]) s h hp (fun _ h=>h)
   have hl:=qqo w most k (qkm w s.D[k]) s
   have hR:qde w most k s=qck (qhg w most k) s (qkm w s.D[k]):=by unfold qde;rw[hp];rfl
   rw[<-hR]at h1 h2 hl
   generalize qde w most k s=z at *
   obtain⟨s',z⟩:=z
   cases z with
   | none =>
    obtain⟨a,b,c,-⟩:=h1 rfl
    refine z3f hw d (k+1) s' ?_ (by simp only at hl;omega) (by omega)
    refine { toSrOk:=a.toSrOk,dif:=a.dif,st:=a.st,done:=?_,path:=a.path,nodup:=a.nodup,org:=a.org }
    intro j q hj hq x hx
    by_cases hjk:j<k
    .exact a.done j q hjk hq x hx
    .have:j=k:=by omega
     subst this
     simp only at b hq
     rw[b]at hq
     cases hq
     exact c x hx
   | some y=>exact⟨fun h=>by simp at h,fun z hz=>by simp only[jC]at hz;rw[<-hz];exact h2 y rfl⟩
  .rename_i hkl
   refine⟨fun _=>?_,fun z hz=>by simp at hz⟩
   have:k=s.D.length:=by omega
   rw[<-this]
   exact h
theorem q3j{w:Ct×Ct}(hW:Wld w){most:Int}(h1:1<=most) :
  ((qdt w most).2≠0/\((qdt w most).2=21\/(qdt w most).2=12)) \/
  ((qap w).2.2=0/\(qdt w most)=(([],[],[],true),0)/\(!(qap w).2.1||difP w (qap w).1)=true) \/
  ((qap w).2.2=0/\(qap w).2.1=true/\difP w (qap w).1=false/\LieP w (qap w).1/\((∃s,qdt w most=((s.D,s.N,[],false),0)/\Fnds w most (qap w).1 s.D.length s)\/∃run,qdt w most=(([],[],run,true),0)/\zlp w (qap w).1 (run,true,0))):=by
 have hlie:=qtk hW.toWS
 unfold qdt
 by_cases he:(qap w).2.2=0
 .rw[if_pos he]
  by_cases hd:(!(qap w).2.1||difP w (qap w).1)=true
  .rw[if_pos hd]
   exact .inr (.inl ⟨he,rfl,hd⟩)
  .rw[if_neg hd]
   have hd':(qap w).2.1=true/\difP w (qap w).1=false:=by simpa using hd
   have hl:=hlie he hd'.1
   have h0:Fnds w most (qap w).1 0 ⟨[(qap w).1],[[]]⟩:=by
    refine { toSrOk:=zcc h1 hl,dif:=?_,st:=rfl,done:=fun j p hj=>by omega,path:=?_,nodup:=by simp,org:=?_ }
    .intro p hp
     rw[List.mem_singleton.1 hp];exact hd'.2
    .intro j p l0 hp hl0 l
     have hj:=(jG.1 hp).1
     simp only[List.length_cons,List.length_nil]at hj
     have:j=0:=by omega
     subst this
     simp only[List.getElem?_cons_zero,jC]at hp hl0
     rw[<-hp,<-hl0]
     rfl
    .intro j q hq hj
     have hj':=(jG.1 hq).1
     simp only[List.length_cons,List.length_nil]at hj'
     omega
   obtain⟨a,b⟩:=z3f hW.toWS (most.toNat+1) 0 _ h0 (by simp) (by omega)
   generalize sGo w most (most.toNat+1) 0 ⟨[(qap w).1],[[]]⟩=z at *
   obtain⟨s,z⟩:=z
   cases z with
   | none=>exact .inr (.inr ⟨he,hd'.1,hd'.2,hl,.inl ⟨s,rfl,a rfl⟩⟩)
   | some z =>
    have hb:=b z rfl
    obtain⟨run,en,e⟩:=z
    by_cases hz:e=0
    .subst hz
     obtain⟨h2,-⟩:=hb.2 rfl
     simp only at h2
     subst h2
     exact .inr (.inr ⟨he,hd'.1,hd'.2,hl,.inr ⟨run,rfl,hb⟩⟩)
    .exact .inl ⟨hz,hb.1 hz⟩
 .rw[if_neg he]
  refine .inl ⟨he,.inl ?_⟩
  show(qap w).2.2=21
  unfold qap at he ⊢
  split at he
  .exact absurd rfl he
  .rename_i h2
   rw[if_neg h2]
   unfold qcy at h2 ⊢
   rw[if_pos hW.cg]at h2 ⊢
   unfold qjf at h2 ⊢
   split
   .rename_i y hy;rw[hy]at h2;exact absurd rfl h2
   .rfl
def zfp(w:Ct×Ct)(L:List (Ste×Ste))(p:Ste×Ste):Bool:=!difP w p&&(qkm w p).all fun x=>(qfg w p x).2.1&&qzu L (qfg w p x).1
theorem zch(w:Ct×Ct)(L:List (Ste×Ste))(p:Ste×Ste):∀(E:List Evn) (b:Bool),(∀x∈E,(qfg w p x).2.2=0)->qck (q7f w L p) b E=(b&&E.all fun x=>(qfg w p x).2.1&&qzu L (qfg w p x).1,none)
 | [],b,_=>by simp[qck]
 | x :: E,b,h=>by
  have ih:=zch w L p E (b&&((qfg w p x).2.1&&qzu L (qfg w p x).1)) (fun y hy=>h y (List.mem_cons_of_mem _ hy))
  simp only[qck,q7f]
  rw[if_pos (h x List.mem_cons_self)]
  simp only[ih,List.all_cons,Bool.and_assoc]
theorem q7g(w:Ct×Ct)(L:List (Ste×Ste)):∀(l:List (Ste×Ste)) (b:Bool),(∀p∈l,∀x∈qkm w p,(qfg w p x).2.2=0)->qck (q3r w L) b l=(b&&l.all (zfp w L),none)
 | [],b,_=>by simp[qck]
 | p :: l,b,h=>by
  have ih:=q7g w L l (b&&zfp w L p) (fun q hq=>h q (List.mem_cons_of_mem _ hq))
  have h1:q3r w L b p=(b&&zfp w L p,none):=by
   unfold q3r zfp
   rw[zch w L p _ _ (h p List.mem_cons_self),Bool.and_assoc]
  simp only[qck,h1,ih,List.all_cons,Bool.and_assoc]
theorem q0b{w:Ct×Ct}:∀{l:List (Ste×Ste)},(∀p∈l,LieP w p)->qyz w l=0
 | [],_=>rfl
 | p :: l,h=>by
  have hp:=h p List.mem_cons_self
  simp only[qyz,hp.g.events,hp.b.events]
  simpa using q0b (fun q hq=>h q (List.mem_cons_of_mem _ hq))
theorem q9i{w:Ct×Ct}{l:List (Ste×Ste)}(hn:l≠[])(hl:l.length<=16384)(hL:∀p∈l,LieP w p)(h0:(qap w).2.2=0)(he:∀p∈l,∀x∈qkm w p,(qfg w p x).2.2=0) :
  zfh w l=zse ((qap w).2.1&&qzu l (qap w).1&&l.all (zfp w l)):=by
 unfold zfh zpp
 rw[if_neg hn,if_neg (by omega),if_pos (q0b hL),if_pos h0,q7g w l l _ he]
 rfl
theorem Fnds.errs{w:Ct×Ct}{most:Int}{p0:Ste×Ste}{s:Sr}(h:Fnds w most p0 s.D.length s){p:Ste×Ste}(hp:p∈s.D){x:Evn}(hx:x∈qkm w p):okE w s.D p x:=by
 obtain⟨j,hj,rfl⟩:=List.mem_iff_getElem.1 hp
 exact h.done j _ hj (jA hj) x hx
theorem Fnds.ne{w:Ct×Ct}{most:Int}{p0:Ste×Ste}{k:Nat}{s:Sr}(h:Fnds w most p0 k s):s.D≠[]:=by
 intro e
 have:=h.st
 rw[e]at this
 simp at this
theorem q7h{w:Ct×Ct}{most:Int}(hm:most<=16384)(h0:(qap w).2.2=0)(h1:(qap w).2.1=true){s:Sr}(h:Fnds w most (qap w).1 s.D.length s):zfh w s.D=0:=by
 have hmost:=h.most
 rw[q9i h.ne (by omega) h.lie h0 (fun p hp x hx=>(h.errs hp hx).1),h1,qnu.2 (jR h.st)]
 have:s.D.all (zfp w s.D)=true:=by
  rw[jP]
  intro p hp
  unfold zfp
  rw[h.dif p hp]
  simp only[Bool.not_false,Bool.true_and,jP,jE]
  intro x hx
  obtain⟨-,b,c⟩:=h.errs hp hx
  exact⟨b,qnu.2 c⟩
 rw[this]
 rfl
theorem zom{α:Type}{D:List α}{k j:Nat}{q:α}(hj:D[j]?=some q)(h:j≠k):q∈D.take k++D.drop (k+1):=by
 rw[jQ]
 by_cases hjk:j<k
 .left
  exact jR (i:=j) (by rw[List.getElem?_take_of_lt hjk];exact hj)
 .right
  exact jR (i:=j-(k+1)) (by rw[List.getElem?_drop];rw[<-hj];congr 1;omega)
theorem zbm{α:Type}{D:List α}(hn:D.Nodup){k:Nat}{q:α}(hk:D[k]?=some q):q∉D.take k++D.drop (k+1):=by
 obtain⟨hlt,rfl⟩:=jG.1 hk
 have e:D=D.take k++D[k] :: D.drop (k+1):=by
  rw[List.getElem_cons_drop hlt,List.take_append_drop]
 rw[e]at hn
 rw[List.nodup_append]at hn
 obtain⟨-,h2,h3⟩:=hn
 intro hm
 rcases jQ.1 hm with hm | hm
 .exact h3 _ hm _ List.mem_cons_self rfl
 .exact(List.nodup_cons.1 h2).1 hm
theorem q8o{α:Type}{D:List α}{k:Nat}{q:α}(h:q∈D.take k++D.drop (k+1)):q∈D:=by
 rcases jQ.1 h with h | h
 .exact List.mem_of_mem_take h
 .exact List.mem_of_mem_drop h
theorem zpr{w:Ct×Ct}{most:Int}(hm:most<=16384)(h0:(qap w).2.2=0){s:Sr}(h:Fnds w most (qap w).1 s.D.length s){k:Nat}(hk:k<s.D.length):zfh w (s.D.take k++s.D.drop (k+1))=if s.D.take k++s.D.drop (k+1)=[]then 13 else 15:=by
 have hmost:=h.most
 by_cases hn:s.D.take k++s.D.drop (k+1)=[]
 .rw[if_pos hn]
  unfold zfh
  rw[if_pos hn]
 .rw[if_neg hn]
  have hlen:(s.D.take k++s.D.drop (k+1)).length<=16384:=by
   simp only[jF,List.length_take,List.length_drop]
   omega
  rw[q9i hn hlen (fun p hp=>h.lie p (q8o hp)) h0 (fun p hp x hx=>(h.errs (q8o hp) hx).1)]
  have hD:s.D[k]?=some s.D[k]:=jA hk
  by_cases hk0:k=0
  .subst hk0
   have e:s.D[0]=(qap w).1:=by
    have:=h.st
    rw[hD]at this
    exact Option.some.inj this
   have:qzu (s.D.take 0++s.D.drop (0+1)) (qap w).1=false:=by
    rw[Bool.eq_false_iff]
    intro hc
    rw[qnu,<-e]at hc
    exact zbm h.nodup hD hc
   rw[this]
   simp[zse]
  .obtain⟨i,p,x,hi,hp,hx,hb⟩:=h.org k _ hD hk0
   have hpl:=zom hp hi
   have:(s.D.take k++s.D.drop (k+1)).all (zfp w (s.D.take k++s.D.drop (k+1)))=false:=by
    rw[Bool.eq_false_iff]
    intro hc
    rw[jP]at hc
    have hc:=hc p hpl
    unfold zfp at hc
    simp only[jE,jP]at hc
    have h2:=(hc.2 x hx).2
    rw[hb,qnu]at h2
    exact zbm h.nodup hD h2
   rw[this]
   simp[zse]
theorem zps{w:Ct×Ct}{most:Int}(hm:most<16384)(h0:(qap w).2.2=0){s:Sr}(h:Fnds w most (qap w).1 s.D.length s){p q:Ste×Ste}(hp:p∈s.D)(hq:q∈s.D)(hd:difP w (p.1,q.2)=true):zfh w (s.D++[(p.1,q.2)])=15:=by
 have hmost:=h.most
 have hl:LieP w (p.1,q.2):=⟨(h.lie p hp).g,(h.lie q hq).b⟩
 have hE:qkm w (p.1,q.2)=qkm w p:=rfl
 have hb:∀x,(qfg w (p.1,q.2) x).2.2=(qfg w p x).2.2:=by
  intro x
  rw[qqb hl,qqb (h.lie p hp)]
 rw[q9i (by simp) (by simp;omega) ?_ h0 ?_]
 .have:(s.D++[(p.1,q.2)]).all (zfp w (s.D++[(p.1,q.2)]))=false:=by
   rw[Bool.eq_false_iff]
   intro hc
   rw[jP]at hc
   have hc:=hc (p.1,q.2) (by simp)
   unfold zfp at hc
   rw[hd]at hc
   simp at hc
  rw[this]
  simp[zse]
 .intro r hr
  rcases jQ.1 hr with hr | hr
  .exact h.lie r hr
  .rw[List.mem_singleton.1 hr];exact hl
 .intro r hr x hx
  rcases jQ.1 hr with hr | hr
  .exact(h.errs hr hx).1
  .rw[List.mem_singleton.1 hr]at hx ⊢
   rw[hE]at hx
   rw[hb]
   exact(h.errs hp hx).1
theorem zet{c:Ct}{k i:Int}(hi:qhs c k i=0)(h0:(qap (c,qio c k i)).2.2=0)(hd:(!(qap (c,qio c k i)).2.1||difP (c,qio c k i) (qap (c,qio c k i)).1)=true):q6r c k i []=(0,true,0):=by
 unfold q6r
 rw[if_pos hi,if_pos h0,if_neg (by simp),if_pos hd]
theorem zkp{c:Ct}{k i:Int}(hi:qhs c k i=0)(h0:(qap (c,qio c k i)).2.2=0)(h1:(qap (c,qio c k i)).2.1=true)(h2:difP (c,qio c k i) (qap (c,qio c k i)).1=false){l:List Evn}(hl:l.length<=4096):q6r c k i l=qfh (c,qio c k i) l (qap (c,qio c k i)).1 0:=by
 unfold q6r
 rw[if_pos hi,if_pos h0,if_neg (by omega),if_neg (by simp[h1,h2])]
set_option maxHeartbeats 8000000
def zfa(l:List (Ste×Ste))(j:Nat):Tm:=[none,none,bN 0]++zN 14++[some (prs l),nN l.length,nN j]++zN 26
def zsi(e:Int)(r:R):Prop:=∃S H,r={ x:=.ret,st:=⟨S,H⟩ }/\qag S 4=num e
@[simp] theorem zzn{e:Int}{x:X}{st:St}:zsi e { x:=x,v:=.undef,st:=st }<->x=.ret/\qag st.s 4=num e:=by
 constructor
 .rintro⟨S,H,h,h2⟩
  cases h
  exact⟨rfl,h2⟩
 .rintro⟨rfl,h⟩
  exact⟨st.s,st.h,rfl,h⟩
theorem jdj(w:Ct×Ct)(hW:WS w)(l:List (Ste×Ste))(hl:l.length<=100000)(hS:∀q∈l,PS q){st:St}(h0:At (zfa l 0) [⟨0,.box (qfy w)⟩] st) :
  ∃r,ev pg (.code (.going 1 L74_0) st)=some r/\((qck (zyb w) () l).2=none->qbn (.exit 0) (zfa l l.length) [⟨0,.box (qfy w)⟩] r)/\(∀e,(qck (zyb w) () l).2=some e->zsi e r):=by
 refine q5o (zyb w) (fun j _ st=>At (zfa l j) [⟨0,.box (qfy w)⟩] st) zsi (fun _ r=>qbn (.exit 0) (zfa l l.length) [⟨0,.box (qfy w)⟩] r) l ?_ ?_ () h0
 .rintro j b st p hx h
  obtain⟨f,hf,rfl⟩:=h.eq
  obtain⟨hj,hxj⟩:=jG.1 hx
  have hj':(j:Int)<l.length:=by omega
  have wj:=qbs (k:=j) (by omega)
  have hp:=hS p (jR hx)
  have e1:=ev132 w.1 p.1 hW.g hp.g
  have e2:=ev132 w.2 p.2 hW.b hp.b
  unfold zyb
  generalize qec w.1 p.1=x at *
  generalize qec w.2 p.2=y at *
  refine(?_:∃r,ev pg (.code L74_0 ⟨fill f 0 (zfa l j),[⟨0,.box (qfy w)⟩]⟩)=some r/\_/\_)
  by_cases h1:x.2=0
  .by_cases h2:y.2=0
   .simp[zfa,L74_0,hj,hxj,hj',e1,e2,h1,h2,wj,hf.ne]
   .have hb2:(y.2==0)=false:=by simpa using h2
    simp[zfa,L74_0,hj,hxj,hj',e1,e2,h1,h2,hb2,wj,hf.ne]
  .have hb1:(x.2==0)=false:=by simpa using h1
   simp[zfa,L74_0,hj,hxj,hj',e1,h1,hb1,wj,hf.ne]
 .rintro b st h
  obtain⟨f,hf,rfl⟩:=h.eq
  refine(?_:∃r,ev pg (.code L74_0 ⟨fill f 0 (zfa l l.length),[⟨0,.box (qfy w)⟩]⟩)=some r/\_/\_)
  simp[zfa,L74_0,hf.ne]
def zyc(w:Ct×Ct)(l:List (Ste×Ste)):Int:=if l=[]then 13 else if 16384<l.length then 5 else qyz w l
theorem ev74(w:Ct×Ct)(hW:WS w)(l:List (Ste×Ste))(hl:l.length<=100000)(hS:∀q∈l,PS q):ev pg (.call (.fn 74 [] []) [.agg (qfy w),prs l] [])=some { v:=num (zyc w l),st:=⟨[],[]⟩ }:=by
 have q1:=fun st=>jdj w hW l hl hS (st:=st)
 have hlo:=q5l w l
 rw[qab,pg74]
 unfold zyc
 by_cases hn:l=[]
 .subst hn
  simp[ir74]
 .have hn':¬(l.length:Int)=0:=by
   have:l.length≠0:=fun h=>hn (List.length_eq_zero_iff.1 h)
   omega
  have hnb:((l.length:Int)==0)=false:=by simpa using hn'
  rw[if_neg hn]
  by_cases hg:16384<l.length
  .have hg':(16384:Int)<l.length:=by omega
   rw[if_pos hg]
   simp[ir74,hn,hn',hnb,hg']
  .have hg':¬(16384:Int)<l.length:=by omega
   rw[if_neg hg]
   simp[ir74,qam,hn,hn',hnb,hg']
   generalize hr:ev pg (.code (.going _ L74_0) _)=o
   obtain⟨r,rfl,h1,h2⟩:∃r,o=some r/\_:=by rw[<-hr];exact q1 _ (by simp[zfa])
   clear hr q1
   by_cases hL:qyz w l=0
   .rw[if_pos hL]at hlo
    obtain⟨f,hf,rfl⟩:=h1 hlo
    rw[hL]
    simp[zfa]
   .rw[if_neg hL]at hlo
    obtain⟨S,H,rfl,h3⟩:=h2 _ hlo
    simp[h3]
abbrev zqi(c:Ct)(k i:Int)(l:List (Ste×Ste))(w:Ct×Ct)(p0:Ste×Ste)(b:Bool)(e:Int):H:=[⟨0,.box c.cells⟩,⟨0,.box [num k,num i]⟩,⟨0,.box [prs l]⟩,⟨0,.box [num e]⟩,o0,o0,o0,o0,o0,o0,o0,o0,⟨0,.box (qfy w)⟩,o0,o0,o0,o0,o0,o0,o0,o0,o0,o0,⟨0,.box (qcj p0)⟩,⟨0,.box [.bool b]⟩]
def q4e(l:List (Ste×Ste))(j:Nat):Tm:=zN 5++[bN 2,bN 3,bN 12,none,none,none,bN 24]++zN 37++[some (prs l),nN l.length,nN j]++zN 38
def qic(l:List (Ste×Ste))(j:Nat):Tm:=zN 5++[bN 2,bN 3,bN 12,none,none,none,bN 24,none,bN 35]++zN 35++[some (prs l),nN l.length,nN j]++zN 12++[some (.fn 136 [] [.bptr 36 0,.bptr 37 0])]++zN 25
abbrev zpc(c:Ct)(k i:Int)(l:List (Ste×Ste))(w:Ct×Ct)(p0 p:Ste×Ste)(b:Bool)(e:Int):H:=zqi c k i l w p0 b e++[o0,o0,o0,o0,o0,o0,o0,o0,o0,o0,⟨0,.box (qcj p)⟩,⟨0,.box (qfy w)⟩,⟨0,.box (qcj p)⟩]
abbrev zfg(c:Ct)(k i:Int)(l:List (Ste×Ste))(w:Ct×Ct)(p0 p:Ste×Ste)(j:Nat)(f:Nat->V)(b:Bool)(e:Int)(x:Option X):H:=zpc c k i l w p0 p b e++[⟨0,.loop (fill f 0 (qic l j)) [65] L32_0 L32_1 x⟩]
theorem z3s(c:Ct)(k i:Int)(l:List (Ste×Ste))(hl:l.length<=100000)(w:Ct×Ct)(hW:WS w)(p0 p:Ste×Ste)(hp:PS p)(j:Nat)(f:Nat->V)(hf:JunkL 39 f)(b:Bool)(x:Evn)(E:H)(hE:E=[]\/E=[⟨0,.box x.row⟩]) :
  ((q7f w l p b x).2=none->ev pg (.call (.yld 38) [x.v] (zfg c k i l w p0 p j f b 0 none++E))=some { v:=.bool true,st:=⟨[],zfg c k i l w p0 p j f (q7f w l p b x).1 0 none++E⟩ }) /\
  (∀e,(q7f w l p b x).2=some e->ev pg (.call (.yld 38) [x.v] (zfg c k i l w p0 p j f b 0 none++E))=some { v:=.bool false,st:=⟨[],zfg c k i l w p0 p j f b e (some .ret)++E⟩ }):=by
 have e1:=ev66 w hW p hp x
 have hq:=qsi hW (p:=p) (x:=x)
 have hlo:∀n,39<=n->∀i,(f i).low n=true:=fun n hn i=>qeb hn _ (hf i).2
 unfold q7f
 unfold zru at e1
 generalize qfg w p x=y at *
 obtain⟨q,r,e⟩:=y
 simp only at *
 have e3:=ev75 l hl q hq
 have hpl:=qsx l q
 generalize qrf l q=pl at *
 by_cases he:e=0
 .subst he
  cases b with
  | true =>
   cases r with
   | true =>
    cases hh:qzu l q with
    | true =>
     rw[hh]at hpl
     have hpl':0<=pl:=by simpa using hpl
     rcases hE with rfl | rfl<;>simp[qiu,qic,L32_0,L32_1,e1,e3,hpl',hlo]
    | false =>
     rw[hh]at hpl
     have hpl':¬0<=pl:=by simpa using hpl
     rcases hE with rfl | rfl<;>simp[qiu,qic,L32_0,L32_1,e1,e3,hpl',hlo]
   | false =>
    rcases hE with rfl | rfl<;>simp[qiu,qic,L32_0,L32_1,e1,hlo]
  | false =>
   rcases hE with rfl | rfl<;>simp[qiu,qic,L32_0,L32_1,e1,hlo]
 .have heb:(e==0)=false:=by simpa using he
  rcases hE with rfl | rfl<;>simp[qiu,qic,L32_0,L32_1,e1,he,heb,hlo]
end Go.Proofs.YtbepbclaoohngaaGreat
