/- distinguish.result. -/
import Derived.Test.YtggbaapfbgjaeaaGreatDoorFDt2
set_option linter.all false
namespace Go.Proofs.YtggbaapfbgjaeaaGreatDoor
open Go Go.Am Go.Proofs
set_option maxRecDepth 100000
set_option maxHeartbeats 4000000
structure Mw where
 s:Ste
 l:List (Int×Bool)
 r:Bool
def qgl(c:Ct)(a:Mw)(x:Evn):Mw:=if(qcx c a.s x).2.2=0 then⟨(qcx c a.s x).1,a.l++qlf a.s (qcx c a.s x).1,false⟩else⟨a.s,a.l,true⟩
def qep(c:Ct):Nat->Mw->Mw
 | 0,a=>a
 | n+1,a=>if a.r=true then a else match (qke c a.s).1 with
  | []=>a
  | x :: _=>qep c n (qgl c a x)
theorem Rdy.ends{c:Ct}{s:Ste}(h:Rdy c s):s.ends.any (qfz 4)=false:=by
 have h1:=h.st;unfold stE at h1;rw[if_pos h.chk]at h1;unfold zla at h1;rw[if_pos h.shp]at h1;split at h1
 .cases h1
 .rename_i h2;cases h3:s.ends.any (qfz 4)with
  | false=>rfl
  | true=>exact absurd (.inl h3) h2
theorem Rdy.beg{c:Ct}{s t:Ste}(h:Rdy c s)(k:Rdy c t):zcm s t=0:=by
 have e1:=h.shp.e;have e2:=k.shp.e;have h6:c.act<=6:=by
  have:=h.chk;unfold Ct.check at this;split at this
  .cases this
  .rename_i hh;omega
 unfold zcm;rw[if_neg (by omega),List.any_append,h.ends,k.ends];rfl
theorem Lie.beg{c:Ct}{s t:Ste}(h:Lie c s)(k:Lie c t):zcm s t=0:=h.rdy.beg k.rdy
theorem qoa{s t:Ste}(hs:s.small):(qlf s t).length<=4096:=by
 unfold qlf;split
 .rw[qmx];exact Nat.le_trans (qhb _ _ _) hs.e
 .simp
abbrev Hm(h:H)(m gm w:Nat)(c:Ct)(u:Mw×Nat):H:=(h.set w ⟨u.2,.arr 2 (u.1.l.map qfb)⟩).set m ⟨gm,.box (mcs c u.1.s (.sl w u.2 2 0 u.1.l.length) u.1.r)⟩
def T87(m k:Nat):Tm:=[some (.bptr m 0),none,some .nilx,nN k]++zN 46
def zeq(m:Nat):Tm:=[some (.bptr m 0),none,some .nilx]++zN 47
theorem z4l{h:H}(hc:calm h){m gm w:Nat}(hml:m<h.length)(hwl:w<h.length)(hne:w≠m){c:Ct}(hfew:c.small=true){a0:Mw}{g0:Nat}(h0L:Lie c a0.s)(h0l:a0.l.length<=4096){st:St}(h0:At (T87 m 0) (Hm h m gm w c (a0,g0)) st) :
  ∃r,ev pg (.code (.going h.length L87_0) st)=some r/\∃g',qar (.exit 0) (zeq m) (Hm h m gm w c (qep c 6 a0,g')) r:=by
 refine qcg (α:=Mw×Nat) 6 (fun k _=>T87 m k) (fun _ u=>Hm h m gm w c u) (fun k u=>qep c (6-k) u.1=qep c 6 a0/\Lie c u.1.s/\u.1.l.length<=4096*(k+1)) _ ?_ ?_ (a0,g0) ⟨rfl,h0L,by simpa using h0l⟩ h0
 .rintro k ⟨a,g⟩ f hf hk ⟨hg,hL,hl⟩;simp only at hg hL hl ⊢;have hk':(k:Int)<6:=by omega
  have wk:=qbc k;have hcM:calm (Hm h m gm w c (a,g)):=by have h1:=qof hc (o:=⟨g,.arr 2 (a.l.map qfb)⟩) rfl w;exact qoe h1 (by simpa[V.low]using hwl)
  have hmM:(Hm h m gm w c (a,g))[m]?=some ⟨gm,.box (mcs c a.s (.sl w g 2 0 a.l.length) a.r)⟩:=jN (by simpa using hml);have hwM:(Hm h m gm w c (a,g))[w]?=some ⟨g,.arr 2 (a.l.map qfb)⟩:=by rw[jO (Ne.symm hne),jN hwl]
  have hset:∀u:Mw×Nat,((Hm h m gm w c (a,g)).set w ⟨u.2,.arr 2 (u.1.l.map qfb)⟩).set m ⟨gm,.box (mcs c u.1.s (.sl w u.2 2 0 u.1.l.length) u.1.r)⟩=Hm h m gm w c u:=by intro u;rw[List.set_comm _ _ (Ne.symm hne),List.set_set,List.set_set]
  have hset2:∀r,(Hm h m gm w c (a,g)).set m ⟨gm,.box (mcs c a.s (.sl w g 2 0 a.l.length) r)⟩=Hm h m gm w c (⟨a.s,a.l,r⟩,g):=by intro r;rw[List.set_set]
  have hcut:∀u:Mw×Nat,qgk h.length (Hm h m gm w c u)=Hm h m gm w c u:=by intro u;have h1:=qof hc (o:=⟨u.2,.arr 2 (u.1.l.map qfb)⟩) rfl w;have h2:calm (Hm h m gm w c u):=qoe h1 (by simpa[V.low]using hwl);have h3:=qog h2 [];simpa using h3
  have hmlM:m<(Hm h m gm w c (a,g)).length:=by simpa using hml
  have e1:=ev134 c a.s hfew hL.rdy.small;have hn:6-k=(6-(k+1))+1:=by omega
  rw[hn]at hg;by_cases hr:a.r=true
  .rw[qep,if_pos hr]at hg;generalize hM:Hm h m gm w c (a,g)=M at *;obtain⟨_,hmM'⟩:=jG.1 hmM;obtain⟨S,e,hS⟩:∃S,ev pg (.code L87_0 ⟨fill f 0 (T87 m k),M⟩)=some { x:=.exit 0,st:=⟨S,M⟩ }/\qft (zeq m) S:=by
    simp[T87,zeq,L87_0,hk',hmlM,hmM',hr,hf.ne]
   exact⟨_,e,.inr ⟨by simp,g,by rw[<-hg,hM];exact qbo.2 ⟨rfl,hS,rfl⟩⟩⟩
  .have hr':a.r=false:=by simpa using hr
   rw[qep,if_neg hr]at hg;cases hE:(qke c a.s).1 with
   | nil =>
    rw[hE]at hg;have h2:(qke c a.s).2=0:=by rw[hL.events]
    rw[hE,h2]at e1;generalize hM:Hm h m gm w c (a,g)=M at *;obtain⟨_,hmM'⟩:=jG.1 hmM;obtain⟨S,e,hS⟩:∃S,ev pg (.code L87_0 ⟨fill f 0 (T87 m k),M⟩)=some { x:=.exit 0,st:=⟨S,M⟩ }/\qft (zeq m) S:=by simp[T87,zeq,L87_0,hk',hmlM,hmM',hr',e1,qay,exT,qag,hf.ne]
    exact⟨_,e,.inr ⟨by simp,g,by rw[<-hg,hM];exact qbo.2 ⟨rfl,hS,rfl⟩⟩⟩
   | cons x xs =>
    rw[hE]at hg;simp only at hg;have h2:(qke c a.s).2=0:=by rw[hL.events]
    rw[hE,h2]at e1;have hxs:¬(xs.length:Int)+1=0:=by omega
    by_cases hx:(qcx c a.s x).2.2=0
    .have hL':=qnc hfew hx;have e2:=ev88 hcM (m:=m) (w:=w) (gm:=gm) (g:=g) (n:=2) (c:=c) (s:=a.s) (l:=a.l) (by rw[<-hr'];exact hmM) hwM (.inl rfl) hfew hL.rdy.small x (by omega) hx hL'.rdy.small (hL.beg hL');have hD:qgl c a x=⟨(qcx c a.s x).1,a.l++qlf a.s (qcx c a.s x).1,false⟩:=by unfold qgl;rw[if_pos hx]
     have h3:=hset (qgl c a x,g+1);rw[hD]at h3;simp only at h3;rw[h3,<-hD]at e2;have hlen:=qoa (t:=(qcx c a.s x).1) hL.rdy.small;have hc2:=hcut (qgl c a x,g+1);generalize hM2:Hm h m gm w c (qgl c a x,g+1)=M2 at *;generalize hM:Hm h m gm w c (a,g)=M at *;obtain⟨_,hmM'⟩:=jG.1 hmM;obtain⟨S,e,hS⟩:∃S,ev pg (.code L87_0 ⟨fill f 0 (T87 m k),M⟩)=some { st:=⟨S,M2⟩ }/\qft (T87 m (k+1)) (S.map (qbf h.length)):=by simp[T87,L87_0,hk',hmlM,hmM',hr',e1,e2,wk,hxs,qay,exT,qag,hml,hf.ne]
     exact⟨_,e,.inl ⟨rfl,(qgl c a x,g+1),⟨hg,by rw[hD];exact hL',by rw[hD];simp only[jF];omega⟩,hS,by rw[hM2];exact hc2⟩⟩
    .have hD:qgl c a x=⟨a.s,a.l,true⟩:=by unfold qgl;rw[if_neg hx]
     have e2:=ev88e hcM (m:=m) (gm:=gm) (c:=c) (s:=a.s) (w:=.sl w g 2 0 a.l.length) (by simpa[V.low]using hwl) (by rw[<-hr'];exact hmM) hfew hL.rdy.small x hx;rw[hset2,<-hD]at e2;have hc2:=hcut (qgl c a x,g);generalize hM2:Hm h m gm w c (qgl c a x,g)=M2 at *;generalize hM:Hm h m gm w c (a,g)=M at *;obtain⟨_,hmM'⟩:=jG.1 hmM;obtain⟨S,e,hS⟩:∃S,ev pg (.code L87_0 ⟨fill f 0 (T87 m k),M⟩)=some { st:=⟨S,M2⟩ }/\qft (T87 m (k+1)) (S.map (qbf h.length)):=by simp[T87,L87_0,hk',hmlM,hmM',hr',e1,e2,wk,hxs,qay,exT,qag,hml,hf.ne]
     exact⟨_,e,.inl ⟨rfl,(qgl c a x,g),⟨hg,by rw[hD];exact hL,by rw[hD];simp only;omega⟩,hS,by rw[hM2];exact hc2⟩⟩
 .rintro⟨a,g⟩ f hf ⟨hg,hL,hl⟩;simp only[Nat.sub_self]at hg;replace hg:a=qep c 6 a0:=hg;generalize hM:Hm h m gm w c (a,g)=M at *;obtain⟨S,e,hS⟩:∃S,ev pg (.code L87_0 ⟨fill f 0 (T87 m 6),M⟩)=some { x:=.exit 0,st:=⟨S,M⟩ }/\qft (zeq m) S:=by
   simp[T87,zeq,L87_0,hf.ne]
  exact⟨_,e,by simp,g,by rw[<-hg,hM];exact qbo.2 ⟨rfl,hS,rfl⟩⟩
theorem ev87{h:H}(hc:calm h){m gm w:Nat}(hml:m<h.length)(hwl:w<h.length)(hne:w≠m){c:Ct}(hfew:c.small=true){a:Mw}{g:Nat}(hL:Lie c a.s)(hl:a.l.length<=4096) :
  ∃g',ev pg (.call (fnq 87) [.bptr m 0] (Hm h m gm w c (a,g)))=some { v:=q3k (qep c 6 a).l,st:=⟨[],(h.set w ⟨g',.frz 2 ((qep c 6 a).l.map qfb)⟩).set m ⟨gm,.box (mcs c (qep c 6 a).s .nilx (qep c 6 a).r)⟩⟩ }:=by
 have hlp:=fun st=>z4l hc hml hwl hne hfew (gm:=gm) (a0:=a) (g0:=g) hL hl (st:=st);rw[qaa,pg87.1];have hlen:(Hm h m gm w c (a,g)).length=h.length:=by simp
 generalize hM:Hm h m gm w c (a,g)=M at *;simp[-qde,ir87,qai,hlen];generalize hq:ev pg (.code (.going _ L87_0) _)=o;obtain⟨r,rfl,g',fr,hfr,rfl⟩:∃r,o=some r/\_:=by rw[<-hq];exact hlp _ (by simp[T87])
 generalize qep c 6 a=b at *;obtain⟨s,l,rr⟩:=b;refine⟨g',?_⟩;simp[-qde,zeq,hml,hwl,hne,hne.symm,hfr.ne];rw[List.set_comm _ _ (Ne.symm hne),List.set_set];have h1:=qof hc (o:=⟨g',.frz 2 (l.map qfb)⟩) rfl w;have h2:=qoe (m:=m) (gm:=gm) (c:=c) (s:=s) (w:=.nilx) (r:=rr) h1 rfl;have h3:=qfu h2;rw[jU,jU]at h3;exact h3
theorem ev87r{h:H}(hc:calm h){m gm:Nat}{c:Ct}{s:Ste}(hm:h[m]?=some ⟨gm,.box (mcs c s .nilx true)⟩) :
  ev pg (.call (fnq 87) [.bptr m 0] h)=some { v:=q3k [],st:=⟨[],h⟩ }:=by
 obtain⟨hml,hm'⟩:=jG.1 hm;have hset:h.set m ⟨gm,.box (mcs c s .nilx true)⟩=h:=by rw[<-hm',List.set_getElem_self]
 have hcut:=qfu hc;have hlp:∀st,At (T87 m 0) h st->∃r,ev pg (.code (.going h.length L87_0) st)=some r/\qar (.exit 0) (zeq m) h r:=by
  intro st h0;refine qcg (α:=Unit) 6 (fun k _=>T87 m k) (fun _ _=>h) (fun k _=>k=0) _ ?_ ?_ () rfl h0
  .rintro k _ f hf hk rfl;obtain⟨S,e,hS⟩:∃S,ev pg (.code L87_0 ⟨fill f 0 (T87 m 0),h⟩)=some { x:=.exit 0,st:=⟨S,h⟩ }/\qft (zeq m) S:=by
    simp[T87,zeq,L87_0,hml,hm',hf.ne]
   exact⟨_,e,.inr ⟨by simp,qbo.2 ⟨rfl,hS,rfl⟩⟩⟩
  .rintro _ f hf h6;cases h6
 rw[qaa,pg87.1];simp[-qde,ir87,qai];generalize hq:ev pg (.code (.going _ L87_0) _)=o;obtain⟨r,rfl,fr,hfr,rfl⟩:∃r,o=some r/\_:=by rw[<-hq];exact hlp _ (by simp[T87])
 simp[-qde,zeq,hml,hm',hfr.ne];exact(congrArg (qde h.length) hset).trans hcut
abbrev zqs(l:List (Int×Bool)):List V:=[q3k l]
abbrev zoo(W:List (List (Int×Bool)))(r:Bool):V:=.agg [.imm (W.map zqs),.bool r]
def qkx(c:Ct)(s:Ste)(i:Int):Mw:=qep c 6 (qgl c ⟨s,[],false⟩ ⟨2,i,!((s.inputs[i.toNat]?).getD false)⟩)
def qmk(c:Ct):List Int->Ste×Bool×List (List (Int×Bool))->Ste×Bool×List (List (Int×Bool))
 | [],u=>u
 | i :: l,u=>if u.2.1=true then u else qmk c l ((qkx c u.1 i).s,(qkx c u.1 i).r,u.2.2++[(qkx c u.1 i).l])
def qmd(c:Ct):Mw:=qep c 6 ⟨(qbz c).1,qlf (qev c).1 (qbz c).1,false⟩
def qbm(c:Ct)(test:List Int):List (List (Int×Bool))×Bool :=
 if(qev c).2≠0\/(qbz c).2.2≠0 then([[]],true)
 else let u:=qmk c test ((qmd c).s,(qmd c).r,[(qmd c).l]);(u.2.2,u.2.1)
abbrev yR(c:Ct)(f s0:Ste)(g1:Nat)(l0:List (Int×Bool))(g:Nat)(u:Ste×Bool×List (List (Int×Bool))):H :=
 [⟨0,.box c.cells⟩,⟨0,.arr 0 []⟩,⟨0,.box [.sl 1 0 0 0 0,.bool false]⟩,⟨0,.arr 0 []⟩,⟨0,.arr 0 []⟩,⟨0,.arr 0 []⟩,⟨0,.arr 0 []⟩,⟨0,.arr 0 []⟩,⟨0,.box f.cells⟩,
   ⟨0,.arr 0 []⟩,⟨0,.arr 0 []⟩,⟨0,.arr 0 []⟩,⟨0,.arr 0 []⟩,⟨0,.arr 0 []⟩,⟨0,.box s0.cells⟩,⟨g1,.frz 2 (l0.map qfb)⟩,⟨0,.box (mcs c u.1 .nilx u.2.1)⟩,⟨g,.arr 1 (u.2.2.map zqs)⟩,⟨0,.arr 0 []⟩,⟨0,.box [.sl 17 g 1 0 u.2.2.length,.bool false]⟩]
theorem zgb(c:Ct)(f s0:Ste)(g1:Nat)(l0:List (Int×Bool))(g:Nat)(u:Ste×Bool×List (List (Int×Bool))):calm (yR c f s0 g1 l0 g u):=by unfold calm;simp
def T55(test:List Int)(k:Nat):Tm:=zN 4++[bN 2]++zN 5++[bN 16,bN 19]++zN 32++[some (qcr test),nN test.length,nN k]++zN 34
def zwb:Tm:=zN 4++[bN 2]++zN 5++[bN 16,bN 19]++zN 69
theorem qko{c:Ct}(hfew:c.small=true){a:Mw}(h:Lie c a.s)(x:Evn):Lie c (qgl c a x).s:=by
 unfold qgl;split
 .rename_i hx;exact qnc hfew hx
 .exact h
theorem qio{c:Ct}(hfew:c.small=true):∀(n:Nat) {a:Mw},Lie c a.s->Lie c (qep c n a).s
 | 0,_,h=>h
 | n+1,a,h=>by
  unfold qep;split
  .exact h
  .split
   .exact h
   .exact qio hfew n (qko hfew h _)
theorem z4h{c:Ct}(hfew:c.small=true)(f s0:Ste)(g1:Nat)(l0:List (Int×Bool)){test:List Int}(hlt:test.length<=4096)(hin:∀i∈test,0<=i/\i<c.inputs.length){u0:Ste×Bool×List (List (Int×Bool))}{g0:Nat}(hL0:Lie c u0.1)(hW0:u0.2.2.length=1){st:St}(h0:At (T55 test 0) (yR c f s0 g1 l0 g0 u0) st) :
  ∃r,ev pg (.code (.going 20 L55_0) st)=some r/\∃g,qar (.exit 0) zwb (yR c f s0 g1 l0 g (qmk c test u0)) r:=by
 refine qcg (α:=(Ste×Bool×List (List (Int×Bool)))×Nat) test.length (fun k _=>T55 test k) (fun _ u=>yR c f s0 g1 l0 u.2 u.1) (fun k u=>qmk c (test.drop k) u.1=qmk c test u0/\Lie c u.1.1/\u.1.2.2.length=k+1) _ ?_ ?_ (u0,g0) ⟨by simp,hL0,hW0⟩ h0
 .rintro k ⟨⟨s,rr,W⟩,g⟩ fr hf hk ⟨hg,hL,hW⟩;simp only at hg hL hW ⊢;have hk':(k:Int)<test.length:=by omega
  have wk:=qbc k;rw[jL hk,qmk]at hg;simp only at hg;cases hr:rr with
  | true =>
   subst hr;rw[if_pos rfl]at hg;obtain⟨S,e,hS⟩:∃S,ev pg (.code L55_0 ⟨fill fr 0 (T55 test k),yR c f s0 g1 l0 g (s,true,W)⟩)=some { x:=.exit 0,st:=⟨S,yR c f s0 g1 l0 g (s,true,W)⟩ }/\qft zwb S:=by simp[T55,zwb,L55_0,hk,hk',hf.ne]
   exact⟨_,e,.inr ⟨by simp,g,by rw[<-hg];exact qbo.2 ⟨rfl,hS,rfl⟩⟩⟩
  | false =>
   subst hr;rw[if_neg (by simp)]at hg;have hi:=hin test[k] (jH hk);have hsi:=hL.rdy.shp.i;generalize htk:test[k]=i at *;obtain⟨hi0,hi1⟩:=hi;obtain⟨j,rfl⟩:∃j:Nat,i=j:=⟨i.toNat,by omega⟩
   have hj:j<s.inputs.length:=by omega
   have hjI:(j:Int)<s.inputs.length:=by omega
   have hget:s.inputs[j]?=some s.inputs[j]:=jA hj;have hcy:=zgb c f s0 g1 l0 g (s,false,W);have hmy:(yR c f s0 g1 l0 g (s,false,W))[16]?=some ⟨0,.box (mcs c s .nilx false)⟩:=rfl;have hP:qkx c s j=qep c 6 (qgl c ⟨s,[],false⟩ ⟨2,j,!s.inputs[j]⟩):=by unfold qkx;simp[hj]
   rw[hP]at hg;have hfitW:(W.length+1)*24<=140737488355328:=by omega
   by_cases hx:(qcx c s ⟨2,j,!s.inputs[j]⟩).2.2=0
   .have hL':=qnc hfew hx;have e88:=ev88n hcy (m:=16) (gm:=0) hmy hfew hL.rdy.small ⟨2,j,!s.inputs[j]⟩ hx hL'.rdy.small (hL.beg hL');have hD:qgl c ⟨s,[],false⟩ ⟨2,j,!s.inputs[j]⟩=⟨(qcx c s ⟨2,j,!s.inputs[j]⟩).1,qlf s (qcx c s ⟨2,j,!s.inputs[j]⟩).1,false⟩:=by
     unfold qgl;rw[if_pos hx];rfl
    rw[hD]at hg;have hlen:=qoa (t:=(qcx c s ⟨2,j,!s.inputs[j]⟩).1) hL.rdy.small;generalize (qcx c s ⟨2,j,!s.inputs[j]⟩).1=t at *;generalize qlf s t=B at *;have hcM:calm ((yR c f s0 g1 l0 g (s,false,W)).set 16 ⟨0,.box (mcs c t (.sl 28 0 2 0 B.length) false)⟩++(d88 ⟨2,j,!s.inputs[j]⟩ t++[⟨0,.box t.cells⟩,⟨0,.arr 2 (B.map qfb)⟩])):=by unfold calm;simp
    obtain⟨g',e87⟩:=ev87 hcM (m:=16) (gm:=0) (w:=28) (by simp) (by simp) (by decide) hfew (a:=⟨t,B,false⟩) (g:=0) hL' hlen;have hLg:=qio hfew 6 (a:=⟨t,B,false⟩) hL';generalize qep c 6 ⟨t,B,false⟩=b at *;obtain⟨bs,bl,br⟩:=b;simp[Hm]at e87;simp at e88;obtain⟨S,H',e,hS,hH⟩:∃S H',ev pg (.code L55_0 ⟨fill fr 0 (T55 test k),yR c f s0 g1 l0 g (s,false,W)⟩)=some { st:=⟨S,H'⟩ }/\qft (T55 test (k+1)) (S.map (qbf 20))/\qgk 20 H'=yR c f s0 g1 l0 (g+1) (bs,br,W++[bl]):=by
     simp[-qgk,T55,L55_0,hk,hk',htk,hj,hjI,hget,e88,e87,wk,hfitW,qab,qay,exT,qag,hf.ne];refine⟨_,_,⟨rfl,rfl⟩,?_,?_⟩
     .simp[hf.ne]
     .simp
    exact⟨_,e,.inl ⟨rfl,((bs,br,W++[bl]),g+1),⟨hg,hLg,by simp[hW]⟩,hS,hH⟩⟩
   .have e88:=ev88e hcy (m:=16) (gm:=0) (w:=.nilx) rfl hmy hfew hL.rdy.small ⟨2,j,!s.inputs[j]⟩ hx;have hD:qgl c ⟨s,[],false⟩ ⟨2,j,!s.inputs[j]⟩=⟨s,[],true⟩:=by
     unfold qgl;rw[if_neg hx]
    rw[hD]at hg;have hG:qep c 6 ⟨s,[],true⟩=⟨s,[],true⟩:=by unfold qep;rw[if_pos rfl]
    rw[hG]at hg;have e87:=ev87r (zgb c f s0 g1 l0 g (s,true,W)) (m:=16) (gm:=0) (c:=c) (s:=s) rfl;simp[yR]at e87;simp at e88;obtain⟨S,H',e,hS,hH⟩:∃S H',ev pg (.code L55_0 ⟨fill fr 0 (T55 test k),yR c f s0 g1 l0 g (s,false,W)⟩)=some { st:=⟨S,H'⟩ }/\qft (T55 test (k+1)) (S.map (qbf 20))/\qgk 20 H'=yR c f s0 g1 l0 (g+1) (s,true,W++[[]]):=by
     simp[-qgk,T55,L55_0,hk,hk',htk,hj,hjI,hget,e88,e87,wk,hfitW,qab,qay,exT,qag,hf.ne];refine⟨_,_,⟨rfl,rfl⟩,?_,?_⟩
     .simp[hf.ne]
     .simp
    exact⟨_,e,.inl ⟨rfl,((s,true,W++[[]]),g+1),⟨hg,hL,by simp[hW]⟩,hS,hH⟩⟩
 .rintro⟨⟨s,rr,W⟩,g⟩ fr hf ⟨hg,hL,hW⟩;simp only[List.drop_length,qmk]at hg;obtain⟨S,e,hS⟩:∃S,ev pg (.code L55_0 ⟨fill fr 0 (T55 test test.length),yR c f s0 g1 l0 g (s,rr,W)⟩)=some { x:=.exit 0,st:=⟨S,yR c f s0 g1 l0 g (s,rr,W)⟩ }/\qft zwb S:=by
   simp[T55,zwb,L55_0,hf.ne]
  exact⟨_,e,by simp,g,by rw[<-hg];exact qbo.2 ⟨rfl,hS,rfl⟩⟩
end Go.Proofs.YtggbaapfbgjaeaaGreatDoor
