/- A round. -/
import Derived.Test.YtggbaapfbgjaeaaGreatDoorSt3
import Derived.Test.YtggbaapfbgjaeaaGreatDoorSv1
set_option linter.all false
namespace Go.Proofs.YtggbaapfbgjaeaaGreatDoor
open Go Go.Am Go.Proofs
set_option maxRecDepth 100000
theorem qvb{s:Ste}{i:Nat}(h:qbq s 0 i=true):∃hi:i<s.ends.length,s.ends[i]=1\/s.ends[i]=3:=by
 unfold qbq at h;rw[if_pos rfl]at h;by_cases hi:i<s.ends.length
 .rw[jA hi]at h;simp at h;exact⟨hi,h⟩
 .rw[jY (by omega)]at h;simp at h
theorem qsv{s:Ste}{i:Nat}(h:qbq s 1 i=true):∃hi:i<s.timers.length,s.timers[i]=1:=by
 unfold qbq at h;rw[if_neg (by omega)]at h;by_cases hi:i<s.timers.length
 .rw[jA hi]at h;simp at h;exact⟨hi,h⟩
 .rw[jY (by omega)]at h;simp at h
theorem qgd{c:Ct}{s:Ste}{x:Evn}(hs:stE c s=0)(hk:¬(x.kind<0\/2<x.kind))(hm:qpu s x=true):stE c (qei s x)=0:=by
 obtain⟨hc,hS,h1,h2,h3⟩:=qib.1 hs;unfold qpu at hm;split at hm
 .cases hm
 .unfold qei;by_cases hk0:x.kind=0
  .rw[if_pos hk0];refine qib.2 ⟨hc,⟨by simp only[jU];exact hS.e,hS.w,hS.i,hS.v,hS.t⟩,qgx.2 fun y hy=>?_,h2,h3⟩;rcases jT hy with h | h
   .exact qgx.1 h1 y h
   .rw[h];split<;>omega
  .rw[if_neg hk0];by_cases hk1:x.kind=1
   .rw[if_pos hk1];rw[if_neg (by omega),hk1]at hm;obtain⟨hi,ht⟩:=qsv hm;generalize x.idx.toNat=n at *;have hnc:n<c.signals.length:=by rw[<-hS.t];exact hi
    have hS':Shp c ⟨s.ends,s.valves,s.inputs,s.values.set n true,s.timers.set n 2⟩:=⟨hS.e,hS.w,hS.i,by simp only[jU];exact hS.v,by simp only[jU];exact hS.t⟩
    refine qib.2 ⟨hc,hS',h1,qgx.2 fun y hy=>?_,fun k hk=>?_⟩
    .rcases jT hy with h | h
     .exact qgx.1 h2 y h
     .rw[h];omega
    .simp only[jU]at hk;have hkc:k<c.signals.length:=by rw[<-hS.t];exact hk
     rw[q0u hS' hkc];simp only[List.getElem_set];by_cases hkn:n=k
     .subst hkn;have hq:=h3 n hi;rw[q0u hS hkc,ht]at hq;simp only[if_true];have hkind:c.signals[n].kind=2:=by
       simp[tmB]at hq;exact hq.1
      rw[hkind];rfl
     .rw[if_neg hkn,if_neg hkn,<-q0u hS hkc];exact h3 k hk
   .rw[if_neg hk1];exact qib.2 ⟨hc,⟨hS.e,hS.w,by simp only[jU];exact hS.i,hS.v,hS.t⟩,h1,h2,h3⟩
theorem q3u{c:Ct}{s:Ste}{x:Evn}(hs:stE c s=0)(h:(qec c s x).2.2=0):stE c (qec c s x).1=0:=by
 unfold qec at h ⊢;split at h
 .cases h
 .rename_i h1;rw[if_neg h1];split at h
  .rename_i h2;rw[if_pos h2];unfold qjm at h ⊢;cases e:qix c (qei s x)with
   | none=>rw[e]at h;cases h
   | some y =>simp only;exact qpy (qgd hs h1 h2) (show qix c (qei s x)=some (y.1,y.2)from e)
  .cases h
theorem qxt{c:Ct}:∀{l:List Evn} {i:Nat} {r:Crs},stE c r.st=0->(qum c l i r).2.2=0->stE c (qum c l i r).1.st=0
 | [],_,_,h,_=>h
 | x :: l,i,r,hs,h=>by
  rw[qum]at h ⊢;by_cases h0:(qec c r.st x).2.2=0
  .rw[if_pos h0]at h ⊢;exact qxt (q3u hs h0) h
  .rw[if_neg h0]at h;exact absurd h h0
def qhq(c:Ct):Ste:=⟨List.replicate c.act.toNat 0,List.replicate c.act.toNat false,List.replicate c.inputs.length false,c.signals.map Sg.init,List.replicate c.signals.length 0⟩
def qef(c:Ct):Ste:=qdo c (qhq c)
theorem qts{c:Ct}(hc:c.check=0):stE c (qhq c)=0:=by
 have hact:1<=c.act:=by
  unfold Ct.check at hc;split at hc
  .cases hc
  .omega
 have hS:Shp c (qhq c):=⟨by unfold qhq;rw[kD];omega,by unfold qhq;rw[kD];omega,by unfold qhq;rw[kD],by unfold qhq;rw[List.length_map],by unfold qhq;rw[kD]⟩
 refine qib.2 ⟨hc,hS,qgx.2 fun y hy=>?_,qgx.2 fun y hy=>?_,fun k hk=>?_⟩
 .rw[(List.mem_replicate.1 hy).2];omega
 .rw[(List.mem_replicate.1 hy).2];omega
 .have hkc:k<c.signals.length:=by rw[<-hS.t];exact hk
  rw[q0u hS hkc];unfold qhq;simp only[List.getElem_map,List.getElem_replicate];have hz:=q2v hc k _ (jA hkc);generalize c.signals[k]=x at *;by_cases h2:x.kind=2
  .have hi:x.init=false:=by
    cases hb:x.init with
    | false=>rfl
    | true =>
     exfalso;unfold q8k at hz;split at hz
     .split at hz
      .cases hz
      .split at hz
       .split at hz
        .rename_i h4;exact h4.2 hz
        .split at hz
         .cases hz
         .split at hz
          .cases hz
          .rw[if_pos (.inl ⟨by omega,.inr hb⟩)]at hz;cases hz
       .rename_i h4;exact h4 hz
     .rename_i h4;exact h4 hz
   rw[h2,hi];rfl
  .simp[tmB,h2]
theorem qdg{c:Ct}(hc:c.check=0):stE c (qef c)=0:=qlg (qts hc)
structure Rdy(c:Ct)(s:Ste):Prop where
 few:c.small=true
 st:stE c s=0
theorem Rdy.chk{c:Ct}{s:Ste}(h:Rdy c s):c.check=0:=(qig h.st).1
theorem Rdy.mid{c:Ct}{s:Ste}(h:Rdy c s):Mid c c.act.toNat:=qft h.chk h.few
theorem Rdy.shp{c:Ct}{s:Ste}(h:Rdy c s):Shp c s:=(qig h.st).2
theorem Rdy.small{c:Ct}{s:Ste}(h:Rdy c s):s.small:=by obtain⟨h1,h2,h3,h4,h5⟩:=h.shp;have a1:=h.mid.hi;have a2:=h.mid.inp;have a3:=h.mid.sig;have a4:=h.mid.act;exact⟨by omega,by omega,by omega,by omega,by omega⟩
theorem Rdy.sig{c:Ct}{s:Ste}(h:Rdy c s):∀x∈c.signals,SigOk (qae s).length x:=by intro x hx;rw[qyd h.shp];have:=zyl h.chk h.few hx;exact⟨⟨this.non,this.on⟩,fun _=>⟨this.noff,this.off⟩⟩
theorem Rdy.pil{c:Ct}{s:Ste}(h:Rdy c s):Pil c c.act.toNat (qae s).length:=by rw[qyd h.shp];have:=qiy h.chk h.few;exact⟨this.plus,this.minus,qgx.1 this.pp,qgx.1 this.mm⟩
theorem Rdy.settle{c:Ct}{s t:Ste}{m:List Int}(h:Rdy c s)(hz:qbx c s=some (t,m)):Rdy c t:=⟨h.few,qlx h.st hz⟩
theorem Rdy.round{c:Ct}{s t:Ste}{m:List Int}(h:Rdy c s)(hz:qcd c s=some (t,m)):Rdy c t:=⟨h.few,qnf h.st hz⟩
structure Lin(N:Nat)(l:List Int):Prop where
 asc:Asc l
 b:∀x∈l,0<=x/\x<(N:Int)
theorem Lin.norm(N:Nat)(l:List Int):Lin N (norm N l):=⟨qol N l,fun _ hx=>(qlo.1 hx).2⟩
theorem Lin.self{N:Nat}{l:List Int}(h:Lin N l):Proofs.YtggbaapfbgjaeaaGreatDoor.norm N l=l:=zio h.asc h.b
theorem zti(N:Nat)(l:List Int):(norm N l).length<=N:=qif _ _ _
theorem Lin.len{N:Nat}{l:List Int}(h:Lin N l):l.length<=N:=by have:=zti N l;rwa [h.self]at this
theorem Lin.mono{M N:Nat}{l:List Int}(h:Lin M l)(hMN:M<=N):Lin N l:=⟨h.asc,fun x hx=>by have:=h.b x hx;omega⟩
theorem Lin.mrg{N:Nat}{l m:List Int}(hl:Lin N l)(hm:Lin N m):mrg l m=Proofs.YtggbaapfbgjaeaaGreatDoor.norm N (l++m):=znk hl.asc hm.asc hl.b hm.b
theorem Lin.nil(N:Nat):Lin N []:=⟨List.Pairwise.nil,by simp⟩
theorem quh{c:Ct}{N:Nat}:∀{d:Nat} {s:Ste} {l:List Int} {t:Ste} {m:List Int},qcx c N d s l=some (t,m)->Lin N m
 | 0,_,_,_,_,h=>by cases h
 | d+1,s,l,t,m,h=>by
  rw[qcx]at h;split at h
  .cases h;exact Lin.norm _ _
  .exact quh h
theorem qqe{c:Ct}{s t:Ste}{m:List Int}(h:qbx c s=some (t,m)):Lin (qac c c.act.toNat) m:=quh h
theorem qvp(c:Ct)(s:Ste):Lin (qqk c) (qmo c s):=by
 refine⟨?_,fun x hx=>?_⟩
 .unfold qmo qsb Asc;rw[List.pairwise_map];refine List.Pairwise.imp ?_ ((List.pairwise_lt_range (n:=c.act.toNat)).filter _);intro a b h;omega
 .unfold qmo at hx;obtain⟨j,h1,_,rfl⟩:=(zbd _ _ _ _).1 hx;unfold qqk;omega
theorem q1e{c:Ct}(h:Mid c c.act.toNat):qqk c<=200:=by have:=h.hi;have:=h.inp;have:=h.sig;unfold qqk qac;omega
theorem zdt{c:Ct}{s t:Ste}{m:List Int}(h:qcd c s=some (t,m)):Lin (qqk c) m:=by obtain⟨u,k,_,_,rfl⟩:=qjw h;exact Lin.norm _ _
theorem ev221{c:Ct}{s:Ste}(h:Rdy c s):ev pg (.call (fnq 221) [c.v,s.v] [])=some (rvq (.tup (q0r (qcd c s)++[.bool (qcd c s).isSome]))):=by
 cases hZ:qbx c s with
 | none =>
  have h124:=ev240 c h.mid s h.small h.shp h.sig;have hr:qcd c s=none:=by unfold qcd;rw[hZ];rfl
  rw[hr];rw[hZ]at h124;simp[q0r]at h124;rw[qab,pg221.1];simp[ir221,h124,q0r,qex]
 | some x =>
  obtain⟨t,m⟩:=x;have ht:=h.settle hZ;have hm:=qqe hZ;have hN:=q1e h.mid;have h83:=ev221_some c h.mid s h.small h.shp h.sig hZ ht.small ht.shp ht.pil (by have:=hm.len;unfold qqk at hN;omega);have hr:qcd c s=some (qkd (qgo c t),norm (qqk c) (m++qmo c t)):=by unfold qcd;rw[hZ];rfl
  rw[hr,h83];have e:mrg m (cfA c t c.act.toNat)=norm (qqk c) (m++qmo c t):=Lin.mrg (hm.mono (by unfold qqk;omega)) (qvp c t);rw[e];rfl
theorem ev252(s:Ste)(hs:s.small):ev pg (.call (fnq 252) [s.v] [])=some { v:=zmj s,st:=⟨[],z0d s⟩ }:=by have e1:=ev78 s.ends hs.e;have e2:=ev176 s.valves hs.w;have e3:=ev176 s.inputs hs.i;have e4:=ev176 s.values hs.v;have e5:=ev78 s.timers hs.t;rw[qab,pg252.1];simp[qaa,exT,qag,ir252,e1,e2,e3,e4,e5,qck,qet,qmi,qed]
theorem ev211(s:Ste)(hs:s.small):ev pg (.call (fnq 211) [s.v] [])=some { v:=zmj s,st:=⟨[],z0d s⟩ }:=by have e1:=ev78 s.ends hs.e;have e2:=ev176 s.valves hs.w;have e3:=ev176 s.inputs hs.i;have e4:=ev176 s.values hs.v;have e5:=ev78 s.timers hs.t;rw[qab,pg211.1];simp[qaa,exT,qag,ir211,e1,e2,e3,e4,e5,qck,qet,qmi,qed]
def ztx(k:Int):V:=if k=0 then .fn 280 [] []else if k=1 then .fn 281 [] []else .fn 282 [] []
theorem zty(x:Sg)(L:List Bool)(v:Bool)(t:Int)(hk:x.kind=0\/x.kind=1\/x.kind=2):ev pg (.call (ztx x.kind) [chg v t false,.bool (x.on.holds L),.bool (q3l x L)] [])=some (rvq (chg (qlz x L v t).1 (qlz x L v t).2 (x.on.holds L&&q3l x L))):=by
 have hoff:x.kind≠1->q3l x L=false:=fun h=>by unfold q3l;simp[h]
 have hoff1:x.kind=1->q3l x L=x.off.holds L:=fun h=>by unfold q3l;simp[h]
 unfold ztx qlz;rcases hk with h | h | h
 .rw[if_pos h,hoff (by omega),ev280,if_neg (by omega),if_neg (by omega)];simp
 .rw[if_neg (by omega),if_pos h,hoff1 h,ev281,if_pos h];cases x.on.holds L<;>cases x.off.holds L<;>simp
 .have e:=ev282 v t false (x.on.holds L) false;rw[hoff (by omega)];simp only[h];simp;rw[e];cases x.on.holds L
  .simp
  .by_cases h0:t=0<;>simp[h0]
abbrev zve(c:Ct)(s g b:Ste)(gq wq:Nat)(L:List Int)(k:Nat)(a:Nat×Nat):H:=zov c s ⟨g.ends,g.valves,g.inputs,tv c g k,tt c g k⟩ b (qao g) gq wq L++[⟨0,.arr 1 ((qae g).map qfi)⟩,⟨0,.box [.fn 280 [] [],.fn 281 [] [],.fn 282 [] []]⟩,o0,⟨a.1,.arr a.2 ((bdL c g (qao g) k).map qbh)⟩]
def zur(c:Ct)(g:Ste)(k:Nat)(a:Nat×Nat):Tm:=[bN 15,none,some (.bool false),some (.sl 31 0 0 0 0),bN 28,some (.sl 29 0 1 0 (qae g).length),bN 30,some (.sl 32 a.1 a.2 0 (bdL c g (qao g) k).length)]++zN 17++[some (.imm (c.signals.map Sg.row)),some (num c.signals.length),nN k]++zN 77
set_option maxHeartbeats 4000000 in
theorem z2b(c:Ct)(s g b:Ste)(gq wq:Nat)(L:List Int)(hs:g.small)(hS:Shp c g)(hn:c.signals.length<=128)(hF:qao g<=10000)(hok:∀x∈c.signals,SigOk (qae g).length x)(hkd:∀x∈c.signals,x.kind=0\/x.kind=1\/x.kind=2){st:St}(a0:Nat×Nat)(g0:a0.2=1\/a0.2=0)(h0:At (zur c g 0 a0) (zve c s g b gq wq L 0 a0) st):∃r,ev pg (.code (.going 33 L253_0) st)=some r/\∃a:Nat×Nat,(a.2=1\/a.2=0)/\qat (.exit 0) (zur c g c.signals.length a) (zve c s g b gq wq L c.signals.length a) r:=by
 refine qce c.signals.length (zur c g) (zve c s g b gq wq L) (fun _ a=>a.2=1\/a.2=0) _ ?_ ?_ a0 g0 h0
 .rintro k ⟨gn,m⟩ f hf hk hG;have hk':(k:Int)<c.signals.length:=by omega
  have wk:=qbi k;have hkv:k<g.values.length:=by rw[hS.v];exact hk
  have hkt:k<g.timers.length:=by rw[hS.t];exact hk
  have hx:=hok _ (jH hk);have hrule:=zty c.signals[k] (qae g) g.values[k] g.timers[k] (hkd _ (jH hk));have e1:=ev271 (qae g) c.signals[k].on hx.on.1 hx.on.2;have hlen:(qde c g).length=c.signals.length:=qje _ hS.v hS.t;have hkl:k<(qde c g).length:=by omega
  have hget':(qde c g)[k]=qlz c.signals[k] (qae g) g.values[k] g.timers[k]:=by have:(qde c g)[k]?=some (qlz c.signals[k] (qae g) g.values[k] g.timers[k]):=qnu _ (jA hk) (jA hkv) (jA hkt);rw[jA hkl]at this;exact Option.some.inj this
  have l1:((qde c g).map Prod.fst).length=g.values.length:=by rw[List.length_map,hlen,hS.v]
  have l2:((qde c g).map Prod.snd).length=g.timers.length:=by rw[List.length_map,hlen,hS.t]
  have f1:=qkg (A:=(qde c g).map Prod.fst) (B:=g.values) l1 (k:=k) (by rw[List.length_map];exact hkl);have f2:=qkg (A:=(qde c g).map Prod.snd) (B:=g.timers) l2 (k:=k) (by rw[List.length_map];exact hkl);rw[List.getElem_map,hget']at f1 f2;have m1:=qlp (A:=(qde c g).map Prod.fst) (B:=g.values) l1 (k:=k) (by rw[List.length_map];omega);have m2:=qlp (A:=(qde c g).map Prod.snd) (B:=g.timers) l2 (k:=k) (by rw[List.length_map];omega);rw[l1]at m1;rw[l2]at m2;have n1:=qsr (A:=(qde c g).map Prod.fst) (B:=g.values) l1 (k:=k) (by rw[List.length_map];exact hkl);have n2:=qsr (A:=(qde c g).map Prod.snd) (B:=g.timers) l2 (k:=k) (by rw[List.length_map];exact hkl);rw[jA hkv]at n1;rw[jA hkt]at n2;have f3:=qnl (q6q c (qae g)) (qao g:Nat) k;have hb:q6q c (qae g) k=(c.signals[k].on.holds (qae g)&&q3l c.signals[k] (qae g)):=by unfold q6q;rw[jA hk];rfl
  rw[hb]at f3;have hsl:=qif (q6q c (qae g)) (qao g:Nat) k;unfold zur zve tv tt bdL;rw[<-f1,<-f2,f3];have e2:c.signals[k].kind=1->ev pg (.call (fnq 271) [c.signals[k].off.v,qdb (qae g)] [])=some (rvq (.bool (q3l c.signals[k] (qae g)))):=fun h=>by rw[ev271 (qae g) c.signals[k].off (hx.off h).1 (hx.off h).2];unfold q3l;simp[h]
  have hoff:c.signals[k].kind≠1->q3l c.signals[k] (qae g)=false:=fun h=>by unfold q3l;simp[h]
  generalize hv0:g.values[k]=v0 at *;generalize ht0:g.timers[k]=t0 at *;generalize mix ((qde c g).map Prod.fst) g.values k=VV at *;generalize mix ((qde c g).map Prod.snd) g.timers k=TT at *;generalize qsb (q6q c (qae g)) (qao g:Nat) k=BB at *;generalize qlz c.signals[k] (qae g) v0 t0=p at *;generalize qao g=F at *;generalize hon:c.signals[k].on.holds (qae g)=on at *;generalize q3l c.signals[k] (qae g)=off at *;generalize qae g=LL at *;have hkV:k<VV.length:=by omega
  have hkT:k<TT.length:=by omega
  have v1:VV[k]=v0:=by rw[jA hkV]at n1;exact Option.some.inj n1
  have t1:TT[k]=t0:=by rw[jA hkT]at n2;exact Option.some.inj n2
  have hb1:(BB.length+1)*8<=140737488355328:=by omega
  have wF:=qam (n:=(F:Int)+k) (by omega) (by omega);have hmm:m=1\/m=0:=hG;obtain⟨p1,p2⟩:=p;unfold ztx at hrule;rcases hkd _ (jH hk)with h0 | h0 | h0
  .have h0b:(c.signals[k].kind==1)=false:=by rw[h0];rfl
   obtain rfl:=hoff (by omega);rw[if_pos h0,Bool.and_false]at hrule;rcases hmm with rfl | rfl<;>simp[qaa,exT,qag,L253_0,hk,hk',wk,h0,e1,hrule,hkV,hkT,v1,t1,hf.ne]
  .rw[if_neg (by omega),if_pos h0]at hrule;have e2':=e2 h0;generalize hcf:(on&&off)=cf at *;rcases hmm with rfl | rfl<;>cases cf<;>simp[qaa,exT,qag,L253_0,hk,hk',wk,h0,e1,e2',hrule,hkV,hkT,v1,t1,wF,hb1,hf.ne]
  .have h0b:(c.signals[k].kind==1)=false:=by rw[h0];rfl
   obtain rfl:=hoff (by omega);rw[if_neg (by omega),if_neg (by omega),Bool.and_false]at hrule;rcases hmm with rfl | rfl<;>simp[qaa,exT,qag,L253_0,hk,hk',wk,h0,e1,hrule,hkV,hkT,v1,t1,hf.ne]
 .rintro⟨gn,m⟩ f hf hG;unfold zur zve;generalize bdL c g (qao g) c.signals.length=BB at *;have hmm:m=1\/m=0:=hG;rcases hmm with rfl | rfl<;>simp[L253_0,hf.ne]
end Go.Proofs.YtggbaapfbgjaeaaGreatDoor
