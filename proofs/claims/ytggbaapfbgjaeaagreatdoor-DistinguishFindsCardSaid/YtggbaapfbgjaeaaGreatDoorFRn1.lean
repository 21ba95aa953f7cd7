/- A round. -/
import Derived.Test.YtggbaapfbgjaeaaGreatDoorFSt3
import Derived.Test.YtggbaapfbgjaeaaGreatDoorFSv1
set_option linter.all false
namespace Go.Proofs.YtggbaapfbgjaeaaGreatDoor
open Go Go.Am Go.Proofs
set_option maxRecDepth 100000
theorem qvq{s:Ste}{i:Nat}(h:qbr s 0 i=true):∃hi:i<s.ends.length,s.ends[i]=1\/s.ends[i]=3:=by
 unfold qbr at h;rw[if_pos rfl]at h;by_cases hi:i<s.ends.length
 .rw[jA hi]at h;simp at h;exact⟨hi,h⟩
 .rw[jY (by omega)]at h;simp at h
theorem qtf{s:Ste}{i:Nat}(h:qbr s 1 i=true):∃hi:i<s.timers.length,s.timers[i]=1:=by
 unfold qbr at h;rw[if_neg (by omega)]at h;by_cases hi:i<s.timers.length
 .rw[jA hi]at h;simp at h;exact⟨hi,h⟩
 .rw[jY (by omega)]at h;simp at h
theorem qgh{c:Ct}{s:Ste}{x:Evn}(hs:stE c s=0)(hk:¬(x.kind<0\/2<x.kind))(hm:qpz s x=true):stE c (qek s x)=0:=by
 obtain⟨hc,hS,h1,h2,h3⟩:=qib.1 hs;unfold qpz at hm;split at hm
 .cases hm
 .unfold qek;by_cases hk0:x.kind=0
  .rw[if_pos hk0];refine qib.2 ⟨hc,⟨by simp only[jU];exact hS.e,hS.w,hS.i,hS.v,hS.t⟩,qgy.2 fun y hy=>?_,h2,h3⟩;rcases jT hy with h | h
   .exact qgy.1 h1 y h
   .rw[h];split<;>omega
  .rw[if_neg hk0];by_cases hk1:x.kind=1
   .rw[if_pos hk1];rw[if_neg (by omega),hk1]at hm;obtain⟨hi,ht⟩:=qtf hm;generalize x.idx.toNat=n at *;have hnc:n<c.signals.length:=by rw[<-hS.t];exact hi
    have hS':Shp c ⟨s.ends,s.valves,s.inputs,s.values.set n true,s.timers.set n 2⟩:=⟨hS.e,hS.w,hS.i,by simp only[jU];exact hS.v,by simp only[jU];exact hS.t⟩
    refine qib.2 ⟨hc,hS',h1,qgy.2 fun y hy=>?_,fun k hk=>?_⟩
    .rcases jT hy with h | h
     .exact qgy.1 h2 y h
     .rw[h];omega
    .simp only[jU]at hk;have hkc:k<c.signals.length:=by rw[<-hS.t];exact hk
     rw[q1e hS' hkc];simp only[List.getElem_set];by_cases hkn:n=k
     .subst hkn;have hq:=h3 n hi;rw[q1e hS hkc,ht]at hq;simp only[if_true];have hkind:c.signals[n].kind=2:=by
       simp[tmB]at hq;exact hq.1
      rw[hkind];rfl
     .rw[if_neg hkn,if_neg hkn,<-q1e hS hkc];exact h3 k hk
   .rw[if_neg hk1];exact qib.2 ⟨hc,⟨hS.e,hS.w,by simp only[jU];exact hS.i,hS.v,hS.t⟩,h1,h2,h3⟩
theorem q4d{c:Ct}{s:Ste}{x:Evn}(hs:stE c s=0)(h:(qee c s x).2.2=0):stE c (qee c s x).1=0:=by
 unfold qee at h ⊢;split at h
 .cases h
 .rename_i h1;rw[if_neg h1];split at h
  .rename_i h2;rw[if_pos h2];unfold qjn at h ⊢;cases e:qiy c (qek s x)with
   | none=>rw[e]at h;cases h
   | some y =>simp only;exact qqd (qgh hs h1 h2) (show qiy c (qek s x)=some (y.1,y.2)from e)
  .cases h
theorem qyg{c:Ct}:∀{l:List Evn} {i:Nat} {r:Crs},stE c r.st=0->(qva c l i r).2.2=0->stE c (qva c l i r).1.st=0
 | [],_,_,h,_=>h
 | x :: l,i,r,hs,h=>by
  rw[qva]at h ⊢;by_cases h0:(qee c r.st x).2.2=0
  .rw[if_pos h0]at h ⊢;exact qyg (q4d hs h0) h
  .rw[if_neg h0]at h;exact absurd h h0
def qhq(c:Ct):Ste:=⟨List.replicate c.act.toNat 0,List.replicate c.act.toNat false,List.replicate c.inputs.length false,c.signals.map Sg.init,List.replicate c.signals.length 0⟩
def qeh(c:Ct):Ste:=qdp c (qhq c)
theorem quc{c:Ct}(hc:c.check=0):stE c (qhq c)=0:=by
 have hact:1<=c.act:=by
  unfold Ct.check at hc;split at hc
  .cases hc
  .omega
 have hS:Shp c (qhq c):=⟨by unfold qhq;rw[kD];omega,by unfold qhq;rw[kD];omega,by unfold qhq;rw[kD],by unfold qhq;rw[List.length_map],by unfold qhq;rw[kD]⟩
 refine qib.2 ⟨hc,hS,qgy.2 fun y hy=>?_,qgy.2 fun y hy=>?_,fun k hk=>?_⟩
 .rw[(List.mem_replicate.1 hy).2];omega
 .rw[(List.mem_replicate.1 hy).2];omega
 .have hkc:k<c.signals.length:=by rw[<-hS.t];exact hk
  rw[q1e hS hkc];unfold qhq;simp only[List.getElem_map,List.getElem_replicate];have hz:=q3e hc k _ (jA hkc);generalize c.signals[k]=x at *;by_cases h2:x.kind=2
  .have hi:x.init=false:=by
    cases hb:x.init with
    | false=>rfl
    | true =>
     exfalso;unfold q8v at hz;split at hz
     .split at hz
      .cases hz
      .split at hz
       .split at hz
        .rename_i h4;exact h4.2 hz
        .split at hz
         .cases hz
         .split at hz
          .cases hz
          .rw[if_pos (.inl ⟨by omega,.inr hb⟩)]at hz;cases hz
       .rename_i h4;exact h4 hz
     .rename_i h4;exact h4 hz
   rw[h2,hi];rfl
  .simp[tmB,h2]
theorem qdi{c:Ct}(hc:c.check=0):stE c (qeh c)=0:=qli (quc hc)
structure Rdy(c:Ct)(s:Ste):Prop where
 few:c.small=true
 st:stE c s=0
theorem Rdy.chk{c:Ct}{s:Ste}(h:Rdy c s):c.check=0:=(qih h.st).1
theorem Rdy.mid{c:Ct}{s:Ste}(h:Rdy c s):Mid c c.act.toNat:=qfx h.chk h.few
theorem Rdy.shp{c:Ct}{s:Ste}(h:Rdy c s):Shp c s:=(qih h.st).2
theorem Rdy.small{c:Ct}{s:Ste}(h:Rdy c s):s.small:=by obtain⟨h1,h2,h3,h4,h5⟩:=h.shp;have a1:=h.mid.hi;have a2:=h.mid.inp;have a3:=h.mid.sig;have a4:=h.mid.act;exact⟨by omega,by omega,by omega,by omega,by omega⟩
theorem Rdy.sig{c:Ct}{s:Ste}(h:Rdy c s):∀x∈c.signals,SigOk (qae s).length x:=by intro x hx;rw[qyq h.shp];have:=zzu h.chk h.few hx;exact⟨⟨this.non,this.on⟩,fun _=>⟨this.noff,this.off⟩⟩
theorem Rdy.pil{c:Ct}{s:Ste}(h:Rdy c s):Pil c c.act.toNat (qae s).length:=by rw[qyq h.shp];have:=qiz h.chk h.few;exact⟨this.plus,this.minus,qgy.1 this.pp,qgy.1 this.mm⟩
theorem Rdy.settle{c:Ct}{s t:Ste}{m:List Int}(h:Rdy c s)(hz:qby c s=some (t,m)):Rdy c t:=⟨h.few,qly h.st hz⟩
theorem Rdy.round{c:Ct}{s t:Ste}{m:List Int}(h:Rdy c s)(hz:qcf c s=some (t,m)):Rdy c t:=⟨h.few,qnj h.st hz⟩
structure Lin(N:Nat)(l:List Int):Prop where
 asc:Asc l
 b:∀x∈l,0<=x/\x<(N:Int)
theorem Lin.norm(N:Nat)(l:List Int):Lin N (norm N l):=⟨qor N l,fun _ hx=>(qlp.1 hx).2⟩
theorem Lin.self{N:Nat}{l:List Int}(h:Lin N l):Proofs.YtggbaapfbgjaeaaGreatDoor.norm N l=l:=zjj h.asc h.b
theorem zuo(N:Nat)(l:List Int):(norm N l).length<=N:=qig _ _ _
theorem Lin.len{N:Nat}{l:List Int}(h:Lin N l):l.length<=N:=by have:=zuo N l;rwa [h.self]at this
theorem Lin.mono{M N:Nat}{l:List Int}(h:Lin M l)(hMN:M<=N):Lin N l:=⟨h.asc,fun x hx=>by have:=h.b x hx;omega⟩
theorem Lin.mrg{N:Nat}{l m:List Int}(hl:Lin N l)(hm:Lin N m):mrg l m=Proofs.YtggbaapfbgjaeaaGreatDoor.norm N (l++m):=zoi hl.asc hm.asc hl.b hm.b
theorem Lin.nil(N:Nat):Lin N []:=⟨List.Pairwise.nil,by simp⟩
theorem qus{c:Ct}{N:Nat}:∀{d:Nat} {s:Ste} {l:List Int} {t:Ste} {m:List Int},qcy c N d s l=some (t,m)->Lin N m
 | 0,_,_,_,_,h=>by cases h
 | d+1,s,l,t,m,h=>by
  rw[qcy]at h;split at h
  .cases h;exact Lin.norm _ _
  .exact qus h
theorem qqi{c:Ct}{s t:Ste}{m:List Int}(h:qby c s=some (t,m)):Lin (qad c c.act.toNat) m:=qus h
theorem qwd(c:Ct)(s:Ste):Lin (qqq c) (qms c s):=by
 refine⟨?_,fun x hx=>?_⟩
 .unfold qms qsk Asc;rw[List.pairwise_map];refine List.Pairwise.imp ?_ ((List.pairwise_lt_range (n:=c.act.toNat)).filter _);intro a b h;omega
 .unfold qms at hx;obtain⟨j,h1,_,rfl⟩:=(zbp _ _ _ _).1 hx;unfold qqq;omega
theorem q1n{c:Ct}(h:Mid c c.act.toNat):qqq c<=200:=by have:=h.hi;have:=h.inp;have:=h.sig;unfold qqq qad;omega
theorem zeg{c:Ct}{s t:Ste}{m:List Int}(h:qcf c s=some (t,m)):Lin (qqq c) m:=by obtain⟨u,k,_,_,rfl⟩:=qjx h;exact Lin.norm _ _
theorem ev221{c:Ct}{s:Ste}(h:Rdy c s):ev pg (.call (fnq 221) [c.v,s.v] [])=some (rvq (.tup (q1b (qcf c s)++[.bool (qcf c s).isSome]))):=by
 cases hZ:qby c s with
 | none =>
  have h124:=ev240 c h.mid s h.small h.shp h.sig;have hr:qcf c s=none:=by unfold qcf;rw[hZ];rfl
  rw[hr];rw[hZ]at h124;simp[q1b]at h124;rw[qaa,pg221.1];simp[ir221,h124,q1b,qfa]
 | some x =>
  obtain⟨t,m⟩:=x;have ht:=h.settle hZ;have hm:=qqi hZ;have hN:=q1n h.mid;have h83:=ev221_some c h.mid s h.small h.shp h.sig hZ ht.small ht.shp ht.pil (by have:=hm.len;unfold qqq at hN;omega);have hr:qcf c s=some (qkf (qgq c t),norm (qqq c) (m++qms c t)):=by unfold qcf;rw[hZ];rfl
  rw[hr,h83];have e:mrg m (cfA c t c.act.toNat)=norm (qqq c) (m++qms c t):=Lin.mrg (hm.mono (by unfold qqq;omega)) (qwd c t);rw[e];rfl
theorem ev252(s:Ste)(hs:s.small):ev pg (.call (fnq 252) [s.v] [])=some { v:=znd s,st:=⟨[],z1n s⟩ }:=by have e1:=ev78 s.ends hs.e;have e2:=ev176 s.valves hs.w;have e3:=ev176 s.inputs hs.i;have e4:=ev176 s.values hs.v;have e5:=ev78 s.timers hs.t;rw[qaa,pg252.1];simp[qab,exT,qag,ir252,e1,e2,e3,e4,e5,qch,qel,qmj,qdz]
theorem ev211(s:Ste)(hs:s.small):ev pg (.call (fnq 211) [s.v] [])=some { v:=znd s,st:=⟨[],z1n s⟩ }:=by have e1:=ev78 s.ends hs.e;have e2:=ev176 s.valves hs.w;have e3:=ev176 s.inputs hs.i;have e4:=ev176 s.values hs.v;have e5:=ev78 s.timers hs.t;rw[qaa,pg211.1];simp[qab,exT,qag,ir211,e1,e2,e3,e4,e5,qch,qel,qmj,qdz]
def zvc(k:Int):V:=if k=0 then .fn 280 [] []else if k=1 then .fn 281 [] []else .fn 282 [] []
theorem zvd(x:Sg)(L:List Bool)(v:Bool)(t:Int)(hk:x.kind=0\/x.kind=1\/x.kind=2):ev pg (.call (zvc x.kind) [chg v t false,.bool (x.on.holds L),.bool (q3v x L)] [])=some (rvq (chg (qma x L v t).1 (qma x L v t).2 (x.on.holds L&&q3v x L))):=by
 have hoff:x.kind≠1->q3v x L=false:=fun h=>by unfold q3v;simp[h]
 have hoff1:x.kind=1->q3v x L=x.off.holds L:=fun h=>by unfold q3v;simp[h]
 unfold zvc qma;rcases hk with h | h | h
 .rw[if_pos h,hoff (by omega),ev280,if_neg (by omega),if_neg (by omega)];simp
 .rw[if_neg (by omega),if_pos h,hoff1 h,ev281,if_pos h];cases x.on.holds L<;>cases x.off.holds L<;>simp
 .have e:=ev282 v t false (x.on.holds L) false;rw[hoff (by omega)];simp only[h];simp;rw[e];cases x.on.holds L
  .simp
  .by_cases h0:t=0<;>simp[h0]
abbrev zwk(c:Ct)(s g b:Ste)(gq wq:Nat)(L:List Int)(k:Nat)(a:Nat×Nat):H:=zpx c s ⟨g.ends,g.valves,g.inputs,tv c g k,tt c g k⟩ b (qao g) gq wq L++[⟨0,.arr 1 ((qae g).map qfj)⟩,⟨0,.box [.fn 280 [] [],.fn 281 [] [],.fn 282 [] []]⟩,o0,⟨a.1,.arr a.2 ((bdL c g (qao g) k).map qbk)⟩]
def zvw(c:Ct)(g:Ste)(k:Nat)(a:Nat×Nat):Tm:=[bN 15,none,some (.bool false),some (.sl 31 0 0 0 0),bN 28,some (.sl 29 0 1 0 (qae g).length),bN 30,some (.sl 32 a.1 a.2 0 (bdL c g (qao g) k).length)]++zN 17++[some (.imm (c.signals.map Sg.row)),some (num c.signals.length),nN k]++zN 77
set_option maxHeartbeats 4000000 in
theorem z3k(c:Ct)(s g b:Ste)(gq wq:Nat)(L:List Int)(hs:g.small)(hS:Shp c g)(hn:c.signals.length<=128)(hF:qao g<=10000)(hok:∀x∈c.signals,SigOk (qae g).length x)(hkd:∀x∈c.signals,x.kind=0\/x.kind=1\/x.kind=2){st:St}(a0:Nat×Nat)(g0:a0.2=1\/a0.2=0)(h0:At (zvw c g 0 a0) (zwk c s g b gq wq L 0 a0) st):∃r,ev pg (.code (.going 33 L253_0) st)=some r/\∃a:Nat×Nat,(a.2=1\/a.2=0)/\qar (.exit 0) (zvw c g c.signals.length a) (zwk c s g b gq wq L c.signals.length a) r:=by
 refine qcg c.signals.length (zvw c g) (zwk c s g b gq wq L) (fun _ a=>a.2=1\/a.2=0) _ ?_ ?_ a0 g0 h0
 .rintro k ⟨gn,m⟩ f hf hk hG;have hk':(k:Int)<c.signals.length:=by omega
  have wk:=qbc k;have hkv:k<g.values.length:=by rw[hS.v];exact hk
  have hkt:k<g.timers.length:=by rw[hS.t];exact hk
  have hx:=hok _ (jH hk);have hrule:=zvd c.signals[k] (qae g) g.values[k] g.timers[k] (hkd _ (jH hk));have e1:=ev271 (qae g) c.signals[k].on hx.on.1 hx.on.2;have hlen:(qdg c g).length=c.signals.length:=qjf _ hS.v hS.t;have hkl:k<(qdg c g).length:=by omega
  have hget':(qdg c g)[k]=qma c.signals[k] (qae g) g.values[k] g.timers[k]:=by have:(qdg c g)[k]?=some (qma c.signals[k] (qae g) g.values[k] g.timers[k]):=qnx _ (jA hk) (jA hkv) (jA hkt);rw[jA hkl]at this;exact Option.some.inj this
  have l1:((qdg c g).map Prod.fst).length=g.values.length:=by rw[List.length_map,hlen,hS.v]
  have l2:((qdg c g).map Prod.snd).length=g.timers.length:=by rw[List.length_map,hlen,hS.t]
  have f1:=qki (A:=(qdg c g).map Prod.fst) (B:=g.values) l1 (k:=k) (by rw[List.length_map];exact hkl);have f2:=qki (A:=(qdg c g).map Prod.snd) (B:=g.timers) l2 (k:=k) (by rw[List.length_map];exact hkl);rw[List.getElem_map,hget']at f1 f2;have m1:=qlq (A:=(qdg c g).map Prod.fst) (B:=g.values) l1 (k:=k) (by rw[List.length_map];omega);have m2:=qlq (A:=(qdg c g).map Prod.snd) (B:=g.timers) l2 (k:=k) (by rw[List.length_map];omega);rw[l1]at m1;rw[l2]at m2;have n1:=qtb (A:=(qdg c g).map Prod.fst) (B:=g.values) l1 (k:=k) (by rw[List.length_map];exact hkl);have n2:=qtb (A:=(qdg c g).map Prod.snd) (B:=g.timers) l2 (k:=k) (by rw[List.length_map];exact hkl);rw[jA hkv]at n1;rw[jA hkt]at n2;have f3:=qnp (q7c c (qae g)) (qao g:Nat) k;have hb:q7c c (qae g) k=(c.signals[k].on.holds (qae g)&&q3v c.signals[k] (qae g)):=by unfold q7c;rw[jA hk];rfl
  rw[hb]at f3;have hsl:=qig (q7c c (qae g)) (qao g:Nat) k;unfold zvw zwk tv tt bdL;rw[<-f1,<-f2,f3];have e2:c.signals[k].kind=1->ev pg (.call (fnq 271) [c.signals[k].off.v,qdc (qae g)] [])=some (rvq (.bool (q3v c.signals[k] (qae g)))):=fun h=>by rw[ev271 (qae g) c.signals[k].off (hx.off h).1 (hx.off h).2];unfold q3v;simp[h]
  have hoff:c.signals[k].kind≠1->q3v c.signals[k] (qae g)=false:=fun h=>by unfold q3v;simp[h]
  generalize hv0:g.values[k]=v0 at *;generalize ht0:g.timers[k]=t0 at *;generalize mix ((qdg c g).map Prod.fst) g.values k=VV at *;generalize mix ((qdg c g).map Prod.snd) g.timers k=TT at *;generalize qsk (q7c c (qae g)) (qao g:Nat) k=BB at *;generalize qma c.signals[k] (qae g) v0 t0=p at *;generalize qao g=F at *;generalize hon:c.signals[k].on.holds (qae g)=on at *;generalize q3v c.signals[k] (qae g)=off at *;generalize qae g=LL at *;have hkV:k<VV.length:=by omega
  have hkT:k<TT.length:=by omega
  have v1:VV[k]=v0:=by rw[jA hkV]at n1;exact Option.some.inj n1
  have t1:TT[k]=t0:=by rw[jA hkT]at n2;exact Option.some.inj n2
  have hb1:(BB.length+1)*8<=140737488355328:=by omega
  have wF:=qam (n:=(F:Int)+k) (by omega) (by omega);have hmm:m=1\/m=0:=hG;obtain⟨p1,p2⟩:=p;unfold zvc at hrule;rcases hkd _ (jH hk)with h0 | h0 | h0
  .have h0b:(c.signals[k].kind==1)=false:=by rw[h0];rfl
   obtain rfl:=hoff (by omega);rw[if_pos h0,Bool.and_false]at hrule;rcases hmm with rfl | rfl<;>simp[qab,exT,qag,L253_0,hk,hk',wk,h0,e1,hrule,hkV,hkT,v1,t1,hf.ne]
  .rw[if_neg (by omega),if_pos h0]at hrule;have e2':=e2 h0;generalize hcf:(on&&off)=cf at *;rcases hmm with rfl | rfl<;>cases cf<;>simp[qab,exT,qag,L253_0,hk,hk',wk,h0,e1,e2',hrule,hkV,hkT,v1,t1,wF,hb1,hf.ne]
  .have h0b:(c.signals[k].kind==1)=false:=by rw[h0];rfl
   obtain rfl:=hoff (by omega);rw[if_neg (by omega),if_neg (by omega),Bool.and_false]at hrule;rcases hmm with rfl | rfl<;>simp[qab,exT,qag,L253_0,hk,hk',wk,h0,e1,hrule,hkV,hkT,v1,t1,hf.ne]
 .rintro⟨gn,m⟩ f hf hG;unfold zvw zwk;generalize bdL c g (qao g) c.signals.length=BB at *;have hmm:m=1\/m=0:=hG;rcases hmm with rfl | rfl<;>simp[L253_0,hf.ne]
end Go.Proofs.YtggbaapfbgjaeaaGreatDoor
