/- Gates are computed, by settle; the rules. What is at rest. Behind events states are right; the first state. A round of the plant, by the reference: all that is needed of a right state of a small control. -/
import Derived.Test.YtddeacahiilikaaGreatMLn1
import Derived.KernelRfl
import Derived.Test.YtddeacahiilikaaGreatMSv1
set_option linter.all false
namespace Go.Proofs.YtddeacahiilikaaGreat
open Go Go.Am Go.Proofs
set_option maxRecDepth 100000
abbrev zgq(c:Ct)(s u b:Ste)(gq wq:Nat)(L:List Int)(k:Nat):H:=zjb c s (stK c u k) b (qal u) gq wq L++[⟨0,.arr 1 ((qbh c (qal u) k (qag u)).map qia)⟩]
def zkf(c:Ct)(N k:Nat):Tm:=[some (.bptr 15 0),none,some (.sl 29 0 1 0 N),none,none,none,none,none,none,none,none,none,some (.imm (c.signals.map Sg.row)),some (num c.signals.length),some (num k)]++List.replicate 29 none
set_option maxHeartbeats 2000000 in
theorem z7b(c:Ct)(s u b:Ste)(gq wq:Nat)(L:List Int)(hs:u.small)(hS:Shp c u)(hn:c.signals.length<=128)(hF:qal u<=10000)(hok:∀x∈c.signals,x.on.nodes<=256/\x.on.err (qag u).length=0){st:St}(h0:At (zkf c (qag u).length 0) (zgq c s u b gq wq L 0) st):∃r,ev pg (.code (.going 30 L299_0) st)=some r/\qai (.exit 0) (zkf c (qag u).length c.signals.length) (zgq c s u b gq wq L c.signals.length) r:=by
 refine qfd c.signals.length (zkf c (qag u).length) (zgq c s u b gq wq L) _ ?_ ?_ h0
 .intro k f hf hk
  have hk':(k:Int)<c.signals.length:=by omega
  have wk:=qab (n:=(k:Int)+1) (by omega) (by omega)
  have hsc:=zib c u k hk
  obtain⟨g1,g2⟩:=hok _ (jH hk)
  have hLl:(qag (stK c u k)).length=(qag u).length:=by rw[qkd,qfl]
  have h165:=ev302 (qag (stK c u k)) c.signals[k].on g1 (by rw[hLl];exact g2)
  have hvl:=zdl c u k
  have hkv:k<u.values.length:=by rw[hS.v];exact hk
  have hgt:qbh c (qal u) (k+1) (qag u)=if c.signals[k].kind=0 then(qbh c (qal u) k (qag u)).set (qal u+k) (c.signals[k].on.holds (qag (stK c u k)))else qbh c (qal u) k (qag u):=by
   rw[qbh,qfw,jA hk,qkd]
  have hst:∀j,stK c u j=⟨u.ends,u.valves,u.inputs,(stK c u j).values,u.timers⟩:=fun j=>rfl
  have hlt:(qbh c (qal u) k (qag u)).length=(qag u).length:=qfl _ _ _ _
  have hFk:qal u+k<(qag u).length:=by
   rw[qez];unfold qal;omega
  rw[qkd]at h165 hgt
  unfold zgq
  rw[hst (k+1),hst k,hsc,hgt,qkd]
  unfold zkf
  generalize qbh c (qal u) k (qag u)=G at *
  generalize hv:c.signals[k].on.holds G=v at *
  generalize (stK c u k).values=W at *
  generalize qal u=F at *
  have hkW:k<W.length:=by omega
  have wF:=qab (n:=(F:Int)+k) (by omega) (by omega)
  have pF:(0:Int)<=(F:Int)+k:=by omega
  have tF:((F:Int)+k).toNat=F+k:=by omega
  generalize (qag u).length=N at *
  by_cases h0:c.signals[k].kind=0
  .have hFk':F+k<G.length:=by omega
   simp[qaa,exT,qad,L299_0,hk,hk',wk,h0,hlt.symm,h165,hkW,hkv,hFk',hvl,wF,pF,tF,hf.ne]
  .have h0b:(c.signals[k].kind==0)=false:=by simpa using h0
   simp[L299_0,hk,hk',wk,h0,h0b,hf.ne]
 .intro f hf
  unfold zkf zgq
  simp[L299_0,hf.ne]
set_option maxHeartbeats 1000000 in
theorem ev299(c:Ct)(s u b:Ste)(gq wq:Nat)(L:List Int)(hs:u.small)(hS:Shp c u)(hn:c.signals.length<=128)(hF:qal u<=10000)(h1:1<=u.ends.length)(hok:∀x∈c.signals,x.on.nodes<=256/\x.on.err (qag u).length=0):ev pg (.call (.fn 299 [] []) [.bptr 15 0] (zjb c s u b (qal u) gq wq L))=some { v:=.tup [],st:=⟨[],zjb c s (qfc c u) b (qal u) gq wq L⟩ }:=by
 have hl:=@z7b c s u b gq wq L hs hS hn hF hok
 have e163:=ev300 c s u b (qal u) gq wq L hs h1
 have hst:∀j,stK c u j=⟨u.ends,u.valves,u.inputs,(stK c u j).values,u.timers⟩:=fun j=>rfl
 have hvl:=zdl c u c.signals.length
 unfold zgq at hl
 rw[zic,zdk,show qbh c (qal u) 0 (qag u)=qag u from rfl]at hl
 rw[zdk]at hvl
 have hg:qfc c u=⟨u.ends,u.valves,u.inputs,(qfc c u).values,u.timers⟩:=rfl
 rw[hg]at hl ⊢
 generalize (qfc c u).values=W at *
 generalize qbh c (qal u) c.signals.length (qag u)=G at *
 generalize qal u=F at *
 generalize qag u=LL at *
 simp at e163
 rw[qac,pg299]
 simp[ir299,e163,qaf]
 generalize hr:ev pg (.code (.going _ L299_0) _)=o
 obtain⟨r,rfl,f,hf,rfl⟩:∃r,o=some r/\_:=by rw[<-hr];exact hl (by simp[zkf])
 clear hr
 simp[zkf]
abbrev chg(v:Bool)(t:Int)(b:Bool):V:=.agg [.bool v,num t,.bool b]
theorem ev308(v:Bool)(t:Int)(b on off:Bool):ev pg (.call (.fn 308 [] []) [chg v t b,.bool on,.bool off] [])=some { v:=chg v t b,st:=⟨[],[]⟩ }:=by
 rw[qac,pg308]
 simp[ir308]
theorem ev309(v:Bool)(t:Int)(b on off:Bool):ev pg (.call (.fn 309 [] []) [chg v t b,.bool on,.bool off] [])=some { v:=chg (if on != off then on else v) t (on&&off),st:=⟨[],[]⟩ }:=by
 rw[qac,pg309]
 cases on<;>cases off<;>simp[ir309]
theorem ev310(v:Bool)(t:Int)(b on off:Bool):ev pg (.call (.fn 310 [] []) [chg v t b,.bool on,.bool off] [])=some { v:=if on=true then chg v (if t=0 then 1 else t) b else chg false 0 false,st:=⟨[],[]⟩ }:=by
 rw[qac,pg310]
 cases on with
 | false=>simp[ir310]
 | true =>
  by_cases h:t=0
  .simp[ir310,h]
  .have hb:(t==0)=false:=by simpa using h
   simp[ir310,h,hb]
abbrev zxi:V:=.agg [.fn 308 [] [],.fn 309 [] [],.fn 310 [] []]
theorem ev301:ev pg (.call (.fn 301 [] []) [] [])=some { v:=zxi,st:=⟨[],[]⟩ }:=by
 rw[qac,pg301]
 simp[ir301]
theorem qvj(s:Ste):qkm s s=true:=qii.2 rfl
theorem qpz{c:Ct}:∀{d:Nat} {s:Ste} {l:List Int} {t:Ste} {m:List Int},qhg c d s l=some (t,m)->∃a,qdv c t=some (t,a)
 | 0,_,_,_,_,h=>by cases h
 | d+1,s,l,t,m,h=>by
  rw[qhg]at h
  cases e:qdv c s with
  | none=>rw[e]at h;cases h
  | some x =>
   rw[e]at h
   simp only at h
   split at h
   .rename_i hs
    cases h
    have:=qii.1 hs
    exact⟨x.2,by rw[e,this]⟩
   .exact qpz h
theorem qsn{c:Ct}{s t:Ste}{m:List Int}(h:qmh c s=some (t,m)):∃a,qdv c t=some (t,a):=qpz h
theorem q8d{c:Ct}{t:Ste}{a:List Int}(h:qdv c t=some (t,a)):qmh c t=some (t,norm (qjv c) a):=by
 unfold qmh
 rw[qhg,h]
 simp only[qvj,if_true,List.nil_append]
theorem qoa{c:Ct}{N:Nat}:∀{d:Nat} {s:Ste} {l:List Int} {t:Ste} {m:List Int},qfg c N d s l=some (t,m)->t.ends=s.ends/\t.valves=s.valves/\t.inputs=s.inputs
 | 0,_,_,_,_,h=>by cases h
 | d+1,s,l,t,m,h=>by
  rw[qfg]at h
  split at h
  .cases h;exact⟨rfl,rfl,rfl⟩
  .exact qoa (s:=qmf c s) h
theorem q0s{c:Ct}{s t:Ste}{m:List Int}(h:qde c s=some (t,m)):t.ends=s.ends/\t.valves=s.valves/\t.inputs=s.inputs:=qoa h
theorem q0i{c:Ct}{s t:Ste}{a:List Int}(h:qdv c s=some (t,a)):∃u m,qde c s=some (u,m)/\t=qmz (qpi c u)/\a=norm (qjv c) (m++qly c u):=by
 unfold qdv at h
 cases e:qde c s with
 | none=>rw[e]at h;cases h
 | some x =>
  rw[e]at h
  cases h
  exact⟨x.1,x.2,rfl,rfl,rfl⟩
theorem qxl{c:Ct}{s t:Ste}{a:List Int}(h:qdv c s=some (t,a)):t.inputs=s.inputs:=by
 obtain⟨u,m,hu,rfl,_⟩:=q0i h
 exact(q0s hu).2.2
theorem qnu{c:Ct}:∀{d:Nat} {s:Ste} {l:List Int} {t:Ste} {m:List Int},qhg c d s l=some (t,m)->t.inputs=s.inputs
 | 0,_,_,_,_,h=>by cases h
 | d+1,s,l,t,m,h=>by
  rw[qhg]at h
  cases e:qdv c s with
  | none=>rw[e]at h;cases h
  | some x =>
   rw[e]at h
   simp only at h
   split at h
   .cases h;rfl
   .rw[qnu h,qxl (show qdv c s=some (x.1,x.2)from e)]
theorem q0h{c:Ct}{s t:Ste}{m:List Int}(h:qmh c s=some (t,m)):t.inputs=s.inputs:=qnu h
structure Evn where
 kind:Int
 idx:Int
 val:Bool
abbrev Evn.row(x:Evn):List V:=[num x.kind,num x.idx,.bool x.val]
def qug(a b:Ste)(i:Nat):Option (Int×Bool):=match a.ends[i]?,b.ends[i]? with
 | some x,some y=>if(y=1\/y=3)/\x≠y then some (i,y==1)else none
 | _,_=>none
def qgb(a b:Ste):List (Int×Bool):=(List.range a.ends.length).filterMap (qug a b)
def qsj(s:Ste)(k:Int)(i:Nat):Bool:=if k=0 then((s.ends[i]?).map fun e=>e==1||e==3).getD false else((s.timers[i]?).map fun t=>t==1).getD false
def q2h(s:Ste)(x:Evn):Bool :=
 if x.idx<0 then false
 else if x.kind=2 then((s.inputs[x.idx.toNat]?).map fun v=>v != x.val).getD false
 else qsj s x.kind x.idx.toNat
def qfm(s:Ste)(x:Evn):Ste :=
 if x.kind=0 then⟨s.ends.set x.idx.toNat (if s.ends[x.idx.toNat]?=some 1 then 2 else 0),s.valves,s.inputs,s.values,s.timers⟩
 else if x.kind=1 then⟨s.ends,s.valves,s.inputs,s.values.set x.idx.toNat true,s.timers.set x.idx.toNat 2⟩
 else⟨s.ends,s.valves,s.inputs.set x.idx.toNat x.val,s.values,s.timers⟩
def qjt(c:Ct)(s:Ste):Ste×List Int×Int:=match qmh c s with
 | some x=>(x.1,x.2,0)
 | none=>(zeroS,[],21)
def qax(c:Ct)(s:Ste)(x:Evn):Ste×List Int×Int :=
 if x.kind<0\/2<x.kind then(zeroS,[],1)else if q2h s x=true then qjt c (qfm s x)else(zeroS,[],14)
structure Crs where
 st:Ste
 strokes:List (List (Int×Bool))
 conf:List Int
def q3k:Crs:=⟨zeroS,[],[]⟩
def zsl(c:Ct):List Evn->Nat->Crs->Crs×Int×Int
 | [],_,r=>(r,0,0)
 | x :: l,i,r=>if(qax c r.st x).2.2=0 then zsl c l (i+1) ⟨(qax c r.st x).1,r.strokes++[qgb r.st (qax c r.st x).1],norm (qjv c) (r.conf++(qax c r.st x).2.1)⟩else(q3k,i,(qax c r.st x).2.2)
theorem q7t{s:Ste}{i:Nat}(h:qsj s 1 i=true):∃hi:i<s.timers.length,s.timers[i]=1:=by
 unfold qsj at h
 rw[if_neg (by omega)]at h
 by_cases hi:i<s.timers.length
 .rw[jA hi]at h
  simp at h
  exact⟨hi,h⟩
 .rw[jX (by omega)]at h
  simp at h
theorem qgq{c:Ct}{s:Ste}{x:Evn}(hs:stE c s=0)(hk:¬(x.kind<0\/2<x.kind))(hm:q2h s x=true):stE c (qfm s x)=0:=by
 obtain⟨hc,hS,h1,h2,h3⟩:=qgj.1 hs
 unfold q2h at hm
 split at hm
 .cases hm
 .unfold qfm
  by_cases hk0:x.kind=0
  .rw[if_pos hk0]
   refine qgj.2 ⟨hc,⟨by simp only[jU];exact hS.e,hS.w,hS.i,hS.v,hS.t⟩,qfj.2 fun y hy=>?_,h2,h3⟩
   rcases jT hy with h | h
   .exact qfj.1 h1 y h
   .rw[h];split<;>omega
  .rw[if_neg hk0]
   by_cases hk1:x.kind=1
   .rw[if_pos hk1]
    rw[if_neg (by omega),hk1]at hm
    obtain⟨hi,ht⟩:=q7t hm
    generalize x.idx.toNat=n at *
    have hnc:n<c.signals.length:=by rw[<-hS.t];exact hi
    have hS':Shp c ⟨s.ends,s.valves,s.inputs,s.values.set n true,s.timers.set n 2⟩:=⟨hS.e,hS.w,hS.i,by simp only[jU];exact hS.v,by simp only[jU];exact hS.t⟩
    refine qgj.2 ⟨hc,hS',h1,qfj.2 fun y hy=>?_,fun k hk=>?_⟩
    .rcases jT hy with h | h
     .exact qfj.1 h2 y h
     .rw[h];omega
    .simp only[jU]at hk
     have hkc:k<c.signals.length:=by rw[<-hS.t];exact hk
     rw[qvr hS' hkc]
     simp only[List.getElem_set]
     by_cases hkn:n=k
     .subst hkn
      have hq:=h3 n hi
      rw[qvr hS hkc,ht]at hq
      simp only[if_true]
      have hkind:c.signals[n].kind=2:=by
       simp[tmB]at hq
       exact hq.1
      rw[hkind]
      rfl
     .rw[if_neg hkn,if_neg hkn,<-qvr hS hkc]
      exact h3 k hk
   .rw[if_neg hk1]
    exact qgj.2 ⟨hc,⟨hS.e,hS.w,by simp only[jU];exact hS.i,hS.v,hS.t⟩,h1,h2,h3⟩
theorem qyh{c:Ct}{s:Ste}{x:Evn}(hs:stE c s=0)(h:(qax c s x).2.2=0):stE c (qax c s x).1=0:=by
 unfold qax at h ⊢
 split at h
 .cases h
 .rename_i h1
  rw[if_neg h1]
  split at h
  .rename_i h2
   rw[if_pos h2]
   unfold qjt at h ⊢
   cases e:qmh c (qfm s x)with
   | none=>rw[e]at h;cases h
   | some y =>
    simp only
    exact qmi (qgq hs h1 h2) (show qmh c (qfm s x)=some (y.1,y.2)from e)
  .cases h
def qie(c:Ct):Ste:=⟨List.replicate c.act.toNat 0,List.replicate c.act.toNat false,List.replicate c.inputs.length false,c.signals.map Sg.init,List.replicate c.signals.length 0⟩
def qmp(c:Ct):Ste:=qfc c (qie c)
theorem qpn{c:Ct}(hc:c.check=0):stE c (qie c)=0:=by
 have hact:1<=c.act:=by
  unfold Ct.check at hc
  split at hc
  .cases hc
  .omega
 have hS:Shp c (qie c):=⟨by unfold qie;rw[kB];omega,by unfold qie;rw[kB];omega,by unfold qie;rw[kB],by unfold qie;rw[List.length_map],by unfold qie;rw[kB]⟩
 refine qgj.2 ⟨hc,hS,qfj.2 fun y hy=>?_,qfj.2 fun y hy=>?_,fun k hk=>?_⟩
 .rw[(List.mem_replicate.1 hy).2];omega
 .rw[(List.mem_replicate.1 hy).2];omega
 .have hkc:k<c.signals.length:=by rw[<-hS.t];exact hk
  rw[qvr hS hkc]
  unfold qie
  simp only[List.getElem_map,List.getElem_replicate]
  have hz:=qxo hc k _ (jA hkc)
  generalize c.signals[k]=x at *
  by_cases h2:x.kind=2
  .have hi:x.init=false:=by
    cases hb:x.init with
    | false=>rfl
    | true =>
     exfalso
     unfold q2y at hz
     split at hz
     .split at hz
      .cases hz
      .split at hz
       .split at hz
        .rename_i h4;exact h4.2 hz
        .split at hz
         .cases hz
         .split at hz
          .cases hz
          .rw[if_pos (.inl ⟨by omega,.inr hb⟩)]at hz
           cases hz
       .rename_i h4;exact h4 hz
     .rename_i h4;exact h4 hz
   rw[h2,hi]
   rfl
  .simp[tmB,h2]
theorem qhr{c:Ct}(hc:c.check=0):stE c (qmp c)=0:=qma (qpn hc)
structure Rdy(c:Ct)(s:Ste):Prop where
 few:c.small=true
 st:stE c s=0
theorem Rdy.chk{c:Ct}{s:Ste}(h:Rdy c s):c.check=0:=(qll h.st).1
theorem Rdy.mid{c:Ct}{s:Ste}(h:Rdy c s):Mid c c.act.toNat:=qrx h.chk h.few
theorem Rdy.shp{c:Ct}{s:Ste}(h:Rdy c s):Shp c s:=(qll h.st).2
theorem Rdy.small{c:Ct}{s:Ste}(h:Rdy c s):s.small:=by
 obtain⟨h1,h2,h3,h4,h5⟩:=h.shp
 have a1:=h.mid.hi
 have a2:=h.mid.inp
 have a3:=h.mid.sig
 have a4:=h.mid.act
 exact⟨by omega,by omega,by omega,by omega,by omega⟩
theorem Rdy.sig{c:Ct}{s:Ste}(h:Rdy c s):∀x∈c.signals,SigOk (qag s).length x:=by
 intro x hx
 rw[q0t h.shp]
 have:=z7n h.chk h.few hx
 exact⟨⟨this.non,this.on⟩,fun _=>⟨this.noff,this.off⟩⟩
theorem Rdy.pil{c:Ct}{s:Ste}(h:Rdy c s):Pil c c.act.toNat (qag s).length:=by
 rw[q0t h.shp]
 have:=qso h.chk h.few
 exact⟨this.plus,this.minus,qfj.1 this.pp,qfj.1 this.mm⟩
theorem Rdy.settle{c:Ct}{s t:Ste}{m:List Int}(h:Rdy c s)(hz:qde c s=some (t,m)):Rdy c t:=⟨h.few,qob h.st hz⟩
theorem Rdy.round{c:Ct}{s t:Ste}{m:List Int}(h:Rdy c s)(hz:qdv c s=some (t,m)):Rdy c t:=⟨h.few,qqa h.st hz⟩
structure Lin(N:Nat)(l:List Int):Prop where
 asc:Asc l
 b:∀x∈l,0<=x/\x<(N:Int)
theorem Lin.norm(N:Nat)(l:List Int):Lin N (norm N l):=⟨qni N l,fun _ hx=>(qlb.1 hx).2⟩
theorem Lin.self{N:Nat}{l:List Int}(h:Lin N l):Proofs.YtddeacahiilikaaGreat.norm N l=l:=zco h.asc h.b
theorem zrv(N:Nat)(l:List Int):(norm N l).length<=N:=qra _ _ _
theorem Lin.len{N:Nat}{l:List Int}(h:Lin N l):l.length<=N:=by
 have:=zrv N l
 rwa [h.self]at this
theorem Lin.mono{M N:Nat}{l:List Int}(h:Lin M l)(hMN:M<=N):Lin N l:=⟨h.asc,fun x hx=>by have:=h.b x hx;omega⟩
theorem Lin.nil(N:Nat):Lin N []:=⟨List.Pairwise.nil,by simp⟩
theorem qqf{c:Ct}{N:Nat}:∀{d:Nat} {s:Ste} {l:List Int} {t:Ste} {m:List Int},qfg c N d s l=some (t,m)->Lin N m
 | 0,_,_,_,_,h=>by cases h
 | d+1,s,l,t,m,h=>by
  rw[qfg]at h
  split at h
  .cases h;exact Lin.norm _ _
  .exact qqf h
theorem qsx{c:Ct}{s t:Ste}{m:List Int}(h:qde c s=some (t,m)):Lin (qaj c c.act.toNat) m:=qqf h
theorem qyv(c:Ct)(s:Ste):Lin (qjv c) (qly c s):=by
 refine⟨?_,fun x hx=>?_⟩
 .unfold qly qxn Asc
  rw[List.pairwise_map]
  refine List.Pairwise.imp ?_ ((List.pairwise_lt_range (n:=c.act.toNat)).filter _)
  intro a b h
  omega
 .unfold qly at hx
  obtain⟨j,h1,_,rfl⟩:=(q5m _ _ _ _).1 hx
  unfold qjv
  omega
theorem qoh{c:Ct}(h:Mid c c.act.toNat):qjv c<=200:=by
 have:=h.hi
 have:=h.inp
 have:=h.sig
 unfold qjv qaj
 omega
end Go.Proofs.YtddeacahiilikaaGreat
