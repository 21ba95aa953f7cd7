/- The plant comes to rest, by the program. Quiet, by the program. Gates are computed, by control; the first state. -/
import Derived.Test.YtlhciedghbmjjaaGreatQu2
import Derived.KernelRfl
set_option linter.all false
namespace Go.Proofs.YtlhciedghbmjjaaGreat
open Go Go.Am Go.Proofs
set_option maxRecDepth 100000
theorem zau{N:Nat}{l m:List Int}:norm N (l++norm N m)=norm N (l++m) :=
 qxe fun x h1 h2=>by rw[jQ,jQ,qkm];exact⟨fun a=>a.elim .inl (fun b=>.inr b.1),fun a=>a.elim .inl (fun b=>.inr ⟨b,h1,h2⟩)⟩
theorem qvq{c:Ct}{s:Ste}:qcu c s=none<->qce c s=none:=by
 unfold qcu
 cases qce c s<;>simp
abbrev h16(c:Ct)(k:Nat)(a:Ste×List Int):H:=[⟨0,.box c.cells⟩,⟨0,.box a.1.cells⟩,o0,o0,o0,o0,o0,⟨0,.box (q0o 2)⟩,o0,ob0 k]
def T16(k:Nat)(a:Ste×List Int):Tm:=[none,none,some (.bptr 0 0),some (.bptr 1 0),some (.bptr 7 0),some (.sl 8 0 0 0 0),some (num 0),none,some (sl0 k a.2),none,none,none,none,none,none,none,none,none,none,some (num k)]++List.replicate 23 none
def z3r(m:List Int):Tm:=[none,none,none,none,some (.bptr 7 0),some (qbx m),some (num 0)]++List.replicate 36 none
abbrev jfc(c:Ct)(k:Nat)(s t:Ste):H:=[⟨0,.box c.cells⟩,⟨0,.box s.cells⟩,o0,o0,o0,o0,o0,⟨0,.box (q0o 16)⟩,o0,ob0 k,o0,o0,o0,o0,o0,⟨0,.box t.cells⟩,o0,o0,o0,o0,o0]
def z9n:Tm:=[none,none,none,none,some (.bptr 7 0),some .nils,some (num 21)]++List.replicate 36 none
def zrv(c:Ct)(Z:Option (Ste×List Int))(r:R):Prop:=match Z with
 | some (t,m)=>qag .ret (z3r m) (jep c t) r
 | none=>(∃k s t,qag .ret z9n (jfc c k s t) r)\/∃a,qag (.exit 0) (T16 65 a) (h16 c 65 a) r
theorem zjj{c:Ct}{t:Ste}{m:List Int}(hm:Lin (qak c c.act.toNat) m):∀x∈m++qls c t,0<=x/\x<(qfs c:Nat):=by
 intro x hx
 rcases jQ.1 hx with h | h
 .exact(hm.mono (by unfold qfs;omega)).b x h
 .exact(qte c t).b x h
set_option maxHeartbeats 1000000 in
theorem jez{c:Ct}{s:Ste}(hs:Rdy c s){st:St}(h0:At (T16 0 (s,[])) (h16 c 0 (s,[])) st):∃r,ev pg (.code (.going 10 L54_0) st)=some r/\zrv c (qfr c s) r:=by
 generalize hR:qfr c s=Z
 refine qbn 65 T16 (h16 c) (G86 c Z) _ ?_ ?_ (s,[]) ⟨hR,hs,Lin.nil _,fun _=>rfl⟩ h0
 .rintro k ⟨t,l⟩ f hf hk hG
  have hgo:=hG.go
  have hrd:=hG.rdy
  have hl:=hG.lin
  have hn:=hG.nil
  simp only at hgo hrd hl hn
  have hk':(k:Int)<65:=by omega
  have wk:=qab (n:=(k:Int)+1) (by omega) (by omega)
  have w1:IntKind.i64.wrap 1=1:=by decide
  have hN:=qhy hrd.mid
  rw[show 65-k=(64-k)+1 by omega,qgq]at hgo
  cases hZ:qce c t with
  | none =>
   have e46:=ev89_none hrd hZ
   rw[qvq.2 hZ]at hgo
   simp only at hgo
   subst hgo
   simp[T16,L54_0,hk',e46,hf.ne]
   exact .inl ⟨k,t,zeroS,by simp[z9n,hf.ne,zeroS,zml]⟩
  | some x =>
   obtain⟨v,m⟩:=x
   have e46:=ev89_some hrd hZ
   have hrv:qcu c t=some (qkc (qik c v),norm (qfs c) (m++qls c v)):=by unfold qcu;rw[hZ];rfl
   rw[hrv]at hgo
   simp only at hgo
   have hru:=hrd.round hrv
   have hml:=qns hZ
   have hin:=zjj (t:=v) hml
   have hmn:=hml.len
   have hcn:=(qte c v).len
   have hln:=hl.len
   have e54:=ev59 (qfs c) l (m++qls c v) (by omega) (by simp;unfold qfs at hN hcn;omega) (fun x hx=>(jQ.1 hx).elim (hl.b x) (hin x))
   rw[zau]at hgo
   have hl':Lin (qfs c) (norm (qfs c) (l++(m++qls c v))):=Lin.norm _ _
   have e47:=ev90 (qkc (qik c v)) t hru.small
   rw[qqt]at e47
   generalize norm (qfs c) (l++(m++qls c v))=p at *
   generalize m++qls c v=q at *
   generalize qkc (qik c v)=u at *
   by_cases hst:qic t u=true
   .rw[if_pos hst]at hgo
    rw[hst]at e47
    subst hgo
    obtain rfl:=qia.1 hst
    unfold T16 sl0 h16 ob0
    by_cases hk0:k=0
    .subst hk0
     rw[hn rfl]at e54
     have e54':ev pg (.call (.fn 59 [] []) [.imm [],qbx q] [])=_:=e54
     simp[L54_0,e46,e54',e47,hf.ne]
     simp[zrv,z3r,hf.ne]
    .simp[L54_0,hk0,hk',e46,e54,e47,hf.ne]
     simp[zrv,z3r,hf.ne]
   .have hsf:qic t u=false:=by simpa using hst
    rw[if_neg hst]at hgo
    rw[hsf]at e47
    have hG':G86 c Z (k+1) (u,p):=⟨by rw[<-hgo,show 65-(k+1)=64-k by omega],hru,hl',by omega⟩
    unfold T16 sl0 h16 ob0
    by_cases hk0:k=0
    .subst hk0
     rw[hn rfl]at e54
     have e54':ev pg (.call (.fn 59 [] []) [.imm [],qbx q] [])=_:=e54
     simp[L54_0,e46,e54',e47,w1,hf.ne]
     exact⟨u,p,hG',by simp⟩
    .simp[L54_0,hk0,hk',wk,e46,e54,e47,hf.ne]
     exact⟨u,p,hG',by simp⟩
 .rintro⟨t,l⟩ f hf hG
  have hgo:=hG.go
  simp only[Nat.sub_self,qgq]at hgo
  subst hgo
  simp[T16,L54_0]
  exact .inr ⟨(t,l),by simp[T16,hf.ne]⟩
theorem ev54(c:Ct)(s:Ste)(hfew:c.small=true)(hs:s.small):ev pg (.call (.fn 54 [] []) [c.v,s.v] [])=some { v:=zam (qse c s),st:=⟨[],[]⟩ }:=by
 have e45:=ev88 c s hfew hs
 unfold qse
 rw[qac,pg54]
 by_cases h:stE c s=0
 .have hl:=@jez c s ⟨hfew,h⟩
  rw[if_pos h]
  rw[h]at e45
  unfold qhj
  generalize qfr c s=Z at *
  simp[ir54,e45,qaf]
  generalize hr:ev pg (.code (.going _ L54_0) _)=o
  obtain⟨r,rfl,hQ⟩:∃r,o=some r/\_:=by rw[<-hr];exact hl (by simp[T16,sl0,ob0])
  clear hr
  cases Z with
  | none =>
   rcases hQ with⟨k,s,t,f,hf,rfl⟩ | ⟨⟨s,l⟩,f,hf,rfl⟩
   .simp[z9n,zeroS]
   .simp[T16,zeroS,ob0]
  | some p =>
   obtain⟨t,m⟩:=p
   obtain⟨f,hf,rfl⟩:=hQ
   simp[z3r]
 .rw[if_neg h]
  have hb:(stE c s==0)=false:=by simpa using h
  generalize stE c s=e at *
  simp[ir54,e45,h,hb,zeroS]
theorem ev91(c:Ct)(s:Ste)(hfew:c.small=true)(hs:s.small):ev pg (.call (.fn 91 [] []) [c.v,s.v] [])=some { v:=.tup [.bool (q7j c s).1,num (q7j c s).2],st:=⟨[],[]⟩ }:=by
 have e45:=ev88 c s hfew hs
 unfold q7j
 rw[qac,pg91]
 by_cases h:stE c s=0
 .have hR:Rdy c s:=⟨hfew,h⟩
  rw[if_pos h]
  rw[h]at e45
  unfold q2w
  cases hZ:qce c s with
  | none =>
   have e46:=ev89_none hR hZ
   rw[qvq.2 hZ]
   simp[ir91,e45,e46,zeroS]
  | some x =>
   obtain⟨v,m⟩:=x
   have e46:=ev89_some hR hZ
   have hrv:qcu c s=some (qkc (qik c v),norm (qfs c) (m++qls c v)):=by unfold qcu;rw[hZ];rfl
   have e47:=ev90 (qkc (qik c v)) s (hR.round hrv).small
   rw[qqt]at e47
   rw[hrv]
   simp only[Option.map_some,Option.getD_some]
   generalize qic s (qkc (qik c v))=b at *
   generalize qkc (qik c v)=u at *
   simp[ir91,e45,e46,e47]
 .rw[if_neg h]
  have hb:(stE c s==0)=false:=by simpa using h
  generalize stE c s=e at *
  simp[ir91,e45,h,hb]
theorem ev55(c:Ct)(s:Ste)(hfew:c.small=true)(hs:s.small):ev pg (.call (.fn 55 [] []) [c.v,s.v] [])=some { v:=num (quE c s),st:=⟨[],[]⟩ }:=by
 have e11:=ev91 c s hfew hs
 unfold q7j at e11
 unfold quE
 rw[qac,pg55]
 by_cases h:stE c s=0
 .rw[if_pos h]at e11 ⊢
  simp only at e11
  cases hb:q2w c s<;>rw[hb]at e11<;>simp[ir55,e11]
 .rw[if_neg h]at e11 ⊢
  simp only at e11
  have hb:(stE c s==0)=false:=by simpa using h
  generalize stE c s=e at *
  simp[ir55,e11,h,hb]
theorem jfe{c:Ct}{A:Nat}(hM:Mid c A)(s:Ste)(hs:s.small)(hS:Shp c s)(hok:q4z c (qak c A)){st:St}(h0:At (T50 c s 0) (h50 c s (qbk c (qao s) 0 (qad s))) st):∃r,ev pg (.code (.going 20 L87_0) st)=some r/\qag (.exit 0) (T50 c s c.signals.length) (h50 c s (qxi c s)) r:=by
 refine qcd c.signals.length (T50 c s) (fun k=>h50 c s (qbk c (qao s) k (qad s))) _ ?_ ?_ h0
 .intro k f hf hk
  have hsig:=hM.sig
  have hk':(k:Int)<c.signals.length:=by omega
  have wk:=qab (n:=(k:Int)+1) (by omega) (by omega)
  have h84:=ev125 hM
  have hlen:=qdg s
  have hgl:=qfk c (qao s) (qad s) k
  have hA:s.ends.length=A:=by have:=hS.e;have:=hM.act;omega
  have hF:qao s=qam c A:=by unfold qam;rw[qao,hA,hS.i]
  have hN:(qad s).length=qak c A:=by rw[hlen,hA,hS.i,hS.v]
  obtain⟨hli,hch⟩:=hok _ (jH hk)
  have hc256:qak c A<=256:=by
   have:=hM.hi;have:=hM.inp;have:=hM.sig
   unfold qak;omega
  have h83:=ev124 c.signals[k].on (qbk c (qao s) k (qad s)) hli (by omega) (by rw[hgl,hN];exact hch)
  have hval:s.values.length=c.signals.length:=hS.v
  have hkF:qam c A+k<qak c A:=by unfold qam qak;omega
  have w2:=qab (n:=(qam c A:Int)+(k:Int)) (by omega) (by omega)
  have hnn:(0:Int)<=(qam c A:Int)+(k:Int):=by omega
  have htn:((qam c A:Int)+(k:Int)).toNat=qam c A+k:=by omega
  have hst:qbk c (qao s) (k+1) (qad s)=if c.signals[k].kind=0 then(qbk c (qao s) k (qad s)).set (qao s+k) (c.signals[k].on.holds (qbk c (qao s) k (qad s)))else qbk c (qao s) k (qad s):=by
   rw[qbk,qgn,jA hk]
  have hdr:(qbk c (qao s) k (qad s)).length-qam c A=s.values.length:=by rw[hgl,hN,hval];unfold qak qam;omega
  unfold h50
  rw[hst]
  by_cases h0:c.signals[k].kind=0
  .rw[if_pos h0,<-List.set_drop,hF]
   rw[hF]at hgl h83 hdr
   generalize hW:qbk c (qam c A) k (qad s)=W at *
   generalize c.signals[k].on.holds W=b at *
   have hb1:k<(W.drop (qam c A)).length:=by rw[List.length_drop];omega
   have hb2:qam c A+k<W.length:=by omega
   have hd1:((W.drop (qam c A)).set k b).map qfi=((W.drop (qam c A)).map qfi).set k [.bool b]:=by rw[List.map_set]
   have hd2:(W.set (qam c A+k) b).map qfi=(W.map qfi).set (qam c A+k) [.bool b]:=by rw[List.map_set]
   rw[hd1,hd2]
   have hb3:k<W.length-qam c A:=by omega
   unfold qcy at h83
   have hk4:k<s.values.length:=by omega
   have hk5:(k:Int)<s.values.length:=by omega
   have hk6:(qam c A:Int)+(k:Int)<(qad s).length:=by omega
   have hk7:qam c A+k<(qad s).length:=by omega
   generalize qam c A=F at *
   simp[qaa,exT,qae,T50,L87_0,hk,hk',wk,h0,h83,h84,w2,hnn,htn,hb2,hb3,hk4,hk7,hgl,hdr,hf.ne]
  .have h0b:(c.signals[k].kind==0)=false:=by simpa using h0
   rw[if_neg h0]
   generalize qbk c (qao s) k (qad s)=W at *
   simp[T50,L87_0,hk,hk',wk,h0b,hf.ne]
 .intro f hf
  unfold h50 qxi
  generalize qbk c (qao s) c.signals.length (qad s)=W at *
  simp[T50,L87_0,hf.ne]
theorem ev87{c:Ct}{A:Nat}(hM:Mid c A)(s:Ste)(hs:s.small)(hS:Shp c s)(hok:q4z c (qak c A)):ev pg (.call (.fn 87 [] []) [c.v,s.v] [])=some { v:=(qds c s).v,st:=⟨[],[]⟩ }:=by
 have hl:=@jfe c A hM s hs hS hok
 have h52:=ev123 s hs
 have hlen:=qjc (c:=c) s
 have hd:=qnw s
 obtain⟨g1,g2,g3,g4,g5⟩:=hs
 have c1:=ev92 s.ends g1
 have c2:=ev93 s.valves g2
 have c3:=ev93 s.inputs g3
 have c4:=ev93 s.values g4
 have c5:=ev92 s.timers g5
 unfold qds at hlen ⊢
 simp only at hlen
 unfold h50 at hl
 rw[qbk,hd]at hl
 generalize (qxi c s).drop (qao s)=W at *
 rw[qac,pg87]
 simp[qaa,exT,qae,ir87,qaf,c1,c2,c3,c4,c5,h52]
 generalize hr:ev pg (.code (.going _ L87_0) _)=o
 obtain⟨r,rfl,f,hf,rfl⟩:∃r,o=some r/\_:=by rw[<-hr];exact hl (by simp[T50])
 clear hr
 simp[T50,hlen]
abbrev h56(c:Ct)(A:Nat)(k:Nat):H:=[⟨0,.box c.cells⟩,o0,o0,o0,o0,o0,⟨0,.box (q0o 1)⟩,⟨1,.arr 1 (List.replicate A [num 0])⟩,⟨1,.arr 1 (List.replicate A [.bool false])⟩,⟨1,.arr 1 (List.replicate c.inputs.length [.bool false])⟩,⟨1,.arr 1 ((ini c k).map qfi)⟩,⟨1,.arr 1 (List.replicate c.signals.length [num 0])⟩,o0,o0,o0,o0,o0,⟨0,.box [.sl 7 1 1 0 A,.sl 8 1 1 0 A,.sl 9 1 1 0 c.inputs.length,.sl 10 1 1 0 c.signals.length,.sl 11 1 1 0 c.signals.length]⟩]
def T56(c:Ct)(k:Nat):Tm:=[none,some (.bptr 0 0),some (.bptr 6 0),some (num 0),none,none,some (.bptr 17 0)]++List.replicate 27 none++[some (.imm (c.signals.map Sg.row)),some (num c.signals.length),some (num k)]++List.replicate 14 none
theorem jfd(c:Ct)(A:Nat)(hn:c.signals.length<=128){st:St}(h0:At (T56 c 0) (h56 c A 0) st):∃r,ev pg (.code (.going 18 L53_0) st)=some r/\qag (.exit 0) (T56 c c.signals.length) (h56 c A c.signals.length) r:=by
 refine qcd c.signals.length (T56 c) (h56 c A) _ ?_ ?_ h0
 .intro k f hf hk
  have hk':(k:Int)<c.signals.length:=by omega
  have wk:=qab (n:=(k:Int)+1) (by omega) (by omega)
  have hl:=zfn c (k:=k) (by omega)
  have e:=qjb (A:=c.signals.map Sg.init) (B:=List.replicate c.signals.length false) (by simp) (k:=k) (by simpa using hk)
  rw[List.getElem_map]at e
  unfold h56 T56 ini
  rw[<-e]
  unfold ini at hl
  generalize mix (c.signals.map Sg.init) (List.replicate c.signals.length false) k=W at *
  have hkW:k<W.length:=by omega
  simp[qaa,exT,qae,L53_0,hk,hk',wk,hkW,hf.ne]
 .intro f hf
  unfold h56 T56 ini
  generalize mix (c.signals.map Sg.init) (List.replicate c.signals.length false) c.signals.length=W at *
  simp[L53_0,hf.ne]
def q7h(c:Ct):Ste×Int:=if c.check=0 then(qdq c,0)else(zeroS,c.check)
theorem ev53(c:Ct)(hfew:c.small=true):ev pg (.call (.fn 53 [] []) [c.v] [])=some { v:=.tup [(q7h c).1.v,num (q7h c).2],st:=⟨[],[]⟩ }:=by
 have e79:=ev44 c hfew
 unfold q7h
 by_cases hc:c.check=0
 .have hF:=qwk hfew hc
  have hM:=hF.mid
  have e87:=ev87 hM (qhd c) hF.small hF.shp (q9m hc hfew)
  have hl:=@jfd c c.act.toNat hM.sig
  have hact:=hM.act
  have hhi:=hM.hi
  have hinp:=hM.inp
  have hsig:=hM.sig
  rw[if_pos hc]
  rw[hc]at e79
  unfold qdq
  generalize qds c (qhd c)=u at *
  have z0:ini c 0=List.replicate c.signals.length false:=qgl _ _
  have z1:ini c c.signals.length=c.signals.map Sg.init:=by
   have:=qiz (A:=c.signals.map Sg.init) (B:=List.replicate c.signals.length false) (by simp)
   rwa [List.length_map]at this
  unfold h56 at hl
  rw[z0,z1]at hl
  unfold qhd at e87
  generalize c.act.toNat=A at *
  have e87':ev pg (.call (.fn 87 [] []) [.agg [num c.act,.imm (c.inputs.map q3t),.imm (c.signals.map Sg.row),qbx c.plus,qbx c.minus],.agg [.imm (List.replicate A [num 0]),.imm (List.replicate A [.bool false]),.imm (List.replicate c.inputs.length [.bool false]),.imm (c.signals.map (qfi∘Sg.init)),.imm (List.replicate c.signals.length [num 0])]] [])=some { v:=u.v,st:=⟨[],[]⟩ }:=by
   rw[<-e87]
   simp only[Ste.v,Ste.cells,qbx,qcy,List.map_replicate,List.map_map]
  rw[hact]at e87'
  have e79':ev pg (.call (.fn 44 [] []) [.agg [num (A:Int),.imm (c.inputs.map q3t),.imm (c.signals.map Sg.row),qbx c.plus,qbx c.minus]] [])=some { v:=num 0,st:=⟨[],[]⟩ }:=by rw[<-hact];exact e79
  have a1:A*8<=140737488355328:=by omega
  have a2:A<=4611686018427387904:=by omega
  have a3:A<=140737488355328:=by omega
  have i2:c.inputs.length<=4611686018427387904:=by omega
  have i3:c.inputs.length<=140737488355328:=by omega
  have s1:c.signals.length*8<=140737488355328:=by omega
  have s2:c.signals.length<=4611686018427387904:=by omega
  have s3:c.signals.length<=140737488355328:=by omega
  rw[qac,pg53]
  simp[qaa,exT,qae,ir53,e79',hact,a1,a2,a3,i2,i3,s1,s2,s3,qaf]
  generalize hr:ev pg (.code (.going _ L53_0) _)=o
  obtain⟨r,rfl,f,hf,rfl⟩:∃r,o=some r/\_:=by rw[<-hr];exact hl (by simp[T56,hact])
  simp[T56,hact,e87']
 .rw[if_neg hc]
  have hb:(c.check==0)=false:=by simpa using hc
  rw[qac,pg53]
  generalize c.check=e at *
  simp[ir53,e79,hc,hb,zeroS]
theorem ev29(c:Ct)(hfew:c.small=true):ev pg (.call (.fn 29 [] []) [c.v] [])=some { v:=zam (qby c),st:=⟨[],[]⟩ }:=by
 have e56:=ev53 c hfew
 unfold q7h at e56
 unfold qby
 rw[qac,pg29]
 by_cases h:c.check=0
 .have hR:=qfq h
  have e16:=ev54 c (qdq c) hfew (Rdy.small ⟨hfew,hR⟩)
  unfold qse at e16
  rw[if_pos hR]at e16
  rw[if_pos h]at e56 ⊢
  simp only at e56
  generalize qhj c (qdq c)=x at *
  generalize qdq c=b at *
  simp[ir29,e56,e16]
 .rw[if_neg h]at e56 ⊢
  simp only at e56
  have hb:(c.check==0)=false:=by simpa using h
  generalize c.check=e at *
  simp[ir29,e56,h,hb,zeroS]
end Go.Proofs.YtlhciedghbmjjaaGreat
