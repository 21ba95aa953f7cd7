/- A round of the plant, by the program: the function; lists merged. The plant comes to rest, by the reference. Rest and Start of the reference. -/
import Derived.Test.YtddeacahiilikaaGreatRRd2
import Derived.KernelRfl
import Derived.Test.YtddeacahiilikaaGreatRRu2
set_option linter.all false
namespace Go.Proofs.YtddeacahiilikaaGreat
open Go Go.Am Go.Proofs
set_option maxRecDepth 100000
set_option maxHeartbeats 1000000 in
theorem ev112_some{c:Ct}{s:Ste}(h:Rdy c s){t:Ste}{m:List Int}(hz:qby c s=some (t,m)):ev pg (.call (.fn 112 [] []) [c.v,s.v] [])=some { v:=.tup [(qiv (qhl c t)).v,qel (m++qka c t),num 0],st:=⟨[],[]⟩ }:=by
 have ht:=h.settle hz
 have e81:=ev195_some h hz
 have e60:=ev116 t ht.small
 have hml:=(qmk hz).len
 have hmid:=ht.mid
 have hN:=qlx hmid
 have hS:=ht.shp
 have hm:m.length<=4096:=by unfold qhn at hN;omega
 have hl:=@z3o c t s ht m hm c.act.toNat rfl
 have hact:=hmid.act
 have hhi:=hmid.hi
 have hinp:=hmid.inp
 have hsig:=hmid.sig
 have hwl:t.valves.length=c.act.toNat:=by have:=hS.w;omega
 have hel:t.ends.length=c.act.toNat:=by have:=hS.e;omega
 have l1:(vA c t).length=t.valves.length:=List.length_mapIdx
 have l2:(eA c t).length=t.ends.length:=by rw[List.length_zipWith,l1];omega
 have z1:mix (vA c t) t.valves 0=t.valves:=qft _ _
 have z2:mix (eA c t) t.ends 0=t.ends:=qft _ _
 have z3:mix (vA c t) t.valves c.act.toNat=vA c t:=by
  have:=qhw l1
  rwa [l1,hwl]at this
 have z4:mix (eA c t) t.ends c.act.toNat=eA c t:=by
  have:=qhw l2
  rwa [l2,hel]at this
 have z5:cfL c (qad t) c.act.toNat 0=[]:=rfl
 have z6:cfL c (qad t) c.act.toNat c.act.toNat=qka c t:=rfl
 unfold h46 T46 at hl
 rw[z1,z2,z3,z4,z5,z6,List.append_nil]at hl
 have hg:qiv (qhl c t)=⟨eA c t,vA c t,t.inputs,t.values,t.timers⟩:=rfl
 rw[hg]
 have w1:IntKind.i64.wrap (2*c.act)=2*(c.act.toNat:Int):=by rw[show(2:Int)*c.act=2*(c.act.toNat:Int)by omega];exact qab (by omega) (by omega)
 have w2:IntKind.i64.wrap (2*(c.act.toNat:Int)+c.inputs.length)=2*(c.act.toNat:Int)+c.inputs.length:=qab (by omega) (by omega)
 have w3:IntKind.i64.wrap (2*(c.act.toNat:Int)+c.inputs.length+c.signals.length)=2*(c.act.toNat:Int)+c.inputs.length+c.signals.length:=qab (by omega) (by omega)
 unfold qah at hl
 generalize qka c t=B at *
 generalize vA c t=VV at *
 generalize eA c t=EE at *
 generalize c.act.toNat=A at *
 rw[qac,pg112]
 simp[ir112,e81,e60,w1,w2,w3,qaf]
 generalize hr:ev pg (.code (.going _ L112_0) _)=o
 obtain⟨r,rfl,g,f,hf,rfl⟩:∃r,o=some r/\_:=by rw[<-hr];exact hl 0 (by simp[hact])
 clear hr
 simp[l1.symm,l2.symm]
theorem ev112_none{c:Ct}{s:Ste}(h:Rdy c s)(hz:qby c s=none):ev pg (.call (.fn 112 [] []) [c.v,s.v] [])=some { v:=.tup [zeroS.v,qel [],num 21],st:=⟨[],[]⟩ }:=by
 have e81:=ev195_none h hz
 rw[qac,pg112]
 simp[ir112,e81,zeroS]
theorem ev113(N:Nat)(a b:List Int)(ha:a.length<=10000)(hb:b.length<=10000)(hbd:∀x∈a++b,0<=x/\x<(N:Int)):ev pg (.call (.fn 113 [] []) [qel a,qel b] [])=some { v:=qel (norm N (a++b)),st:=⟨[],[]⟩ }:=by
 have e32:=ev120c [a,b] (by simp) (by simp) (by simp;omega)
 simp only[q8x,List.map_cons,List.map_nil,List.flatten_cons,List.flatten_nil,List.append_nil]at e32
 generalize hab:a++b=l at *
 have hl:l.length<=20000:=by rw[<-hab];simp;omega
 have key:∀(g:Nat) (l:List Int),qdb [⟨g,.arr 1 (l.map qdw)⟩]:=fun g l=>by
  unfold qdb
  simp
 obtain⟨l',hp,hsr,e33⟩:=ev156 (h:=[⟨0,.arr 1 (l.map qdw)⟩]) (i:=0) (g:=0) (l:=l) rfl (key 0 l) (by omega)
 have hpl:=hp.length_eq
 obtain⟨rows,hr1,hr2,e36⟩:=ev157 (h:=[⟨0,.arr 1 (l'.map qdw)⟩]) (i:=0) (g:=0) (l:=l') rfl (key 0 l') (by omega)
 have hcn:qav l'=norm N l:=qpg hsr (fun x=>hp.mem_iff) hbd
 rw[hcn]at hr2 e36
 rw[hpl]at e36
 have hle:(norm N l).length<=rows.length:=by
  have:=congrArg List.length hr2
  simp at this
  omega
 have hif:=zan hr2
 have hif2:(if(norm N l).length=rows.length then some rows else some (rows.take (norm N l).length))=some ((norm N l).map qdw):=by
  split
  .rename_i e
   rw[if_pos e]at hif
   rw[hif]
  .rename_i e
   rw[if_neg e]at hif
   rw[hif]
 generalize norm N l=M at *
 simp at e33 e36
 rw[qac,pg113]
 simp[ir113,e32,e33,e36,hle,hif2]
def sl0(k:Nat)(l:List Int):V:=if k=0 then .sl 9 0 0 0 0 else qel l
theorem zfw(k:Nat)(l:List Int):sl0 k l ≠ .nils:=by
 unfold sl0;split<;>simp
def ob0(k:Nat):Ob:=if k=0 then o0 else⟨0,.frz 0 []⟩
abbrev h86(c:Ct)(k:Nat)(a:Ste×List Int):H:=[⟨0,.box c.cells⟩,⟨0,.box a.1.cells⟩,o0,o0,o0,o0,o0,⟨0,.box (qwx 2)⟩,o0,ob0 k]
def T86(k:Nat)(a:Ste×List Int):Tm:=[none,none,some (.bptr 0 0),some (.bptr 1 0),some (.bptr 7 0),some (.sl 8 0 0 0 0),some (.bool false),some (sl0 k a.2),some (num k)]++List.replicate 27 none
abbrev z2n(c:Ct)(t:Ste):H:=[⟨0,.box c.cells⟩,⟨0,.box t.cells⟩,o0,o0,o0,o0,o0,⟨0,.box t.cells⟩,o0,⟨0,.frz 0 []⟩,o0,o0,o0,o0,o0,⟨0,.box t.cells⟩]
def zto(m:List Int):Tm:=[none,none,none,none,some (.bptr 7 0),some (qel m),some (.bool true)]++List.replicate 29 none
abbrev z3e(c:Ct)(k:Nat)(s t:Ste):H:=[⟨0,.box c.cells⟩,⟨0,.box s.cells⟩,o0,o0,o0,o0,o0,⟨0,.box (qwx 16)⟩,o0,ob0 k,o0,o0,o0,o0,o0,⟨0,.box t.cells⟩,o0,o0,o0,o0,o0]
def zzq:Tm:=[none,none,none,none,some (.bptr 7 0),some .nils,some (.bool false)]++List.replicate 29 none
def zgd(c:Ct)(Z:Option (Ste×List Int))(r:R):Prop:=match Z with
 | some (t,m)=>qaj .ret (zto m) (z2n c t) r
 | none=>(∃k s t,qaj .ret zzq (z3e c k s t) r)\/∃a,qaj (.exit 0) (T86 65 a) (h86 c 65 a) r
structure G86(c:Ct)(Z:Option (Ste×List Int))(k:Nat)(a:Ste×List Int):Prop where
 go:qha c (65-k) a.1 a.2=Z
 rdy:Rdy c a.1
 lin:Lin (qhn c) a.2
 nil:k=0->a.2=[]
set_option maxHeartbeats 1000000 in
theorem z3w{c:Ct}{s:Ste}(hs:Rdy c s){st:St}(h0:At (T86 0 (s,[])) (h86 c 0 (s,[])) st):∃r,ev pg (.code (.going 10 L220_0) st)=some r/\zgd c (qjs c s) r:=by
 generalize hR:qjs c s=Z
 refine qci 65 T86 (h86 c) (G86 c Z) _ ?_ ?_ (s,[]) ⟨hR,hs,Lin.nil _,fun _=>rfl⟩ h0
 .rintro k ⟨t,l⟩ f hf hk hG
  have hgo:=hG.go
  have hrd:=hG.rdy
  have hl:=hG.lin
  have hn:=hG.nil
  simp only at hgo hrd hl hn
  have hk':(k:Int)<=64:=by omega
  have wk:=qab (n:=(k:Int)+1) (by omega) (by omega)
  have h83:=ev266 hrd
  have hN:=qlx hrd.mid
  rw[show 65-k=(64-k)+1 by omega,qha]at hgo
  cases hZ:qcw c t with
  | none =>
   rw[hZ]at h83 hgo
   simp[qsy]at h83
   simp only at hgo
   subst hgo
   have hz:zeroS.v=.agg [.imm [],.imm [],.imm [],.imm [],.imm []]:=rfl
   simp[T86,L220_0,hk',h83,hf.ne]
   exact .inl ⟨k,t,zeroS,by simp[zzq,hf.ne,zeroS,zfw]⟩
  | some x =>
   obtain⟨u,m⟩:=x
   rw[hZ]at h83 hgo
   simp[qsy]at h83
   simp only at hgo
   have hru:=hrd.round hZ
   have hm:=q5m hZ
   have e65:=ev175 l m (by have:=hl.len;omega) (by have:=hm.len;omega)
   rw[hl.mrg hm]at e65
   have hl':Lin (qhn c) (norm (qhn c) (l++m)):=Lin.norm _ _
   have h20:=ev267 t u hrd.small
   generalize norm (qhn c) (l++m)=p at *
   by_cases hst:qhd t u=true
   .rw[if_pos hst]at hgo
    rw[hst]at h20
    subst hgo
    obtain rfl:=qhe.1 hst
    unfold T86 sl0 h86 ob0
    by_cases hk0:k=0
    .subst hk0
     rw[hn rfl]at e65
     have e65':ev pg (.call (.fn 175 [] []) [.imm [],qel m] [])=_:=e65
     simp[L220_0,h83,e65',h20,hf.ne]
     simp[zgd,zto,hf.ne]
    .simp[L220_0,hk0,hk',h83,e65,h20,hf.ne]
     simp[zgd,zto,hf.ne]
   .have hsf:qhd t u=false:=by simpa using hst
    rw[if_neg hst]at hgo
    rw[hsf]at h20
    have hG':G86 c Z (k+1) (u,p):=⟨by rw[<-hgo,show 65-(k+1)=64-k by omega],hru,hl',by omega⟩
    unfold T86 sl0 h86 ob0
    by_cases hk0:k=0
    .subst hk0
     rw[hn rfl]at e65
     have e65':ev pg (.call (.fn 175 [] []) [.imm [],qel m] [])=_:=e65
     simp[L220_0,h83,e65',h20,show IntKind.i64.wrap 1=1 by decide,hf.ne]
     exact⟨u,p,hG',by simp⟩
    .simp[L220_0,hk0,hk',wk,h83,e65,h20,hf.ne]
     exact⟨u,p,hG',by simp⟩
 .rintro⟨t,l⟩ f hf hG
  have hgo:=hG.go
  simp only[Nat.sub_self,qha]at hgo
  subst hgo
  simp[T86,L220_0]
  exact .inr ⟨(t,l),by simp[T86,hf.ne]⟩
theorem ev220{c:Ct}{s:Ste}(h:Rdy c s):ev pg (.call (.fn 220 [] []) [c.v,s.v] [])=some { v:=.tup (qsy (qjs c s)++[.bool (qjs c s).isSome]),st:=⟨[],[]⟩ }:=by
 have hl:=@z3w c s h
 generalize qjs c s=Z at *
 rw[qac,pg220]
 simp[ir220,qaf]
 generalize hr:ev pg (.code (.going _ L220_0) _)=o
 obtain⟨r,rfl,hQ⟩:∃r,o=some r/\_:=by rw[<-hr];exact hl (by simp[T86,sl0,ob0])
 clear hr
 cases Z with
 | none =>
  rcases hQ with⟨k,s,t,f,hf,rfl⟩ | ⟨⟨s,l⟩,f,hf,rfl⟩
  .simp[zzq,qsy,zeroS]
  .simp[T86,qsy,zeroS,ob0]
 | some p =>
  obtain⟨t,m⟩:=p
  obtain⟨f,hf,rfl⟩:=hQ
  simp[zto,qsy]
abbrev q5u(x:Ste×List Int×Int):V:=.tup [x.1.v,qel x.2.1,num x.2.2]
theorem ev171{c:Ct}{s:Ste}(h:Rdy c s):ev pg (.call (.fn 171 [] []) [c.v,s.v] [])=some { v:=q5u (qkg c s),st:=⟨[],[]⟩ }:=by
 have h86:=ev220 h
 unfold qkg
 rw[qac,pg171]
 cases hZ:qjs c s with
 | none =>
  rw[hZ]at h86
  simp[qsy]at h86
  simp[ir171,h86,zeroS]
 | some x =>
  obtain⟨t,m⟩:=x
  rw[hZ]at h86
  simp[qsy]at h86
  simp[ir171,h86]
def qqk(c:Ct)(s:Ste):Ste×List Int×Int:=if stE c s=0 then qkg c s else(zeroS,[],stE c s)
theorem ev224'(c:Ct)(s:Ste)(hfew:c.small=true)(hs:s.small):ev pg (.call (.fn 224 [] []) [c.v,s.v] [])=some { v:=num (stE c s),st:=⟨[],[]⟩ }:=ev224 c s hfew hs
abbrev ini(c:Ct)(k:Nat):List Bool:=mix (c.signals.map Sg.init) (List.replicate c.signals.length false) k
abbrev h57(c:Ct)(A:Nat)(k:Nat):H:=[⟨0,.box c.cells⟩,o0,o0,o0,o0,o0,⟨0,.box (qwx 1)⟩,⟨1,.arr 1 (List.replicate A [num 0])⟩,⟨1,.arr 1 (List.replicate A [.bool false])⟩,⟨1,.arr 1 (List.replicate c.inputs.length [.bool false])⟩,⟨1,.arr 1 ((ini c k).map qen)⟩,⟨1,.arr 1 (List.replicate c.signals.length [num 0])⟩,o0,o0,o0,o0,o0,⟨0,.box [.sl 7 1 1 0 A,.sl 8 1 1 0 A,.sl 9 1 1 0 c.inputs.length,.sl 10 1 1 0 c.signals.length,.sl 11 1 1 0 c.signals.length]⟩]
def T57(k:Nat):Tm:=[none,some (.bptr 0 0),some (.bptr 6 0),some (.bptr 17 0),some (num k)]++List.replicate 39 none
theorem q8m(c:Ct){k:Nat}(hk:k<=c.signals.length):(ini c k).length=c.signals.length:=by
 have:=qiz (A:=c.signals.map Sg.init) (B:=List.replicate c.signals.length false) (by simp) (k:=k) (by simpa using hk)
 simpa using this
theorem z3s(c:Ct)(A:Nat)(hn:c.signals.length<=128){st:St}(h0:At (T57 0) (h57 c A 0) st):∃r,ev pg (.code (.going 18 L95_0) st)=some r/\qaj (.exit 0) (T57 c.signals.length) (h57 c A c.signals.length) r:=by
 refine qfc c.signals.length T57 (h57 c A) _ ?_ ?_ h0
 .intro k f hf hk
  have hk':(k:Int)<c.signals.length:=by omega
  have wk:=qab (n:=(k:Int)+1) (by omega) (by omega)
  have hl:=q8m c (k:=k) (by omega)
  have e:=qhx (A:=c.signals.map Sg.init) (B:=List.replicate c.signals.length false) (by simp) (k:=k) (by simpa using hk)
  rw[List.getElem_map]at e
  unfold h57 T57 ini
  rw[<-e]
  unfold ini at hl
  generalize mix (c.signals.map Sg.init) (List.replicate c.signals.length false) k=W at *
  have hkW:k<W.length:=by omega
  simp[qaa,exT,qae,L95_0,hk,hk',wk,hkW,hf.ne]
 .intro f hf
  unfold h57 T57 ini
  generalize mix (c.signals.map Sg.init) (List.replicate c.signals.length false) c.signals.length=W at *
  simp[L95_0,hf.ne]
theorem qtp{c:Ct}(hfew:c.small=true)(hc:c.check=0):Rdy c (qgf c):=⟨hfew,qpi hc⟩
theorem ev95{c:Ct}(hfew:c.small=true)(hc:c.check=0):ev pg (.call (.fn 95 [] []) [c.v] [])=some { v:=(qca c).v,st:=⟨[],[]⟩ }:=by
 have hF:=qtp hfew hc
 have hM:=hF.mid
 have h88:=ev172 c (qgf c) hF.small hF.shp hM.sig (fun x hx=>(hF.sig x hx).on)
 have hl:=@z3s c c.act.toNat hM.sig
 have hact:=hM.act
 have hhi:=hM.hi
 have hinp:=hM.inp
 have hsig:=hM.sig
 unfold qca
 generalize qdc c (qgf c)=u at *
 have z0:ini c 0=List.replicate c.signals.length false:=qft _ _
 have z1:ini c c.signals.length=c.signals.map Sg.init:=by
  have:=qhw (A:=c.signals.map Sg.init) (B:=List.replicate c.signals.length false) (by simp)
  rwa [List.length_map]at this
 unfold h57 at hl
 rw[z0,z1]at hl
 unfold qgf at h88
 change c.act=((c.act.toNat:Nat):Int)at hact
 generalize c.act.toNat=A at *
 have h88':ev pg (.call (.fn 172 [] []) [.agg [num c.act,.imm (c.inputs.map zai),.imm (c.signals.map Sg.row),qel c.plus,qel c.minus],.agg [.imm (List.replicate A [num 0]),.imm (List.replicate A [.bool false]),.imm (List.replicate c.inputs.length [.bool false]),.imm (c.signals.map (qen∘Sg.init)),.imm (List.replicate c.signals.length [num 0])]] [])=some { v:=u.v,st:=⟨[],[]⟩ }:=by
  rw[<-h88]
  simp only[Ste.v,Ste.cells,qel,qdt,List.map_replicate,List.map_map]
 have a1:A*8<=140737488355328:=by omega
 have a2:A<=4611686018427387904:=by omega
 have a3:A<=140737488355328:=by omega
 have i2:c.inputs.length<=4611686018427387904:=by omega
 have i3:c.inputs.length<=140737488355328:=by omega
 have s1:c.signals.length*8<=140737488355328:=by omega
 have s2:c.signals.length<=4611686018427387904:=by omega
 have s3:c.signals.length<=140737488355328:=by omega
 rw[qac,pg95]
 simp[qaa,exT,qae,ir95,hact,a1,a2,a3,i2,i3,s1,s2,s3,qaf]
 generalize hr:ev pg (.code (.going _ L95_0) _)=o
 obtain⟨r,rfl,f,hf,rfl⟩:∃r,o=some r/\_:=by rw[<-hr];exact hl (by simp[T57,hact])
 simp[T57,h88']
def qap(c:Ct):Ste×List Int×Int:=if c.check=0 then qkg c (qca c)else(zeroS,[],c.check)
theorem ev93(c:Ct)(hfew:c.small=true):ev pg (.call (.fn 93 [] []) [c.v] [])=some { v:=q5u (qap c),st:=⟨[],[]⟩ }:=by
 have h31:=ev58 c hfew
 unfold qap
 rw[qac,pg93]
 by_cases h:c.check=0
 .have h57:=ev95 hfew h
  have h55:=ev171 (c:=c) (s:=qca c) ⟨hfew,qcz h⟩
  rw[if_pos h]
  rw[h]at h31
  generalize qkg c (qca c)=x at *
  generalize qca c=b at *
  simp[qaa,exT,qae,ir93,h31,h57,h55]
 .rw[if_neg h]
  have hb:(c.check==0)=false:=by simpa using h
  generalize c.check=e at *
  simp[ir93,h31,h,hb,zeroS]
end Go.Proofs.YtddeacahiilikaaGreat
