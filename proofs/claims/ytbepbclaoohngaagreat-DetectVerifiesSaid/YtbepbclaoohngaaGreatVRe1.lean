/- The plant comes to rest, by the program. -/
import Derived.Test.YtbepbclaoohngaaGreatVRd2
import Derived.KernelRfl
import Derived.Test.YtbepbclaoohngaaGreatVRn1
set_option linter.all false
namespace Go.Proofs.YtbepbclaoohngaaGreat
open Go Go.Am Go.Proofs
set_option maxRecDepth 100000
set_option maxHeartbeats 1000000 in
theorem ev148_some{c:Ct}{s:Ste}(h:Rdy c s){t:Ste}{m:List Int}(hz:qca c s=some (t,m)):ev pg (.call (.fn 148 [] []) [c.v,s.v] [])=some { v:=.tup [(qjw (qgn c t)).v,qeg (m++qme c t),num 0],st:=⟨[],[]⟩ }:=by
 have ht:=h.settle hz
 have e81:=ev219_some h hz
 have e60:=ev91 t ht.small
 have hml:=(qpl hz).len
 have hmid:=ht.mid
 have hN:=qux hmid
 have hS:=ht.shp
 have hm:m.length<=4096:=by unfold qou at hN;omega
 have hl:=@jfz c t s ht m hm c.act.toNat rfl
 have hact:=hmid.act
 have hhi:=hmid.hi
 have hinp:=hmid.inp
 have hsig:=hmid.sig
 have hwl:t.valves.length=c.act.toNat:=by have:=hS.w;omega
 have hel:t.ends.length=c.act.toNat:=by have:=hS.e;omega
 have l1:(vA c t).length=t.valves.length:=List.length_mapIdx
 have l2:(eA c t).length=t.ends.length:=by rw[List.length_zipWith,l1];omega
 have z1:mix (vA c t) t.valves 0=t.valves:=qhk _ _
 have z2:mix (eA c t) t.ends 0=t.ends:=qhk _ _
 have z3:mix (vA c t) t.valves c.act.toNat=vA c t:=by
  have:=qjy l1
  rwa [l1,hwl]at this
 have z4:mix (eA c t) t.ends c.act.toNat=eA c t:=by
  have:=qjy l2
  rwa [l2,hel]at this
 have z5:cfL c (qae t) c.act.toNat 0=[]:=rfl
 have z6:cfL c (qae t) c.act.toNat c.act.toNat=qme c t:=rfl
 unfold h46 T46 at hl
 rw[z1,z2,z3,z4,z5,z6,List.append_nil]at hl
 have hg:qjw (qgn c t)=⟨eA c t,vA c t,t.inputs,t.values,t.timers⟩:=rfl
 rw[hg]
 have w1:IntKind.i64.wrap (2*c.act)=2*(c.act.toNat:Int):=by rw[show(2:Int)*c.act=2*(c.act.toNat:Int)by omega];exact qan (by omega) (by omega)
 have w2:IntKind.i64.wrap (2*(c.act.toNat:Int)+c.inputs.length)=2*(c.act.toNat:Int)+c.inputs.length:=qan (by omega) (by omega)
 have w3:IntKind.i64.wrap (2*(c.act.toNat:Int)+c.inputs.length+c.signals.length)=2*(c.act.toNat:Int)+c.inputs.length+c.signals.length:=qan (by omega) (by omega)
 unfold qac at hl
 generalize qme c t=B at *
 generalize vA c t=VV at *
 generalize eA c t=EE at *
 generalize c.act.toNat=A at *
 rw[qaa,pg148]
 simp[ir148,e81,e60,w1,w2,w3,qah]
 generalize hr:ev pg (.code (.going _ L148_0) _)=o
 obtain⟨r,rfl,g,f,hf,rfl⟩:∃r,o=some r/\_:=by rw[<-hr];exact hl 0 (by simp[hact])
 clear hr
 simp[l1.symm,l2.symm]
theorem ev148_none{c:Ct}{s:Ste}(h:Rdy c s)(hz:qca c s=none):ev pg (.call (.fn 148 [] []) [c.v,s.v] [])=some { v:=.tup [zeroS.v,qeg [],num 21],st:=⟨[],[]⟩ }:=by
 have e81:=ev219_none h hz
 rw[qaa,pg148]
 simp[ir148,e81,zeroS]
theorem ev94(N:Nat)(a b:List Int)(ha:a.length<=10000)(hb:b.length<=10000)(hbd:∀x∈a++b,0<=x/\x<(N:Int)):ev pg (.call (.fn 94 [] []) [qeg a,qeg b] [])=some { v:=qeg (norm N (a++b)),st:=⟨[],[]⟩ }:=by
 have e32:=ev155c [a,b] (by simp) (by simp) (by simp;omega)
 simp only[zjz,List.map_cons,List.map_nil,List.flatten_cons,List.flatten_nil,List.append_nil]at e32
 generalize hab:a++b=l at *
 have hl:l.length<=20000:=by rw[<-hab];simp;omega
 have key:∀(g:Nat) (l:List Int),calm [⟨g,.arr 1 (l.map qbj)⟩]:=fun g l=>by
  unfold calm
  simp
 obtain⟨l',hp,hsr,e33⟩:=ev156 (h:=[⟨0,.arr 1 (l.map qbj)⟩]) (i:=0) (g:=0) (l:=l) rfl (key 0 l) (by omega)
 have hpl:=hp.length_eq
 obtain⟨rows,hr1,hr2,e36⟩:=ev157 (h:=[⟨0,.arr 1 (l'.map qbj)⟩]) (i:=0) (g:=0) (l:=l') rfl (key 0 l') (by omega)
 have hcn:qaz l'=norm N l:=qtb hsr (fun x=>hp.mem_iff) hbd
 rw[hcn]at hr2 e36
 rw[hpl]at e36
 have hle:(norm N l).length<=rows.length:=by
  have:=congrArg List.length hr2
  simp at this
  omega
 have hif:=zjl hr2
 have hif2:(if(norm N l).length=rows.length then some rows else some (rows.take (norm N l).length))=some ((norm N l).map qbj):=by
  split
  .rename_i e
   rw[if_pos e]at hif
   rw[hif]
  .rename_i e
   rw[if_neg e]at hif
   rw[hif]
 generalize norm N l=M at *
 simp at e33 e36
 rw[qaa,pg94]
 simp[ir94,e32,e33,e36,hle,hif2]
def sl0(k:Nat)(l:List Int):V:=if k=0 then .sl 9 0 0 0 0 else qeg l
theorem zqs(k:Nat)(l:List Int):sl0 k l ≠ .nils:=by
 unfold sl0;split<;>simp
def ob0(k:Nat):Ob:=if k=0 then o0 else⟨0,.frz 0 []⟩
abbrev h86(c:Ct)(k:Nat)(a:Ste×List Int):H:=[⟨0,.box c.cells⟩,⟨0,.box a.1.cells⟩,o0,o0,o0,o0,o0,⟨0,.box (q2u 2)⟩,o0,ob0 k]
def T86(k:Nat)(a:Ste×List Int):Tm:=[none,none,bN 0,bN 1,bN 7,some (.sl 8 0 0 0 0),some (.bool false),some (sl0 k a.2),nN k]++zN 27
abbrev jeu(c:Ct)(t:Ste):H:=[⟨0,.box c.cells⟩,⟨0,.box t.cells⟩,o0,o0,o0,o0,o0,⟨0,.box t.cells⟩,o0,⟨0,.frz 0 []⟩,o0,o0,o0,o0,o0,⟨0,.box t.cells⟩]
def z3o(m:List Int):Tm:=[none,none,none,none,bN 7,some (qeg m),some (.bool true)]++zN 29
abbrev jft(c:Ct)(k:Nat)(s t:Ste):H:=[⟨0,.box c.cells⟩,⟨0,.box s.cells⟩,o0,o0,o0,o0,o0,⟨0,.box (q2u 16)⟩,o0,ob0 k,o0,o0,o0,o0,o0,⟨0,.box t.cells⟩,o0,o0,o0,o0,o0]
def jaj:Tm:=[none,none,none,none,bN 7,some .nils,some (.bool false)]++zN 29
def zrc(c:Ct)(Z:Option (Ste×List Int))(r:R):Prop:=match Z with
 | some (t,m)=>qaq .ret (z3o m) (jeu c t) r
 | none=>(∃k s t,qaq .ret jaj (jft c k s t) r)\/∃a,qaq (.exit 0) (T86 65 a) (h86 c 65 a) r
structure G86(c:Ct)(Z:Option (Ste×List Int))(k:Nat)(a:Ste×List Int):Prop where
 go:qft c (65-k) a.1 a.2=Z
 rdy:Rdy c a.1
 lin:Lin (qou c) a.2
 nil:k=0->a.2=[]
set_option maxHeartbeats 1000000 in
theorem jgg{c:Ct}{s:Ste}(hs:Rdy c s){st:St}(h0:At (T86 0 (s,[])) (h86 c 0 (s,[])) st):∃r,ev pg (.code (.going 10 L190_0) st)=some r/\zrc c (qif c s) r:=by
 generalize hR:qif c s=Z
 refine qdb 65 T86 (h86 c) (G86 c Z) _ ?_ ?_ (s,[]) ⟨hR,hs,Lin.nil _,fun _=>rfl⟩ h0
 .rintro k ⟨t,l⟩ f hf hk hG
  have hgo:=hG.go
  have hrd:=hG.rdy
  have hl:=hG.lin
  have hn:=hG.nil
  simp only at hgo hrd hl hn
  have hk':(k:Int)<=64:=by omega
  have wk:=qbb (k:=k) (by omega)
  have h83:=ev237 hrd
  have hN:=qux hrd.mid
  rw[show 65-k=(64-k)+1 by omega,qft]at hgo
  cases hZ:qce c t with
  | none =>
   rw[hZ]at h83 hgo
   simp[qxw]at h83
   simp only at hgo
   subst hgo
   have hz:zeroS.v=.agg [.imm [],.imm [],.imm [],.imm [],.imm []]:=rfl
   simp[T86,L190_0,hk',h83,hf.ne]
   exact .inl ⟨k,t,zeroS,by simp[jaj,hf.ne,zeroS,zqs]⟩
  | some x =>
   obtain⟨u,m⟩:=x
   rw[hZ]at h83 hgo
   simp[qxw]at h83
   simp only at hgo
   have hru:=hrd.round hZ
   have hm:=zdi hZ
   have e65:=ev238 l m (by have:=hl.len;omega) (by have:=hm.len;omega)
   rw[hl.mrg hm]at e65
   have hl':Lin (qou c) (norm (qou c) (l++m)):=Lin.norm _ _
   have h20:=ev97 t u hrd.small
   generalize norm (qou c) (l++m)=p at *
   by_cases hst:qhf t u=true
   .rw[if_pos hst]at hgo
    rw[hst]at h20
    subst hgo
    obtain rfl:=qgm.1 hst
    unfold T86 sl0 h86 ob0
    by_cases hk0:k=0
    .subst hk0
     rw[hn rfl]at e65
     have e65':ev pg (.call (.fn 238 [] []) [.imm [],qeg m] [])=_:=e65
     simp[L190_0,h83,e65',h20,hf.ne]
     simp[zrc,z3o,hf.ne]
    .simp[L190_0,hk0,hk',h83,e65,h20,hf.ne]
     simp[zrc,z3o,hf.ne]
   .have hsf:qhf t u=false:=by simpa using hst
    rw[if_neg hst]at hgo
    rw[hsf]at h20
    have hG':G86 c Z (k+1) (u,p):=⟨by rw[<-hgo,show 65-(k+1)=64-k by omega],hru,hl',by omega⟩
    unfold T86 sl0 h86 ob0
    by_cases hk0:k=0
    .subst hk0
     rw[hn rfl]at e65
     have e65':ev pg (.call (.fn 238 [] []) [.imm [],qeg m] [])=_:=e65
     simp[L190_0,h83,e65',h20,show IntKind.i64.wrap 1=1 by decide,hf.ne]
     exact⟨u,p,hG',by simp⟩
    .simp[L190_0,hk0,hk',wk,h83,e65,h20,hf.ne]
     exact⟨u,p,hG',by simp⟩
 .rintro⟨t,l⟩ f hf hG
  have hgo:=hG.go
  simp only[Nat.sub_self,qft]at hgo
  subst hgo
  simp[T86,L190_0]
  exact .inr ⟨(t,l),by simp[T86,hf.ne]⟩
theorem ev190{c:Ct}{s:Ste}(h:Rdy c s):ev pg (.call (.fn 190 [] []) [c.v,s.v] [])=some { v:=.tup (qxw (qif c s)++[.bool (qif c s).isSome]),st:=⟨[],[]⟩ }:=by
 have hl:=@jgg c s h
 generalize qif c s=Z at *
 rw[qaa,pg190]
 simp[ir190,qah]
 generalize hr:ev pg (.code (.going _ L190_0) _)=o
 obtain⟨r,rfl,hQ⟩:∃r,o=some r/\_:=by rw[<-hr];exact hl (by simp[T86,sl0,ob0])
 clear hr
 cases Z with
 | none =>
  rcases hQ with⟨k,s,t,f,hf,rfl⟩ | ⟨⟨s,l⟩,f,hf,rfl⟩
  .simp[jaj,qxw,zeroS]
  .simp[T86,qxw,zeroS,ob0]
 | some p =>
  obtain⟨t,m⟩:=p
  obtain⟨f,hf,rfl⟩:=hQ
  simp[z3o,qxw]
abbrev zag(x:Ste×List Int×Int):V:=.tup [x.1.v,qeg x.2.1,num x.2.2]
theorem ev118{c:Ct}{s:Ste}(h:Rdy c s):ev pg (.call (.fn 118 [] []) [c.v,s.v] [])=some { v:=zag (qhd c s),st:=⟨[],[]⟩ }:=by
 have h86:=ev190 h
 unfold qhd
 rw[qaa,pg118]
 cases hZ:qif c s with
 | none =>
  rw[hZ]at h86
  simp[qxw]at h86
  simp[ir118,h86,zeroS]
 | some x =>
  obtain⟨t,m⟩:=x
  rw[hZ]at h86
  simp[qxw]at h86
  simp[ir118,h86]
def qqz(c:Ct)(s:Ste):Ste×List Int×Int:=if stE c s=0 then qhd c s else(zeroS,[],stE c s)
theorem ev193'(c:Ct)(s:Ste)(hfew:c.small=true)(hs:s.small):ev pg (.call (.fn 193 [] []) [c.v,s.v] [])=some { v:=num (stE c s),st:=⟨[],[]⟩ }:=ev193 c s hfew hs
abbrev ini(c:Ct)(k:Nat):List Bool:=mix (c.signals.map Sg.init) (List.replicate c.signals.length false) k
abbrev h57(c:Ct)(A:Nat)(k:Nat):H:=[⟨0,.box c.cells⟩,o0,o0,o0,o0,o0,⟨0,.box (q2u 1)⟩,⟨1,.arr 1 (List.replicate A [num 0])⟩,⟨1,.arr 1 (List.replicate A [.bool false])⟩,⟨1,.arr 1 (List.replicate c.inputs.length [.bool false])⟩,⟨1,.arr 1 ((ini c k).map qfa)⟩,⟨1,.arr 1 (List.replicate c.signals.length [num 0])⟩,o0,o0,o0,o0,o0,⟨0,.box [.sl 7 1 1 0 A,.sl 8 1 1 0 A,.sl 9 1 1 0 c.inputs.length,.sl 10 1 1 0 c.signals.length,.sl 11 1 1 0 c.signals.length]⟩]
def T57(k:Nat):Tm:=[none,bN 0,bN 6,bN 17,nN k]++zN 39
theorem zgv(c:Ct){k:Nat}(hk:k<=c.signals.length):(ini c k).length=c.signals.length:=by
 have:=qlf (A:=c.signals.map Sg.init) (B:=List.replicate c.signals.length false) (by simp) (k:=k) (by simpa using hk)
 simpa using this
theorem jgd(c:Ct)(A:Nat)(hn:c.signals.length<=128){st:St}(h0:At (T57 0) (h57 c A 0) st):∃r,ev pg (.code (.going 18 L119_0) st)=some r/\qaq (.exit 0) (T57 c.signals.length) (h57 c A c.signals.length) r:=by
 refine qhj c.signals.length T57 (h57 c A) _ ?_ ?_ h0
 .intro k f hf hk
  have hk':(k:Int)<c.signals.length:=by omega
  have wk:=qbb (k:=k) (by omega)
  have hl:=zgv c (k:=k) (by omega)
  have e:=qjz (A:=c.signals.map Sg.init) (B:=List.replicate c.signals.length false) (by simp) (k:=k) (by simpa using hk)
  rw[List.getElem_map]at e
  unfold h57 T57 ini
  rw[<-e]
  unfold ini at hl
  generalize mix (c.signals.map Sg.init) (List.replicate c.signals.length false) k=W at *
  have hkW:k<W.length:=by omega
  simp[qab,exT,qal,L119_0,hk,hk',wk,hkW,hf.ne]
 .intro f hf
  unfold h57 T57 ini
  generalize mix (c.signals.map Sg.init) (List.replicate c.signals.length false) c.signals.length=W at *
  simp[L119_0,hf.ne]
theorem qyn{c:Ct}(hfew:c.small=true)(hc:c.check=0):Rdy c (qho c):=⟨hfew,qtf hc⟩
theorem ev119{c:Ct}(hfew:c.small=true)(hc:c.check=0):ev pg (.call (.fn 119 [] []) [c.v] [])=some { v:=(qgs c).v,st:=⟨[],[]⟩ }:=by
 have hF:=qyn hfew hc
 have hM:=hF.mid
 have h88:=ev191 c (qho c) hF.small hF.shp hM.sig (fun x hx=>(hF.sig x hx).on)
 have hl:=@jgd c c.act.toNat hM.sig
 have hact:=hM.act
 have hhi:=hM.hi
 have hinp:=hM.inp
 have hsig:=hM.sig
 unfold qgs
 generalize qdq c (qho c)=u at *
 have z0:ini c 0=List.replicate c.signals.length false:=qhk _ _
 have z1:ini c c.signals.length=c.signals.map Sg.init:=by
  have:=qjy (A:=c.signals.map Sg.init) (B:=List.replicate c.signals.length false) (by simp)
  rwa [List.length_map]at this
 unfold h57 at hl
 rw[z0,z1]at hl
 unfold qho at h88
 change c.act=((c.act.toNat:Nat):Int)at hact
 generalize c.act.toNat=A at *
 have h88':ev pg (.call (.fn 191 [] []) [.agg [num c.act,.imm (c.inputs.map qoe),.imm (c.signals.map Sg.row),qeg c.plus,qeg c.minus],.agg [.imm (List.replicate A [num 0]),.imm (List.replicate A [.bool false]),.imm (List.replicate c.inputs.length [.bool false]),.imm (c.signals.map (qfa∘Sg.init)),.imm (List.replicate c.signals.length [num 0])]] [])=some { v:=u.v,st:=⟨[],[]⟩ }:=by
  rw[<-h88]
  simp only[Ste.v,Ste.cells,qeg,qdw,List.map_replicate,List.map_map]
 have a1:A*8<=140737488355328:=by omega
 have a2:A<=4611686018427387904:=by omega
 have a3:A<=140737488355328:=by omega
 have i2:c.inputs.length<=4611686018427387904:=by omega
 have i3:c.inputs.length<=140737488355328:=by omega
 have s1:c.signals.length*8<=140737488355328:=by omega
 have s2:c.signals.length<=4611686018427387904:=by omega
 have s3:c.signals.length<=140737488355328:=by omega
 rw[qaa,pg119]
 simp[qab,exT,qal,ir119,hact,a1,a2,a3,i2,i3,s1,s2,s3,qah]
 generalize hr:ev pg (.code (.going _ L119_0) _)=o
 obtain⟨r,rfl,f,hf,rfl⟩:∃r,o=some r/\_:=by rw[<-hr];exact hl (by simp[T57,hact])
 simp[T57,h88']
def qde(c:Ct):Ste×List Int×Int:=if c.check=0 then qhd c (qgs c)else(zeroS,[],c.check)
theorem ev60(c:Ct)(hfew:c.small=true):ev pg (.call (.fn 60 [] []) [c.v] [])=some { v:=zag (qde c),st:=⟨[],[]⟩ }:=by
 have h31:=ev71 c hfew
 unfold qde
 rw[qaa,pg60]
 by_cases h:c.check=0
 .have h57:=ev119 hfew h
  have h55:=ev118 (c:=c) (s:=qgs c) ⟨hfew,qhm h⟩
  rw[if_pos h]
  rw[h]at h31
  generalize qhd c (qgs c)=x at *
  generalize qgs c=b at *
  simp[qab,exT,qal,ir60,h31,h57,h55]
 .rw[if_neg h]
  have hb:(c.check==0)=false:=by simpa using h
  generalize c.check=e at *
  simp[ir60,h31,h,hb,zeroS]
def qrh(c:Ct)(s:Ste):Bool:=((qce c s).map fun x=>qhf s x.1).getD false
theorem ev194{c:Ct}{s:Ste}(h:Rdy c s):ev pg (.call (.fn 194 [] []) [c.v,s.v] [])=some { v:=.bool (qrh c s),st:=⟨[],[]⟩ }:=by
 have h83:=ev237 h
 unfold qrh
 rw[qaa,pg194]
 cases hZ:qce c s with
 | none =>
  rw[hZ]at h83
  simp[qxw]at h83
  simp[ir194,h83]
 | some x =>
  obtain⟨t,m⟩:=x
  have h20:=ev97 s t h.small
  rw[hZ]at h83
  simp[qxw]at h83
  simp[ir194,h83,h20]
def zak(c:Ct)(s:Ste):Bool×Int:=if stE c s=0 then(qrh c s,0)else(false,stE c s)
def quE(c:Ct)(s:Ste):Int:=if stE c s=0 then(if qrh c s=true then 0 else 14)else stE c s
theorem ev127(c:Ct)(s:Ste)(hfew:c.small=true)(hs:s.small):ev pg (.call (.fn 127 [] []) [c.v,s.v] [])=some { v:=num (quE c s),st:=⟨[],[]⟩ }:=by
 have h27:=ev193' c s hfew hs
 unfold quE
 rw[qaa,pg127]
 by_cases h:stE c s=0
 .have h48:=ev194 ⟨hfew,h⟩
  rw[if_pos h]
  rw[h]at h27
  cases hb:qrh c s<;>rw[hb]at h48<;>simp[ir127,h27,h48]
 .rw[if_neg h]
  have hb:(stE c s==0)=false:=by simpa using h
  generalize stE c s=e at *
  simp[ir127,h27,h,hb]
abbrev evs(l:List Evn):V:=.imm (l.map Evn.row)
def qig(kd:Int)(p:Nat->Bool)(k:Nat):List Evn:=((List.range k).filter p).map fun(i:Nat)=>⟨kd,i,false⟩
theorem qrd(kd:Int)(p:Nat->Bool)(k:Nat):qig kd p (k+1)=if p k=true then qig kd p k++[⟨kd,k,false⟩]else qig kd p k:=by
 unfold qig
 rw[List.range_succ,List.filter_append,List.map_append]
 cases h:p k<;>simp[h]
theorem qez(kd:Int)(p:Nat->Bool)(k:Nat):(qig kd p k).length<=k:=by
 unfold qig
 rw[List.length_map]
 exact Nat.le_trans (List.length_filter_le _ _) (by simp)
theorem qjp(s:Ste):qdg s=qig 0 (qbm s 0) s.ends.length++qig 1 (qbm s 1) s.timers.length:=rfl
abbrev h53(s:Ste)(l:List Evn)(a:Nat×Nat):H:=[⟨0,.box s.cells⟩,o0,⟨a.1,.arr a.2 (l.map Evn.row)⟩]
def zrk(s:Ste)(k:Nat)(a:Nat×Nat):Tm:=[none,bN 0,some (.sl 1 0 0 0 0),some (.sl 2 a.1 a.2 0 (qig 0 (qbm s 0) k).length),nN k]++zN 46
def zrl(s:Ste)(k:Nat)(a:Nat×Nat):Tm:=[none,bN 0,some (.sl 1 0 0 0 0),some (.sl 2 a.1 a.2 0 (qig 0 (qbm s 0) s.ends.length++qig 1 (qbm s 1) k).length),none,nN k]++zN 45
abbrev gm3(a:Nat×Nat):Prop:=a.2=3\/a.2=0
theorem zzy(s:Ste)(hs:s.small){st:St}(a0:Nat×Nat)(g0:gm3 a0)(h0:At (zrk s 0 a0) (h53 s (qig 0 (qbm s 0) 0) a0) st):∃r,ev pg (.code (.going 3 L120_0) st)=some r/\∃a,gm3 a/\qaq (.exit 0) (zrk s s.ends.length a) (h53 s (qig 0 (qbm s 0) s.ends.length) a) r:=by
 have hse:=hs.e
 refine qdb s.ends.length (zrk s) (fun k a=>h53 s (qig 0 (qbm s 0) k) a) (fun _ a=>gm3 a) _ ?_ ?_ a0 g0 h0
 .rintro k ⟨g,m⟩ f hf hk hG
  have hk':(k:Int)<s.ends.length:=by omega
  have wk:=qbb (k:=k) (by omega)
  have hsl:=qez 0 (qbm s 0) k
  have hp:qbm s 0 k=(s.ends[k]==1||s.ends[k]==3):=by
   unfold qbm;rw[if_pos rfl,jA hk];rfl
  unfold zrk h53
  rw[qrd,hp]
  generalize qig 0 (qbm s 0) k=B at *
  have hb1:(B.length+1)*24<=140737488355328:=by omega
  have hmm:m=3\/m=0:=hG
  by_cases h1:s.ends[k]=1
  .rcases hmm with rfl | rfl<;>simp[L120_0,hk,hk',wk,h1,hb1,hf.ne]
  .have h1b:(s.ends[k]==1)=false:=by simpa using h1
   by_cases h3:s.ends[k]=3
   .rcases hmm with rfl | rfl<;>simp[L120_0,hk,hk',wk,h3,hb1,hf.ne]
   .have h3b:(s.ends[k]==3)=false:=by simpa using h3
    rcases hmm with rfl | rfl<;>simp[L120_0,hk,hk',wk,h1,h1b,h3,h3b,hf.ne]
 .rintro⟨g,m⟩ f hf hG
  unfold zrk h53
  generalize qig 0 (qbm s 0) s.ends.length=B at *
  have hmm:m=3\/m=0:=hG
  rcases hmm with rfl | rfl<;>simp[L120_0,hf.ne]
theorem zzz(s:Ste)(hs:s.small){st:St}(a0:Nat×Nat)(g0:gm3 a0)(h0:At (zrl s 0 a0) (h53 s (qig 0 (qbm s 0) s.ends.length++qig 1 (qbm s 1) 0) a0) st):∃r,ev pg (.code (.going 3 L120_1) st)=some r/\∃a,gm3 a/\qaq (.exit 2) (zrl s s.timers.length a) (h53 s (qdg s) a) r:=by
 have hse:=hs.e
 have hst:=hs.t
 rw[qjp]
 refine qdb s.timers.length (zrl s) (fun k a=>h53 s (qig 0 (qbm s 0) s.ends.length++qig 1 (qbm s 1) k) a) (fun _ a=>gm3 a) _ ?_ ?_ a0 g0 h0
 .rintro k ⟨g,m⟩ f hf hk hG
  have hk':(k:Int)<s.timers.length:=by omega
  have wk:=qbb (k:=k) (by omega)
  have hsl:=qez 1 (qbm s 1) k
  have hsl0:=qez 0 (qbm s 0) s.ends.length
  have hp:qbm s 1 k=(s.timers[k]==1):=by
   unfold qbm;rw[if_neg (by omega),jA hk];rfl
  unfold zrl h53
  rw[qrd,hp]
  generalize qig 0 (qbm s 0) s.ends.length=B0 at *
  generalize qig 1 (qbm s 1) k=B at *
  have hb1:(B0.length+(B.length+1))*24<=140737488355328:=by omega
  have hmm:m=3\/m=0:=hG
  by_cases h1:s.timers[k]=1
  .rcases hmm with rfl | rfl<;>simp[L120_1,hk,hk',wk,h1,hb1,hf.ne,Nat.add_assoc]
  .have h1b:(s.timers[k]==1)=false:=by simpa using h1
   rcases hmm with rfl | rfl<;>simp[L120_1,hk,hk',wk,h1,h1b,hf.ne]
 .rintro⟨g,m⟩ f hf hG
  unfold zrl h53
  generalize qig 0 (qbm s 0) s.ends.length++qig 1 (qbm s 1) s.timers.length=B at *
  have hmm:m=3\/m=0:=hG
  rcases hmm with rfl | rfl<;>simp[L120_1,hf.ne]
theorem ev120(s:Ste)(hs:s.small):ev pg (.call (.fn 120 [] []) [s.v] [])=some { v:=evs (qdg s),st:=⟨[],[]⟩ }:=by
 have hl1:=@zzy s hs
 have hl2:=@zzz s hs
 have z:qig 1 (qbm s 1) 0=[]:=rfl
 have z0:qig 0 (qbm s 0) 0=[]:=rfl
 unfold zrl at hl2
 unfold zrk at hl1
 rw[z,List.append_nil,<-qjp]at hl2
 rw[z0]at hl1
 generalize qig 0 (qbm s 0) s.ends.length=B0 at *
 generalize qdg s=B at *
 rw[qaa,pg120]
 simp[ir120,qah]
 generalize hr:ev pg (.code (.going _ L120_0) _)=o
 obtain⟨r,rfl,⟨g,m⟩,hm,f,hf,rfl⟩:∃r,o=some r/\_:=by rw[<-hr];exact hl1 (0,0) (.inr rfl) (by simp)
 clear hr
 have hmm:m=3\/m=0:=hm
 rcases hmm with rfl | rfl<;>simp[hf.ne]
 .generalize hr:ev pg (.code (.going _ L120_1) _)=o
  obtain⟨r,rfl,⟨g2,m2⟩,hm2,f2,hf2,rfl⟩:∃r,o=some r/\_:=by rw[<-hr];exact hl2 (g,3) (.inl rfl) (by simp[hf.ne])
  clear hr
  have hmm2:m2=3\/m2=0:=hm2
  rcases hmm2 with rfl | rfl<;>simp
 .generalize hr:ev pg (.code (.going _ L120_1) _)=o
  obtain⟨r,rfl,⟨g2,m2⟩,hm2,f2,hf2,rfl⟩:∃r,o=some r/\_:=by rw[<-hr];exact hl2 (g,0) (.inr rfl) (by simp[hf.ne])
  clear hr
  have hmm2:m2=3\/m2=0:=hm2
  rcases hmm2 with rfl | rfl<;>simp
def qcq(c:Ct)(s:Ste):List Evn×Int:=if quE c s=0 then(qdg s,0)else([],quE c s)
theorem ev77(c:Ct)(s:Ste)(hfew:c.small=true)(hs:s.small):ev pg (.call (.fn 77 [] []) [c.v,s.v] [])=some { v:=.tup [evs (qcq c s).1,num (qcq c s).2],st:=⟨[],[]⟩ }:=by
 have h52:=ev127 c s hfew hs
 have h53:=ev120 s hs
 unfold qcq
 rw[qaa,pg77]
 by_cases h:quE c s=0
 .rw[if_pos h]
  rw[h]at h52
  generalize qdg s=p at *
  simp[ir77,h52,h53]
 .rw[if_neg h]
  have hb:(quE c s==0)=false:=by simpa using h
  generalize quE c s=e at *
  simp[ir77,h52,h,hb]
theorem zdb{N:Nat}{l m:List Int}:norm N (l++norm N m)=norm N (l++m) :=
 qze fun x h1 h2=>by rw[jQ,jQ,qle];exact⟨fun a=>a.elim .inl (fun b=>.inr b.1),fun a=>a.elim .inl (fun b=>.inr ⟨b,h1,h2⟩)⟩
theorem qxc{c:Ct}{s:Ste}:qce c s=none<->qca c s=none:=by
 unfold qce
 cases qca c s<;>simp
abbrev h16(c:Ct)(k:Nat)(a:Ste×List Int):H:=[⟨0,.box c.cells⟩,⟨0,.box a.1.cells⟩,o0,o0,o0,o0,o0,⟨0,.box (q2u 2)⟩,o0,ob0 k]
def T16(k:Nat)(a:Ste×List Int):Tm:=[none,none,bN 0,bN 1,bN 7,some (.sl 8 0 0 0 0),nN 0,none,some (sl0 k a.2),none,none,none,none,none,none,none,none,none,none,nN k]++zN 23
def z3l(m:List Int):Tm:=[none,none,none,none,bN 7,some (qeg m),nN 0]++zN 36
abbrev jfs(c:Ct)(k:Nat)(s t:Ste):H:=[⟨0,.box c.cells⟩,⟨0,.box s.cells⟩,o0,o0,o0,o0,o0,⟨0,.box (q2u 16)⟩,o0,ob0 k,o0,o0,o0,o0,o0,⟨0,.box t.cells⟩,o0,o0,o0,o0,o0]
def jae:Tm:=[none,none,none,none,bN 7,some .nils,nN 21]++zN 36
def zrb(c:Ct)(Z:Option (Ste×List Int))(r:R):Prop:=match Z with
 | some (t,m)=>qaq .ret (z3l m) (jeu c t) r
 | none=>(∃k s t,qaq .ret jae (jfs c k s t) r)\/∃a,qaq (.exit 0) (T16 65 a) (h16 c 65 a) r
theorem zlb{c:Ct}{t:Ste}{m:List Int}(hm:Lin (qac c c.act.toNat) m):∀x∈m++qme c t,0<=x/\x<(qou c:Nat):=by
 intro x hx
 rcases jQ.1 hx with h | h
 .exact(hm.mono (by unfold qou;omega)).b x h
 .exact(qvf c t).b x h
set_option maxHeartbeats 1000000 in
theorem jfw{c:Ct}{s:Ste}(hs:Rdy c s){st:St}(h0:At (T16 0 (s,[])) (h16 c 0 (s,[])) st):∃r,ev pg (.code (.going 10 L89_0) st)=some r/\zrb c (qif c s) r:=by
 generalize hR:qif c s=Z
 refine qdb 65 T16 (h16 c) (G86 c Z) _ ?_ ?_ (s,[]) ⟨hR,hs,Lin.nil _,fun _=>rfl⟩ h0
 .rintro k ⟨t,l⟩ f hf hk hG
  have hgo:=hG.go
  have hrd:=hG.rdy
  have hl:=hG.lin
  have hn:=hG.nil
  simp only at hgo hrd hl hn
  have hk':(k:Int)<65:=by omega
  have wk:=qbb (k:=k) (by omega)
  have w1:IntKind.i64.wrap 1=1:=by decide
  have hN:=qux hrd.mid
  rw[show 65-k=(64-k)+1 by omega,qft]at hgo
  cases hZ:qca c t with
  | none =>
   have e46:=ev148_none hrd hZ
   rw[qxc.2 hZ]at hgo
   simp only at hgo
   subst hgo
   simp[T16,L89_0,hk',e46,hf.ne]
   exact .inl ⟨k,t,zeroS,by simp[jae,hf.ne,zeroS,zqs]⟩
  | some x =>
   obtain⟨v,m⟩:=x
   have e46:=ev148_some hrd hZ
   have hrv:qce c t=some (qjw (qgn c v),norm (qou c) (m++qme c v)):=by unfold qce;rw[hZ];rfl
   rw[hrv]at hgo
   simp only at hgo
   have hru:=hrd.round hrv
   have hml:=qpl hZ
   have hin:=zlb (t:=v) hml
   have hmn:=hml.len
   have hcn:=(qvf c v).len
   have hln:=hl.len
   have e54:=ev94 (qou c) l (m++qme c v) (by omega) (by simp;unfold qou at hN hcn;omega) (fun x hx=>(jQ.1 hx).elim (hl.b x) (hin x))
   rw[zdb]at hgo
   have hl':Lin (qou c) (norm (qou c) (l++(m++qme c v))):=Lin.norm _ _
   have e47:=ev149 (qjw (qgn c v)) t hru.small
   rw[qkn]at e47
   generalize norm (qou c) (l++(m++qme c v))=p at *
   generalize m++qme c v=q at *
   generalize qjw (qgn c v)=u at *
   by_cases hst:qhf t u=true
   .rw[if_pos hst]at hgo
    rw[hst]at e47
    subst hgo
    obtain rfl:=qgm.1 hst
    unfold T16 sl0 h16 ob0
    by_cases hk0:k=0
    .subst hk0
     rw[hn rfl]at e54
     have e54':ev pg (.call (.fn 94 [] []) [.imm [],qeg q] [])=_:=e54
     simp[L89_0,e46,e54',e47,hf.ne]
     simp[zrb,z3l,hf.ne]
    .simp[L89_0,hk0,hk',e46,e54,e47,hf.ne]
     simp[zrb,z3l,hf.ne]
   .have hsf:qhf t u=false:=by simpa using hst
    rw[if_neg hst]at hgo
    rw[hsf]at e47
    have hG':G86 c Z (k+1) (u,p):=⟨by rw[<-hgo,show 65-(k+1)=64-k by omega],hru,hl',by omega⟩
    unfold T16 sl0 h16 ob0
    by_cases hk0:k=0
    .subst hk0
     rw[hn rfl]at e54
     have e54':ev pg (.call (.fn 94 [] []) [.imm [],qeg q] [])=_:=e54
     simp[L89_0,e46,e54',e47,w1,hf.ne]
     exact⟨u,p,hG',by simp⟩
    .simp[L89_0,hk0,hk',wk,e46,e54,e47,hf.ne]
     exact⟨u,p,hG',by simp⟩
 .rintro⟨t,l⟩ f hf hG
  have hgo:=hG.go
  simp only[Nat.sub_self,qft]at hgo
  subst hgo
  simp[T16,L89_0]
  exact .inr ⟨(t,l),by simp[T16,hf.ne]⟩
theorem ev89(c:Ct)(s:Ste)(hfew:c.small=true)(hs:s.small):ev pg (.call (.fn 89 [] []) [c.v,s.v] [])=some { v:=zag (qqz c s),st:=⟨[],[]⟩ }:=by
 have e45:=ev147 c s hfew hs
 unfold qqz
 rw[qaa,pg89]
 by_cases h:stE c s=0
 .have hl:=@jfw c s ⟨hfew,h⟩
  rw[if_pos h]
  rw[h]at e45
  unfold qhd
  generalize qif c s=Z at *
  simp[ir89,e45,qah]
  generalize hr:ev pg (.code (.going _ L89_0) _)=o
  obtain⟨r,rfl,hQ⟩:∃r,o=some r/\_:=by rw[<-hr];exact hl (by simp[T16,sl0,ob0])
  clear hr
  cases Z with
  | none =>
   rcases hQ with⟨k,s,t,f,hf,rfl⟩ | ⟨⟨s,l⟩,f,hf,rfl⟩
   .simp[jae,zeroS]
   .simp[T16,zeroS,ob0]
  | some p =>
   obtain⟨t,m⟩:=p
   obtain⟨f,hf,rfl⟩:=hQ
   simp[z3l]
 .rw[if_neg h]
  have hb:(stE c s==0)=false:=by simpa using h
  generalize stE c s=e at *
  simp[ir89,e45,h,hb,zeroS]
end Go.Proofs.YtbepbclaoohngaaGreat
