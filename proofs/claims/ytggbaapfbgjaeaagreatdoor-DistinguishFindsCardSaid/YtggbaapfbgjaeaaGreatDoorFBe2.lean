/- Rest and. -/
import Derived.Test.YtggbaapfbgjaeaaGreatDoorFRd2
import Derived.Test.YtggbaapfbgjaeaaGreatDoorFRn1
set_option linter.all false
namespace Go.Proofs.YtggbaapfbgjaeaaGreatDoor
open Go Go.Am Go.Proofs
set_option maxRecDepth 100000
set_option maxHeartbeats 1000000 in
theorem ev180_some{c:Ct}{s:Ste}(h:Rdy c s){t:Ste}{m:List Int}(hz:qby c s=some (t,m)):ev pg (.call (fnq 180) [c.v,s.v] [])=some (rvq (.tup [(qkf (qgq c t)).v,qcr (m++qms c t),num 0])):=by
 have ht:=h.settle hz;have e81:=ev210_some h hz;have e60:=ev211 t ht.small;have hml:=(qqi hz).len;have hmid:=ht.mid;have hN:=q1n hmid;have hS:=ht.shp;have hm:m.length<=4096:=by unfold qqq at hN;omega
 have hl:=@z6r c t s ht m hm c.act.toNat rfl;have hact:=hmid.act;have hhi:=hmid.hi;have hinp:=hmid.inp;have hsig:=hmid.sig;have hwl:t.valves.length=c.act.toNat:=by have:=hS.w;omega
 have hel:t.ends.length=c.act.toNat:=by have:=hS.e;omega
 have l1:(vA c t).length=t.valves.length:=List.length_mapIdx;have l2:(eA c t).length=t.ends.length:=by rw[List.length_zipWith,l1];omega
 have z1:mix (vA c t) t.valves 0=t.valves:=qhl _ _;have z2:mix (eA c t) t.ends 0=t.ends:=qhl _ _;have z3:mix (vA c t) t.valves c.act.toNat=vA c t:=by have:=qkh l1;rwa [l1,hwl]at this
 have z4:mix (eA c t) t.ends c.act.toNat=eA c t:=by have:=qkh l2;rwa [l2,hel]at this
 have z5:cfL c (qae t) c.act.toNat 0=[]:=rfl;have z6:cfL c (qae t) c.act.toNat c.act.toNat=qms c t:=rfl;unfold h46 T46 at hl;rw[z1,z2,z3,z4,z5,z6,List.append_nil]at hl;have hg:qkf (qgq c t)=⟨eA c t,vA c t,t.inputs,t.values,t.timers⟩:=rfl;rw[hg];have w1:IntKind.i64.wrap (2*c.act)=2*(c.act.toNat:Int):=by rw[show(2:Int)*c.act=2*(c.act.toNat:Int)by omega];exact qam (by omega) (by omega)
 have w2:IntKind.i64.wrap (2*(c.act.toNat:Int)+c.inputs.length)=2*(c.act.toNat:Int)+c.inputs.length:=qam (by omega) (by omega);have w3:IntKind.i64.wrap (2*(c.act.toNat:Int)+c.inputs.length+c.signals.length)=2*(c.act.toNat:Int)+c.inputs.length+c.signals.length:=qam (by omega) (by omega);unfold qad at hl;generalize qms c t=B at *;generalize vA c t=VV at *;generalize eA c t=EE at *;generalize c.act.toNat=A at *;rw[qaa,pg180.1];simp[ir180,e81,e60,w1,w2,w3,qai];generalize hr:ev pg (.code (.going _ L180_0) _)=o;obtain⟨r,rfl,g,f,hf,rfl⟩:∃r,o=some r/\_:=by rw[<-hr];exact hl 0 (by simp[hact])
 clear hr;simp[l1.symm,l2.symm]
theorem ev180_none{c:Ct}{s:Ste}(h:Rdy c s)(hz:qby c s=none):ev pg (.call (fnq 180) [c.v,s.v] [])=some (rvq (.tup [qfa.v,qcr [],num 21])):=by have e81:=ev210_none h hz;rw[qaa,pg180.1];simp[ir180,e81,qfa]
theorem ev181(N:Nat)(a b:List Int)(ha:a.length<=10000)(hb:b.length<=10000)(hbd:∀x∈a++b,0<=x/\x<(N:Int)):ev pg (.call (fnq 181) [qcr a,qcr b] [])=some (rvq (qcr (norm N (a++b)))):=by
 have e32:=ev126c [a,b] (by simp) (by simp) (by simp;omega);simp only[zis,List.map_cons,List.map_nil,List.flatten_cons,List.flatten_nil,List.append_nil]at e32;generalize hab:a++b=l at *;have hl:l.length<=20000:=by rw[<-hab];simp;omega
 have key:∀(g:Nat) (l:List Int),calm [⟨g,.arr 1 (l.map qbk)⟩]:=fun g l=>by unfold calm;simp
 obtain⟨l',hp,hsr,e33⟩:=ev213 (h:=[⟨0,.arr 1 (l.map qbk)⟩]) (i:=0) (g:=0) (l:=l) rfl (key 0 l) (by omega);have hpl:=hp.length_eq;obtain⟨rows,hr1,hr2,e36⟩:=ev214 (h:=[⟨0,.arr 1 (l'.map qbk)⟩]) (i:=0) (g:=0) (l:=l') rfl (key 0 l') (by omega);have hcn:qaz l'=norm N l:=qua hsr (fun x=>hp.mem_iff) hbd;rw[hcn]at hr2 e36;rw[hpl]at e36;have hle:(norm N l).length<=rows.length:=by have:=congrArg List.length hr2;simp at this;omega
 have hif:=zkn hr2;have hif2:(if(norm N l).length=rows.length then some rows else some (rows.take (norm N l).length))=some ((norm N l).map qbk):=by
  split
  .rename_i e;rw[if_pos e]at hif;rw[hif]
  .rename_i e;rw[if_neg e]at hif;rw[hif]
 generalize norm N l=M at *;simp at e33 e36;rw[qaa,pg181.1];simp[ir181,e32,e33,e36,hle,hif2]
def sl0(k:Nat)(l:List Int):V:=if k=0 then .sl 9 0 0 0 0 else qcr l
theorem zqm(k:Nat)(l:List Int):sl0 k l ≠ .nils:=by unfold sl0;split<;>simp
def ob0(k:Nat):Ob:=if k=0 then o0 else⟨0,.frz 0 []⟩
abbrev h86(c:Ct)(k:Nat)(a:Ste×List Int):H:=[⟨0,.box c.cells⟩,⟨0,.box a.1.cells⟩,o0,o0,o0,o0,o0,⟨0,.box (q3u 2)⟩,o0,ob0 k]
def T86(k:Nat)(a:Ste×List Int):Tm:=[none,none,bN 0,bN 1,bN 7,some (.sl 8 0 0 0 0),some (.bool false),some (sl0 k a.2),nN k]++zN 27
abbrev z5k(c:Ct)(t:Ste):H:=[⟨0,.box c.cells⟩,⟨0,.box t.cells⟩,o0,o0,o0,o0,o0,⟨0,.box t.cells⟩,o0,⟨0,.frz 0 []⟩,o0,o0,o0,o0,o0,⟨0,.box t.cells⟩]
def z1e(m:List Int):Tm:=[none,none,none,none,bN 7,some (qcr m),some (.bool true)]++zN 29
abbrev z6k(c:Ct)(k:Nat)(s t:Ste):H:=[⟨0,.box c.cells⟩,⟨0,.box s.cells⟩,o0,o0,o0,o0,o0,⟨0,.box (q3u 16)⟩,o0,ob0 k,o0,o0,o0,o0,o0,⟨0,.box t.cells⟩,o0,o0,o0,o0,o0]
def z2m:Tm:=[none,none,none,none,bN 7,some .nils,some (.bool false)]++zN 29
def zqz(c:Ct)(Z:Option (Ste×List Int))(r:R):Prop:=match Z with
 | some (t,m)=>qar .ret (z1e m) (z5k c t) r
 | none=>(∃k s t,qar .ret z2m (z6k c k s t) r)\/∃a,qar (.exit 0) (T86 65 a) (h86 c 65 a) r
structure G86(c:Ct)(Z:Option (Ste×List Int))(k:Nat)(a:Ste×List Int):Prop where
 go:qgx c (65-k) a.1 a.2=Z
 rdy:Rdy c a.1
 lin:Lin (qqq c) a.2
 nil:k=0->a.2=[]
set_option maxHeartbeats 1000000 in
theorem z6z{c:Ct}{s:Ste}(hs:Rdy c s){st:St}(h0:At (T86 0 (s,[])) (h86 c 0 (s,[])) st):∃r,ev pg (.code (.going 10 L188_0) st)=some r/\zqz c (qiy c s) r:=by
 generalize hR:qiy c s=Z;refine qcg 65 T86 (h86 c) (G86 c Z) _ ?_ ?_ (s,[]) ⟨hR,hs,Lin.nil _,fun _=>rfl⟩ h0
 .rintro k ⟨t,l⟩ f hf hk hG;have hgo:=hG.go;have hrd:=hG.rdy;have hl:=hG.lin;have hn:=hG.nil;simp only at hgo hrd hl hn;have hk':(k:Int)<=64:=by omega
  have wk:=qbc k;have h83:=ev221 hrd;have hN:=q1n hrd.mid;rw[show 65-k=(64-k)+1 by omega,qgx]at hgo;cases hZ:qcf c t with
  | none =>rw[hZ]at h83 hgo;simp[q1b]at h83;simp only at hgo;subst hgo;have hz:qfa.v=.agg [.imm [],.imm [],.imm [],.imm [],.imm []]:=rfl;simp[T86,L188_0,hk',h83,hf.ne];exact .inl ⟨k,t,qfa,by simp[z2m,hf.ne,qfa,zqm]⟩
  | some x =>
   obtain⟨u,m⟩:=x;rw[hZ]at h83 hgo;simp[q1b]at h83;simp only at hgo;have hru:=hrd.round hZ;have hm:=zeg hZ;have e65:=ev222 l m (by have:=hl.len;omega) (by have:=hm.len;omega);rw[hl.mrg hm]at e65;have hl':Lin (qqq c) (norm (qqq c) (l++m)):=Lin.norm _ _;have h20:=ev223 t u hrd.small;generalize norm (qqq c) (l++m)=p at *;by_cases hst:qjb t u=true
   .rw[if_pos hst]at hgo;rw[hst]at h20;subst hgo;obtain rfl:=qhv.1 hst;unfold T86 sl0 h86 ob0;by_cases hk0:k=0
    .subst hk0;rw[hn rfl]at e65;have e65':ev pg (.call (fnq 222) [.imm [],qcr m] [])=_:=e65;simp[L188_0,h83,e65',h20,hf.ne];simp[zqz,z1e,hf.ne]
    .simp[L188_0,hk0,hk',h83,e65,h20,hf.ne];simp[zqz,z1e,hf.ne]
   .have hsf:qjb t u=false:=by simpa using hst
    rw[if_neg hst]at hgo;rw[hsf]at h20;have hG':G86 c Z (k+1) (u,p):=⟨by rw[<-hgo,show 65-(k+1)=64-k by omega],hru,hl',by omega⟩
    unfold T86 sl0 h86 ob0;by_cases hk0:k=0
    .subst hk0;rw[hn rfl]at e65;have e65':ev pg (.call (fnq 222) [.imm [],qcr m] [])=_:=e65;simp[L188_0,h83,e65',h20,show IntKind.i64.wrap 1=1 by decide,hf.ne];exact⟨u,p,hG',by simp⟩
    .simp[L188_0,hk0,hk',wk,h83,e65,h20,hf.ne];exact⟨u,p,hG',by simp⟩
 .rintro⟨t,l⟩ f hf hG;have hgo:=hG.go;simp only[Nat.sub_self,qgx]at hgo;subst hgo;simp[T86,L188_0];exact .inr ⟨(t,l),by simp[T86,hf.ne]⟩
theorem ev188{c:Ct}{s:Ste}(h:Rdy c s):ev pg (.call (fnq 188) [c.v,s.v] [])=some (rvq (.tup (q1b (qiy c s)++[.bool (qiy c s).isSome]))):=by
 have hl:=@z6z c s h;generalize qiy c s=Z at *;rw[qaa,pg188.1];simp[ir188,qai];generalize hr:ev pg (.code (.going _ L188_0) _)=o;obtain⟨r,rfl,hQ⟩:∃r,o=some r/\_:=by rw[<-hr];exact hl (by simp[T86,sl0,ob0])
 clear hr;cases Z with
 | none =>
  rcases hQ with⟨k,s,t,f,hf,rfl⟩ | ⟨⟨s,l⟩,f,hf,rfl⟩
  .simp[z2m,q1b,qfa]
  .simp[T86,q1b,qfa,ob0]
 | some p =>obtain⟨t,m⟩:=p;obtain⟨f,hf,rfl⟩:=hQ;simp[z1e,q1b]
abbrev zec(x:Ste×List Int×Int):V:=.tup [x.1.v,qcr x.2.1,num x.2.2]
theorem ev136{c:Ct}{s:Ste}(h:Rdy c s):ev pg (.call (fnq 136) [c.v,s.v] [])=some (rvq (zec (qjn c s))):=by
 have h86:=ev188 h;unfold qjn;rw[qaa,pg136.1];cases hZ:qiy c s with
 | none =>rw[hZ]at h86;simp[q1b]at h86;simp[ir136,h86,qfa]
 | some x =>obtain⟨t,m⟩:=x;rw[hZ]at h86;simp[q1b]at h86;simp[ir136,h86]
def quz(c:Ct)(s:Ste):Ste×List Int×Int:=if stE c s=0 then qjn c s else(qfa,[],stE c s)
abbrev ini(c:Ct)(k:Nat):List Bool:=mix (c.signals.map Sg.init) (List.replicate c.signals.length false) k
abbrev h57(c:Ct)(A:Nat)(k:Nat):H:=[⟨0,.box c.cells⟩,o0,o0,o0,o0,o0,⟨0,.box (q3u 1)⟩,⟨1,.arr 1 (List.replicate A [num 0])⟩,⟨1,.arr 1 (List.replicate A [.bool false])⟩,⟨1,.arr 1 (List.replicate c.inputs.length [.bool false])⟩,⟨1,.arr 1 ((ini c k).map qfj)⟩,⟨1,.arr 1 (List.replicate c.signals.length [num 0])⟩,o0,o0,o0,o0,o0,⟨0,.box [.sl 7 1 1 0 A,.sl 8 1 1 0 A,.sl 9 1 1 0 c.inputs.length,.sl 10 1 1 0 c.signals.length,.sl 11 1 1 0 c.signals.length]⟩]
def T57(k:Nat):Tm:=[none,bN 0,bN 6,bN 17,nN k]++zN 39
theorem zig(c:Ct){k:Nat}(hk:k<=c.signals.length):(ini c k).length=c.signals.length:=by have:=qlq (A:=c.signals.map Sg.init) (B:=List.replicate c.signals.length false) (by simp) (k:=k) (by simpa using hk);simpa using this
theorem z6v(c:Ct)(A:Nat)(hn:c.signals.length<=128){st:St}(h0:At (T57 0) (h57 c A 0) st):∃r,ev pg (.code (.going 18 L92_0) st)=some r/\qar (.exit 0) (T57 c.signals.length) (h57 c A c.signals.length) r:=by
 refine qfn c.signals.length T57 (h57 c A) _ ?_ ?_ h0
 .intro k f hf hk;have hk':(k:Int)<c.signals.length:=by omega
  have wk:=qbc k;have hl:=zig c (k:=k) (by omega);have e:=qki (A:=c.signals.map Sg.init) (B:=List.replicate c.signals.length false) (by simp) (k:=k) (by simpa using hk);rw[List.getElem_map]at e;unfold h57 T57 ini;rw[<-e];unfold ini at hl;generalize mix (c.signals.map Sg.init) (List.replicate c.signals.length false) k=W at *;have hkW:k<W.length:=by omega
  simp[qab,exT,qag,L92_0,hk,hk',wk,hkW,hf.ne]
 .intro f hf;unfold h57 T57 ini;generalize mix (c.signals.map Sg.init) (List.replicate c.signals.length false) c.signals.length=W at *;simp[L92_0,hf.ne]
theorem qzq{c:Ct}(hfew:c.small=true)(hc:c.check=0):Rdy c (qhq c):=⟨hfew,quc hc⟩
theorem ev92{c:Ct}(hfew:c.small=true)(hc:c.check=0):ev pg (.call (fnq 92) [c.v] [])=some (rvq ((qeh c).v)):=by
 have hF:=qzq hfew hc;have hM:=hF.mid;have h88:=ev138 c (qhq c) hF.small hF.shp hM.sig (fun x hx=>(hF.sig x hx).on);have hl:=@z6v c c.act.toNat hM.sig;have hact:=hM.act;have hhi:=hM.hi;have hinp:=hM.inp;have hsig:=hM.sig;unfold qeh;generalize qdp c (qhq c)=u at *;have z0:ini c 0=List.replicate c.signals.length false:=qhl _ _;have z1:ini c c.signals.length=c.signals.map Sg.init:=by have:=qkh (A:=c.signals.map Sg.init) (B:=List.replicate c.signals.length false) (by simp);rwa [List.length_map]at this
 unfold h57 at hl;rw[z0,z1]at hl;unfold qhq at h88;change c.act=((c.act.toNat:Nat):Int)at hact;generalize c.act.toNat=A at *;have h88':ev pg (.call (fnq 138) [.agg [num c.act,.imm (c.inputs.map qpq),.imm (c.signals.map Sg.row),qcr c.plus,qcr c.minus],.agg [.imm (List.replicate A [num 0]),.imm (List.replicate A [.bool false]),.imm (List.replicate c.inputs.length [.bool false]),.imm (c.signals.map (qfj∘Sg.init)),.imm (List.replicate c.signals.length [num 0])]] [])=some (rvq (u.v)):=by rw[<-h88];simp only[Ste.v,Ste.cells,qcr,qdc,List.map_replicate,List.map_map]
 have a1:A*8<=140737488355328:=by omega
 have a2:A<=4611686018427387904:=by omega
 have a3:A<=140737488355328:=by omega
 have i2:c.inputs.length<=4611686018427387904:=by omega
 have i3:c.inputs.length<=140737488355328:=by omega
 have s1:c.signals.length*8<=140737488355328:=by omega
 have s2:c.signals.length<=4611686018427387904:=by omega
 have s3:c.signals.length<=140737488355328:=by omega
 rw[qaa,pg92.1];simp[qab,exT,qag,ir92,hact,a1,a2,a3,i2,i3,s1,s2,s3,qai];generalize hr:ev pg (.code (.going _ L92_0) _)=o;obtain⟨r,rfl,f,hf,rfl⟩:∃r,o=some r/\_:=by rw[<-hr];exact hl (by simp[T57,hact])
 simp[T57,h88']
def qbz(c:Ct):Ste×List Int×Int:=if c.check=0 then qjn c (qeh c)else(qfa,[],c.check)
theorem ev89(c:Ct)(hfew:c.small=true):ev pg (.call (fnq 89) [c.v] [])=some (rvq (zec (qbz c))):=by
 have h31:=ev61 c hfew;unfold qbz;rw[qaa,pg89.1];by_cases h:c.check=0
 .have h57:=ev92 hfew h;have h55:=ev136 (c:=c) (s:=qeh c) ⟨hfew,qdi h⟩;rw[if_pos h];rw[h]at h31;generalize qjn c (qeh c)=x at *;generalize qeh c=b at *;simp[qab,exT,qag,ir89,h31,h57,h55]
 .rw[if_neg h];have hb:(c.check==0)=false:=by simpa using h
  generalize c.check=e at *;simp[ir89,h31,h,hb,qfa]
end Go.Proofs.YtggbaapfbgjaeaaGreatDoor
