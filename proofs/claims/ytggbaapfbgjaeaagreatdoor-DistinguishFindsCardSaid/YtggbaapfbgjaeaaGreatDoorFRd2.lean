/- A round. -/
import Derived.Test.YtggbaapfbgjaeaaGreatDoorFSo15
set_option linter.all false
namespace Go.Proofs.YtggbaapfbgjaeaaGreatDoor
open Go Go.Am Go.Proofs
set_option maxRecDepth 100000
theorem qtp(a b:Ste):qjb a b=qjb b a:=by rw[Bool.eq_iff_iff,qhv,qhv];exact⟨Eq.symm,Eq.symm⟩
theorem zrr{c:Ct}{u:Ste}(h:Rdy c u):∀x∈quv c u,0<=x/\x<(qad c c.act.toNat:Nat):=by intro x hx;unfold quv at hx;obtain⟨j,h1,_,rfl⟩:=(zbp _ _ _ _).1 hx;have:=h.shp.e;have:=h.shp.i;have:=h.mid.act;unfold qad qao;omega
def zfd(k:Nat)(a:Ste×List Int×Nat×Nat):Tm:=[bN 15,none,nN 0,some (.sl 16 0 0 0 0),nN 0,some (.sl 17 a.2.2.1 a.2.2.2 0 a.2.1.length),nN k]++zN 21
abbrev zdh(c:Ct)(s:Ste)(F:Nat)(a:Ste×List Int×Nat×Nat):H:=hM c s a.1 F++hQ a.2.2.1 a.2.2.2 a.2.1
def zrb(k g m:Nat):Tm:=[none,none,nN k,some (.sl 17 g 1 0 m),nN 0]++zN 23
inductive Out123 (c:Ct) (s:Ste) (F:Nat) (Z:Option (Ste×List Int)) (r:R):Prop where
 | no (hz:Z=none) (a:Ste×List Int×Nat×Nat) (hw:a.2.2.2=1\/a.2.2.2=0) (he:qar (.exit 0) (zfd 65 a) (zdh c s F a) r)
 | yes (t:Ste) (m:List Int) (hz:Z=some (t,m)) (k g:Nat) (rows:List (List V)) (hr:rows.take m.length=m.map qbk) (hl:m.length<=rows.length) (he:qar .ret (zrb k g m.length) (hM c s t F++[o0,⟨g,.arr 1 rows⟩]) r)
structure G123(c:Ct)(F:Nat)(Z:Option (Ste×List Int))(k:Nat)(a:Ste×List Int×Nat×Nat):Prop where
 go:qcy c (qad c c.act.toNat) (65-k) a.1 a.2.1=Z
 rdy:Rdy c a.1
 first:qao a.1=F
 len:a.2.1.length<=k*128
 b:∀x∈a.2.1,0<=x/\x<(qad c c.act.toNat:Nat)
 w:a.2.2.2=1\/a.2.2.2=0
theorem Rdy.once{c:Ct}{s:Ste}(h:Rdy c s):Rdy c (qgo c s):=⟨h.few,qxo h.st⟩
theorem zfy(c:Ct)(s u:Ste)(F g:Nat)(rows:List (List V)):calm (hM c s u F++[o0,⟨g,.arr 1 rows⟩]):=by unfold calm;simp
set_option maxHeartbeats 2000000 in
theorem zzf{c:Ct}{u:Ste}(s:Ste)(hu:Rdy c u){st:St}(h0:At (zfd 0 (u,[],0,0)) (zdh c s (qao u) (u,[],0,0)) st):∃r,ev pg (.code (.going 18 L237_0) st)=some r/\Out123 c s (qao u) (qby c u) r:=by
 generalize hR:qby c u=Z;unfold qby at hR;generalize hF:qao u=F at h0 ⊢;refine qcg 65 zfd (fun _ a=>zdh c s F a) (G123 c F Z) _ ?_ ?_ (u,[],0,0) ⟨hR,hu,hF,by simp,by simp,.inr rfl⟩ h0
 .rintro k ⟨t,l,g,w⟩ f hf hk hG;have hgo:=hG.go;have hrd:=hG.rdy;have hfi:=hG.first;have hlen:=hG.len;have hb:=hG.b;have hw:w=1\/w=0:=hG.w;simp only at hgo hrd hfi hlen hb;have hk':(k:Int)<=64:=by omega
  have wk:=qbc k;have e150:=ev253 s hrd g w l;rw[hfi]at e150;have hbl:(quv c t).length<=128:=by have:=qig (q7c c (qae (qdp c t))) (qao t) c.signals.length;have:=hrd.mid.sig;unfold quv;omega
  have hbb:=zrr hrd;have hfi':qao (qgo c t)=F:=by rw[<-hfi];rfl
  rw[show 65-k=(64-k)+1 by omega,qcy]at hgo;have hone:=hrd.once;rw[qtp]at hgo;have hq:(l++quv c t).length*8<=140737488355328:=by simp;omega
  have hbd:∀x∈l++quv c t,0<=x/\x<(qad c c.act.toNat:Nat):=fun x hx=>(jQ.1 hx).elim (hb x) (hbb x);have hll:(l++quv c t).length<=(k+1)*128:=by simp;omega
  generalize quv c t=B at *;have hq1:(l.length+B.length)*8<=140737488355328:=by simpa using hq
  by_cases hst:qjb t (qgo c t)=true
  .rw[if_pos hst]at hgo;have hto:qgo c t=t:=(qhv.1 hst).symm;rw[hst,hto]at e150;simp at e150;have e33:=ev213 (h:=hM c s t F++[o0,⟨g+1,.arr 1 ((l++B).map qbk)⟩]) (i:=17) (g:=g+1) (l:=l++B) rfl (zfy c s t F (g+1) _) (by omega);obtain⟨l',hp,hsr,e33⟩:=e33;have e36:=ev214 (h:=hM c s t F++[o0,⟨g+1,.arr 1 (l'.map qbk)⟩]) (i:=17) (g:=g+1) (l:=l') rfl (zfy c s t F (g+1) _) (by have:=hp.length_eq;omega);obtain⟨rows,hr1,hr2,e36⟩:=e36;have hcn:qaz l'=norm (qad c c.act.toNat) (l++B):=qua hsr (fun x=>hp.mem_iff) hbd;have hle:(qaz l').length<=rows.length:=by
    have:=congrArg List.length hr2;simp at this;omega
   have hpl:=hp.length_eq;rw[hcn]at hr2 e36 hle;rw[hpl]at e36;subst hgo;generalize norm (qad c c.act.toNat) (l++B)=M at *;simp at e33 e36;unfold zfd zdh;rcases hw with rfl | rfl<;>simp[L237_0,hk',e150,hq1,e33,e36,hf.ne]
   all_goals exact .yes t M rfl k (g+1) rows hr2 hle (by simp[zrb,hf.ne])
  .have hsf:qjb t (qgo c t)=false:=by simpa using hst
   rw[if_neg hst]at hgo;rw[hsf]at e150;simp at e150;have hG':G123 c F Z (k+1) (qgo c t,l++B,g+1,1):=⟨by rw[<-hgo,show 65-(k+1)=64-k by omega],hone,hfi',hll,hbd,.inl rfl⟩
   unfold zfd zdh;generalize qgo c t=v at *;rcases hw with rfl | rfl<;>simp[L237_0,hk',e150,hq1,wk,hf.ne]
   all_goals exact⟨_,_,_,_,hG',by simp⟩
 .rintro⟨t,l,g,w⟩ f hf hG;have hgo:=hG.go;simp only[Nat.sub_self,qcy]at hgo;subst hgo;have hw:w=1\/w=0:=hG.w;unfold zfd zdh;rcases hw with rfl | rfl<;>simp[L237_0,hf.ne]
  .exact .no rfl (t,l,g,1) (.inl rfl) (by simp[zfd,hf.ne])
  .exact .no rfl (t,l,g,0) (.inr rfl) (by simp[zfd,hf.ne])
theorem zkn{rows:List (List V)}{W:List (List V)}{n:Nat}(h:rows.take n=W):(if n=rows.length then rows else rows.take n)=W:=by
 split
 .rename_i e;rw[e,List.take_length]at h;exact h
 .exact h
theorem ev237_some{c:Ct}{u:Ste}(s:Ste)(hu:Rdy c u){t:Ste}{m:List Int}(hz:qby c u=some (t,m)):∃k:Nat,ev pg (.call (fnq 237) [.bptr 15 0] (hM c s u (qao u)))=some { v:=.tup [num k,.sl 16 0 1 0 m.length,num 0],st:=⟨[],hM c s t (qao u)++[⟨0,.arr 1 (m.map qbk)⟩]⟩ }:=by
 have hl:=@zzf c u s hu;rw[hz]at hl;generalize qao u=F at *;have key:∃r,∃k:Nat,ev pg (.call (fnq 237) [.bptr 15 0] (hM c s u F))=some r/\r={ v:=.tup [num k,.sl 16 0 1 0 m.length,num 0],st:=⟨[],hM c s t F++[⟨0,.arr 1 (m.map qbk)⟩]⟩ }:=by
  rw[qaa,pg237.1];simp[ir237,qai];generalize hr:ev pg (.code (.going _ L237_0) _)=o;obtain⟨r,rfl,hO⟩:∃r,o=some r/\_:=by rw[<-hr];exact hl (by simp[zfd])
  clear hr;cases hO with
  | no hz'=>cases hz'
  | yes t' m' hz' k g rows hr hle he =>obtain⟨rfl,rfl⟩:=Prod.mk.inj (Option.some.inj hz');obtain⟨f,hf,rfl⟩:=he;have hif:=zkn hr;simp[zrb,qch,qel,qdz,hle,hif];exact⟨k,rfl⟩
 obtain⟨r,k,e,rfl⟩:=key;exact⟨k,e⟩
theorem ev237_none{c:Ct}{u:Ste}(s:Ste)(hu:Rdy c u)(hz:qby c u=none):∃t,ev pg (.call (fnq 237) [.bptr 15 0] (hM c s u (qao u)))=some { v:=.tup [num 0,.nils,num 21],st:=⟨[],hM c s t (qao u)⟩ }:=by
 have hl:=@zzf c u s hu;rw[hz]at hl;generalize qao u=F at *;have key:∃r t,ev pg (.call (fnq 237) [.bptr 15 0] (hM c s u F))=some r/\r={ v:=.tup [num 0,.nils,num 21],st:=⟨[],hM c s t F⟩ }:=by
  rw[qaa,pg237.1];simp[ir237,qai];generalize hr:ev pg (.code (.going _ L237_0) _)=o;obtain⟨r,rfl,hO⟩:∃r,o=some r/\_:=by rw[<-hr];exact hl (by simp[zfd])
  clear hr;cases hO with
  | yes t' m' hz'=>cases hz'
  | no hz' a hw he =>obtain⟨t,l,g,w⟩:=a;obtain⟨f,hf,rfl⟩:=he;have hww:w=1\/w=0:=hw;rcases hww with rfl | rfl<;>simp[zfd,qch,qel,qdz]<;>exact⟨t,by simp⟩
 obtain⟨r,t,e,rfl⟩:=key;exact⟨t,e⟩
abbrev zyj(c:Ct)(s:Ste):H:=[⟨0,.box c.cells⟩,⟨0,.box s.cells⟩,o0,o0,o0,o0,o0,⟨0,.box (q3u 2)⟩]
theorem ev236{c:Ct}{s:Ste}(h:Rdy c s):ev pg (.call (fnq 236) [c.v,s.v] (zyj c s))=some { v:=.tup [.bptr 15 0,num 0],st:=⟨[],hM c s s (qao s)⟩ }:=by
 have e45:=ev179 c s h.few h.small;rw[h.st]at e45;have e149:=ev252 s h.small;have hF:=q4v h.mid h.shp;have hact:=h.mid.act;have hhi:=h.mid.hi;have hinp:=h.mid.inp;rw[hF];unfold qal;generalize c.act.toNat=A at *;have w1:IntKind.i64.wrap (2*c.act)=2*(A:Int):=by rw[hact];exact qam (by omega) (by omega)
 have w2:=qam (n:=2*(A:Int)+(c.inputs.length:Int)) (by omega) (by omega);rw[qaa,pg236.1];simp[qab,exT,qag,ir236,e45,e149,w1,w2]
theorem ev210_some{c:Ct}{s:Ste}(h:Rdy c s){t:Ste}{m:List Int}(hz:qby c s=some (t,m)):ev pg (.call (fnq 210) [c.v,s.v] [])=some { v:=.tup [znd t,.sl 5 0 1 0 m.length,num 0],st:=⟨[],z1n t++[⟨0,.arr 1 (m.map qbk)⟩]⟩ }:=by have e122:=ev236 h;obtain⟨k,e123⟩:=ev237_some s h hz;generalize qao s=F at *;rw[qaa,pg210.1];simp at e123;simp[ir210,e122,e123,qch,qel,qmj,qdz]
theorem ev210_none{c:Ct}{s:Ste}(h:Rdy c s)(hz:qby c s=none):ev pg (.call (fnq 210) [c.v,s.v] [])=some { v:=.tup [.agg (q3u 0),.nils,num 21],st:=⟨[],[o0,o0,o0,o0,o0]⟩ }:=by have e122:=ev236 h;obtain⟨t,e123⟩:=ev237_none s h hz;generalize qao s=F at *;rw[qaa,pg210.1];simp at e123;simp[ir210,e122,e123,qch,qel,qmj,qdz]
theorem zac:∀(l:List Int) (k:Nat),(qeo l)[2*k]?=l[k]?.map (· == 0)/\(qeo l)[2*k+1]?=l[k]?.map (· == 2)
 | [],k=>by simp[qeo]
 | e :: l,0=>by simp[qeo]
 | e :: l,k+1=>by have ih:=zac l k;rw[show 2*(k+1)=2*k+1+1 by omega];simp only[qeo,List.getElem?_cons_succ];exact ih
theorem q5m(s:Ste){k:Nat}(hk:k<s.ends.length):(qae s)[2*k]?=some (s.ends[k]==0)/\(qae s)[2*k+1]?=some (s.ends[k]==2):=by obtain⟨h1,h2⟩:=zac s.ends k;have hl:=qeu s.ends;unfold qae;rw[List.append_assoc,jI (by omega),jI (by omega),h1,h2,jA hk];exact⟨rfl,rfl⟩
theorem zio(s:Ste){k:Nat}(hk:k<s.inputs.length):(qae s)[2*s.ends.length+k]?=some s.inputs[k]:=by have hl:=qeu s.ends;unfold qae;rw[List.append_assoc,jJ (by omega),hl,Nat.add_sub_cancel_left,jI hk,jA hk]
theorem ziq(s:Ste){k:Nat}(hk:k<s.values.length):(qae s)[2*s.ends.length+s.inputs.length+k]?=some s.values[k]:=by have hl:=qeu s.ends;unfold qae;rw[jJ (by rw[jF];omega),jF,hl,Nat.add_sub_cancel_left,jA hk]
theorem ev212{c:Ct}{s:Ste}(h:Rdy c s)(x:Int)(h0:0<=x)(h1:x<(qae s).length):ev pg (.call (fnq 212) [c.v,s.v,num x] [])=some (rvq (.bool (((qae s)[x.toNat]?).getD false))):=by
 have hS:=h.shp;have hm:=h.mid;have hact:=hm.act;have hhi:=hm.hi;have hinp:=hm.inp;have hsig:=hm.sig;have he:=hS.e;have hin:=hS.i;have hv:=hS.v;have hlen:=qdm s;generalize c.act.toNat=A at *;have hea:s.ends.length=A:=by omega
 obtain⟨n,rfl⟩:∃n:Nat,x=n:=⟨x.toNat,by omega⟩
 have wA:IntKind.i64.wrap (2*c.act)=2*(A:Int):=by rw[hact];exact qam (by omega) (by omega)
 have w1:IntKind.i64.wrap ((n:Int)-2*(A:Int))=(n:Int)-2*A:=qam (by omega) (by omega);have w2:IntKind.i64.wrap ((n:Int)-2*(A:Int)-s.inputs.length)=(n:Int)-2*A-s.inputs.length:=qam (by omega) (by omega);rw[qaa,pg212.1];by_cases c1:n<2*A
 .have c1':(n:Int)<2*(A:Int):=by omega
  rcases Nat.mod_two_eq_zero_or_one n with hp | hp
  .obtain⟨k,rfl⟩:∃k,n=2*k:=⟨n / 2,by omega⟩
   have hk:k<s.ends.length:=by omega
   obtain⟨l1,l2⟩:=q5m s hk;have hq:Int.tdiv (2*(k:Int)) 2=(k:Int):=by rw[show(2*(k:Int))=((2*k:Nat):Int)by omega,show(2:Int)=((2:Nat):Int)by rfl,<-Int.ofNat_tdiv];congr 1;omega
   have hr:Int.tmod (2*(k:Int)) 2=0:=by rw[show(2*(k:Int))=((2*k:Nat):Int)by omega,show(2:Int)=((2:Nat):Int)by rfl,<-Int.ofNat_tmod];omega
   have wk:=qam (n:=(k:Int)) (by omega) (by omega);have c1'':2*(k:Int)<2*(A:Int):=by omega
   have hkA:k<A:=by omega
   have tn:(2*(k:Int)).toNat=2*k:=by omega
   simp[qab,exT,qag,ir212,wA,c1'',hkA,hq,hr,wk,hk,l1,tn]
  .obtain⟨k,rfl⟩:∃k,n=2*k+1:=⟨n / 2,by omega⟩
   have hk:k<s.ends.length:=by omega
   obtain⟨l1,l2⟩:=q5m s hk;have hq:Int.tdiv (2*(k:Int)+1) 2=(k:Int):=by rw[show(2*(k:Int)+1)=((2*k+1:Nat):Int)by omega,show(2:Int)=((2:Nat):Int)by rfl,<-Int.ofNat_tdiv];congr 1;omega
   have hr:Int.tmod (2*(k:Int)+1) 2=1:=by rw[show(2*(k:Int)+1)=((2*k+1:Nat):Int)by omega,show(2:Int)=((2:Nat):Int)by rfl,<-Int.ofNat_tmod];omega
   have wk:=qam (n:=(k:Int)) (by omega) (by omega);have c1'':2*(k:Int)+1<2*(A:Int):=by omega
   have tn:(2*(k:Int)+1).toNat=2*k+1:=by omega
   simp[qab,exT,qag,ir212,wA,c1'',hq,hr,wk,hk,l2,tn]
 .have c1':¬(n:Int)<2*(A:Int):=by omega
  obtain⟨k,rfl⟩:∃k,n=2*A+k:=⟨n-2*A,by omega⟩
  have e1:((2*A+k:Nat):Int)-2*A=(k:Int):=by omega
  rw[e1]at w1 w2;have c2:¬2*(A:Int)+(k:Int)<2*(A:Int):=by omega
  have w1':IntKind.i64.wrap (2*(A:Int)+(k:Int)-2*(A:Int))=(k:Int):=by rw[qam (by omega) (by omega)];omega
  have tn:(2*(A:Int)+(k:Int)).toNat=2*A+k:=by omega
  by_cases c3:k<s.inputs.length
  .have c3':(k:Int)<s.inputs.length:=by omega
   have l1:=zio s c3;rw[hea]at l1;simp[ir212,wA,c2,w1',c3,c3',l1,tn]
  .have c3':¬(k:Int)<s.inputs.length:=by omega
   obtain⟨q,rfl⟩:∃q,k=s.inputs.length+q:=⟨k-s.inputs.length,by omega⟩
   have hq:q<s.values.length:=by omega
   have l1:=ziq s hq;rw[hea]at l1;have w3:IntKind.i64.wrap ((s.inputs.length:Int)+(q:Int)-(s.inputs.length:Int))=(q:Int):=by rw[qam (by omega) (by omega)];omega
   have w4:IntKind.i64.wrap (2*(A:Int)+((s.inputs.length:Int)+(q:Int))-2*(A:Int))=(s.inputs.length:Int)+q:=by rw[qam (by omega) (by omega)];omega
   have c4:¬(s.inputs.length:Int)+(q:Int)<s.inputs.length:=by omega
   have c5:¬2*(A:Int)+((s.inputs.length:Int)+(q:Int))<2*(A:Int):=by omega
   have tn2:(2*(A:Int)+((s.inputs.length:Int)+(q:Int))).toNat=2*A+s.inputs.length+q:=by omega
   simp[ir212,wA,c5,w4,c4,w3,hq,tn2,l1]
theorem znk{v:Bool}{e:Int}(h0:0<=e)(h4:e<4):qkr v e=if v=true then(if e≠2/\e≠1 then 1 else e)else(if e≠0/\e≠3 then 3 else e):=by
 unfold qkr;have:e=0\/e=1\/e=2\/e=3:=by omega
 rcases this with rfl | rfl | rfl | rfl<;>cases v<;>rfl
abbrev vA(c:Ct)(t:Ste):List Bool:=t.valves.mapIdx (qjg c (qae t))
abbrev eA(c:Ct)(t:Ste):List Int:=List.zipWith qkr (vA c t) t.ends
abbrev h46(c:Ct)(s t:Ste)(m:List Int)(A k:Nat)(g:Nat):H:=[⟨0,.box c.cells⟩,⟨0,.box s.cells⟩,o0,o0,o0,o0,o0,⟨0,.box (q3u 2)⟩]++ar5 t++[⟨g,.arr 1 ((m++cfL c (qae t) A k).map qbk)⟩,o0,o0,o0,o0,o0,⟨0,.box (sl5 8 t)⟩,⟨0,.arr 1 ((mix (eA c t) t.ends k).map qbk)⟩,⟨0,.arr 1 ((mix (vA c t) t.valves k).map qfj)⟩,⟨0,.arr 1 (t.inputs.map qfj)⟩,⟨0,.arr 1 (t.values.map qfj)⟩,⟨0,.arr 1 (t.timers.map qbk)⟩,o0,o0,o0,o0,o0,⟨0,.box (sl5 20 t)⟩,o0]
def T46(c:Ct)(t:Ste)(m:List Int)(A N k:Nat)(g:Nat):Tm:=[none,none,bN 0,bN 1,bN 7,some (.sl 31 0 0 0 0),nN 0,bN 19,some (.sl 13 g 1 0 (m++cfL c (qae t) A k).length),none,bN 30,nN N]++zN 30++[nN A,nN k]++zN 70
set_option maxHeartbeats 4000000 in
theorem z6r{c:Ct}{t:Ste}(s:Ste)(ht:Rdy c t)(m:List Int)(hm:m.length<=4096){A:Nat}(hA:c.act.toNat=A){st:St}(g0:Nat)(h0:At (T46 c t m A (qad c A) 0 g0) (h46 c s t m A 0 g0) st):∃r,ev pg (.code (.going 32 L180_0) st)=some r/\∃g,qar (.exit 0) (T46 c t m A (qad c A) A g) (h46 c s t m A A g) r:=by
 have hmid:=ht.mid;have hP:=ht.pil;have hS:=ht.shp;have hst:=ht.st;rw[hA]at hmid hP;have hact:=hmid.act;have hhi:=hmid.hi;have hN:qad c A<=172:=by have:=hmid.sig;have:=hmid.inp;unfold qad;omega
 have hend:=qgy.1 (qib.1 hst).2.2.1;have hwl:t.valves.length=A:=by have:=hS.w;omega
 have hel:t.ends.length=A:=by have:=hS.e;omega
 refine qcg A (T46 c t m A (qad c A)) (h46 c s t m A) (fun _ _=>True) _ ?_ ?_ g0 trivial h0 |>.imp fun r h=>⟨h.1,h.2⟩
 .rintro k g f hf hk -;have hk':(k:Int)<A:=by omega
  have wk:=qbc k;have hkp:k<c.plus.length:=by rw[hP.p];exact hk
  have hkm:k<c.minus.length:=by rw[hP.m];exact hk
  have hkw:k<t.valves.length:=by omega
  have hke:k<t.ends.length:=by omega
  obtain⟨p0,p1⟩:=hP.pb _ (jH hkp);obtain⟨q0,q1⟩:=hP.mb _ (jH hkm);have e1:=ev212 ht c.plus[k] p0 p1;have e2:=ev212 ht c.minus[k] q0 q1;have hpl:((qae t)[(c.plus[k]).toNat]?).getD false=qbp (qae t) c.plus k:=by unfold qbp;rw[jA hkp];rfl
  have hmi:((qae t)[(c.minus[k]).toNat]?).getD false=qbp (qae t) c.minus k:=by unfold qbp;rw[jA hkm];rfl
  rw[hpl]at e1;rw[hmi]at e2;have l1:(vA c t).length=t.valves.length:=List.length_mapIdx;have l2:(eA c t).length=t.ends.length:=by rw[List.length_zipWith,l1];omega
  have f1:=qki (A:=vA c t) (B:=t.valves) l1 (k:=k) (by omega);have f2:=qki (A:=eA c t) (B:=t.ends) l2 (k:=k) (by omega);have hva:(vA c t)[k]'(by omega)=qjg c (qae t) k t.valves[k]:=List.getElem_mapIdx ..;have hea:(eA c t)[k]'(by omega)=qkr (qjg c (qae t) k t.valves[k]) t.ends[k]:=by rw[List.getElem_zipWith,hva]
  rw[hva]at f1;rw[hea]at f2;have m1:=qlq (A:=vA c t) (B:=t.valves) l1 (k:=k) (by omega);have m2:=qlq (A:=eA c t) (B:=t.ends) l2 (k:=k) (by omega);have n1:=qtb (A:=vA c t) (B:=t.valves) l1 (k:=k) (by omega);have n2:=qtb (A:=eA c t) (B:=t.ends) l2 (k:=k) (by omega);rw[jA hkw]at n1;rw[jA hke]at n2;have f4:=qnp (fun i=>qbp (qae t) c.plus i&&qbp (qae t) c.minus i) (qad c A:Nat) k;have hsl:=qig (fun i=>qbp (qae t) c.plus i&&qbp (qae t) c.minus i) (qad c A:Nat) k;obtain⟨x0,x4⟩:=hend _ (jH hke);have hge:=znk (v:=qjg c (qae t) k t.valves[k]) x0 x4;have hvf:qjg c (qae t) k t.valves[k]=if qbp (qae t) c.plus k != qbp (qae t) c.minus k then qbp (qae t) c.plus k else t.valves[k]:=rfl;rw[hge,hvf]at f2;rw[hvf]at f1;unfold h46 T46 cfL;rw[<-f1,<-f2,f4];clear hge hvf f1 f2 f4 hva hea hpl hmi;generalize mix (vA c t) t.valves k=VV at *;generalize mix (eA c t) t.ends k=EE at *;generalize qsk (fun i=>qbp (qae t) c.plus i&&qbp (qae t) c.minus i) (qad c A:Nat) k=B at *;generalize qbp (qae t) c.plus k=pl at *;generalize qbp (qae t) c.minus k=mi at *;generalize hv0:t.valves[k]=v0 at *;generalize he0:t.ends[k]=e0 at *;have hkV:k<VV.length:=by omega
  have hkE:k<EE.length:=by omega
  have v1:VV[k]=v0:=by rw[jA hkV]at n1;exact Option.some.inj n1
  have t1:EE[k]=e0:=by rw[jA hkE]at n2;exact Option.some.inj n2
  have vs:VV.set k v0=VV:=by rw[<-v1];exact List.set_getElem_self _
  have es:EE.set k e0=EE:=by rw[<-t1];exact List.set_getElem_self _
  have hb1:(m.length+(B.length+1))*8<=140737488355328:=by omega
  have hb2:(m.length+B.length+1)*8<=140737488355328:=by omega
  have vs2:(VV.map qfj).set k [.bool v0]=VV.map qfj:=by rw[show [V.bool v0]=qfj v0 from rfl,<-List.map_set,vs]
  have es2:(EE.map qbk).set k [num e0]=EE.map qbk:=by rw[show [num e0]=qbk e0 from rfl,<-List.map_set,es]
  generalize qad c A=N at *;have wN:=qam (n:=(N:Int)+(k:Int)) (by omega) (by omega);have hVA:k<A:=hk;have hEb:e0=0\/e0=1\/e0=2\/e0=3:=by omega
  have hVl:VV.length=A:=by omega
  have hEl:EE.length=A:=by omega
  rcases hEb with rfl | rfl | rfl | rfl<;>cases pl<;>cases mi<;>cases v0<;>simp[qab,exT,qag,L180_0,hk',wk,hkp,hkm,e1,e2,wN,hkV,hkE,hwl,hel,hVA,v1,t1,vs,es,vs2,es2,hb1,hb2,hVl,hEl,Nat.add_assoc,hf.ne]
 .rintro g f hf -;unfold h46 T46;generalize cfL c (qae t) A A=B at *;simp[L180_0,hf.ne]
end Go.Proofs.YtggbaapfbgjaeaaGreatDoor
