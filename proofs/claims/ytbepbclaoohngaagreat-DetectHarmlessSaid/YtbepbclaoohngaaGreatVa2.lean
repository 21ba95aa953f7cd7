/- The value of a line, by plant. -/
import Derived.Test.YtbepbclaoohngaaGreatSo15
import Derived.KernelRfl
set_option linter.all false
namespace Go.Proofs.YtbepbclaoohngaaGreat
open Go Go.Am Go.Proofs
set_option maxRecDepth 100000
theorem qth(a b:Ste):qks a b=qks b a:=by
 rw[Bool.eq_iff_iff,qhz,qhz]
 exact⟨Eq.symm,Eq.symm⟩
theorem ztd{c:Ct}{u:Ste}(h:Rdy c u):∀x∈zfc c u,0<=x/\x<(qad c c.act.toNat:Nat):=by
 intro x hx
 unfold zfc at hx
 obtain⟨j,h1,_,rfl⟩:=(zbx _ _ _ _).1 hx
 have:=h.shp.e
 have:=h.shp.i
 have:=h.mid.act
 unfold qad qar
 omega
def zfn(k:Nat)(a:Ste×List Int×Nat×Nat):Tm:=[bN 15,none,nN 0,some (.sl 16 0 0 0 0),nN 0,some (.sl 17 a.2.2.1 a.2.2.2 0 a.2.1.length),nN k]++zN 21
abbrev zdk(c:Ct)(s:Ste)(F:Nat)(a:Ste×List Int×Nat×Nat):H:=hM c s a.1 F++hQ a.2.2.1 a.2.2.2 a.2.1
def zsn(k g m:Nat):Tm:=[none,none,nN k,some (.sl 17 g 1 0 m),nN 0]++zN 23
inductive Out123 (c:Ct) (s:Ste) (F:Nat) (Z:Option (Ste×List Int)) (r:R):Prop where
 | no (hz:Z=none) (a:Ste×List Int×Nat×Nat) (hw:a.2.2.2=1\/a.2.2.2=0) (he:qbn (.exit 0) (zfn 65 a) (zdk c s F a) r)
 | yes (t:Ste) (m:List Int) (hz:Z=some (t,m)) (k g:Nat) (rows:List (List V)) (hr:rows.take m.length=m.map qbo) (hl:m.length<=rows.length) (he:qbn .ret (zsn k g m.length) (hM c s t F++[o0,⟨g,.arr 1 rows⟩]) r)
structure G123(c:Ct)(F:Nat)(Z:Option (Ste×List Int))(k:Nat)(a:Ste×List Int×Nat×Nat):Prop where
 go:qff c (qad c c.act.toNat) (65-k) a.1 a.2.1=Z
 rdy:Rdy c a.1
 first:qar a.1=F
 len:a.2.1.length<=k*128
 b:∀x∈a.2.1,0<=x/\x<(qad c c.act.toNat:Nat)
 w:a.2.2.2=1\/a.2.2.2=0
theorem Rdy.once{c:Ct}{s:Ste}(h:Rdy c s):Rdy c (qmc c s):=⟨h.few,qxi h.st⟩
theorem zgf(c:Ct)(s u:Ste)(F g:Nat)(rows:List (List V)):calm (hM c s u F++[o0,⟨g,.arr 1 rows⟩]):=by
 unfold calm
 simp
set_option maxHeartbeats 2000000 in
theorem z0r{c:Ct}{u:Ste}(s:Ste)(hu:Rdy c u){st:St}(h0:At (zfn 0 (u,[],0,0)) (zdk c s (qar u) (u,[],0,0)) st):∃r,ev pg (.code (.going 18 L258_0) st)=some r/\Out123 c s (qar u) (qdh c u) r:=by
 generalize hR:qdh c u=Z
 unfold qdh at hR
 generalize hF:qar u=F at h0 ⊢
 refine qev 65 zfn (fun _ a=>zdk c s F a) (G123 c F Z) _ ?_ ?_ (u,[],0,0) ⟨hR,hu,hF,by simp,by simp,.inr rfl⟩ h0
 .rintro k ⟨t,l,g,w⟩ f hf hk hG
  have hgo:=hG.go
  have hrd:=hG.rdy
  have hfi:=hG.first
  have hlen:=hG.len
  have hb:=hG.b
  have hw:w=1\/w=0:=hG.w
  simp only at hgo hrd hfi hlen hb
  have hk':(k:Int)<=64:=by omega
  have wk:=qbs (k:=k) (by omega)
  have e150:=ev283 s hrd g w l
  rw[hfi]at e150
  have hbl:(zfc c t).length<=128:=by
   have:=qlu (zlz c (qah (qfl c t))) (qar t) c.signals.length
   have:=hrd.mid.sig
   unfold zfc
   omega
  have hbb:=ztd hrd
  have hfi':qar (qmc c t)=F:=by rw[<-hfi];rfl
  rw[show 65-k=(64-k)+1 by omega,qff]at hgo
  have hone:=hrd.once
  rw[qth]at hgo
  have hq:(l++zfc c t).length*8<=140737488355328:=by simp;omega
  have hbd:∀x∈l++zfc c t,0<=x/\x<(qad c c.act.toNat:Nat):=fun x hx=>(jQ.1 hx).elim (hb x) (hbb x)
  have hll:(l++zfc c t).length<=(k+1)*128:=by simp;omega
  generalize zfc c t=B at *
  have hq1:(l.length+B.length)*8<=140737488355328:=by simpa using hq
  by_cases hst:qks t (qmc c t)=true
  .rw[if_pos hst]at hgo
   have hto:qmc c t=t:=(qhz.1 hst).symm
   rw[hst,hto]at e150
   simp at e150
   have e33:=ev156 (h:=hM c s t F++[o0,⟨g+1,.arr 1 ((l++B).map qbo)⟩]) (i:=17) (g:=g+1) (l:=l++B) rfl (zgf c s t F (g+1) _) (by omega)
   obtain⟨l',hp,hsr,e33⟩:=e33
   have e36:=ev157 (h:=hM c s t F++[o0,⟨g+1,.arr 1 (l'.map qbo)⟩]) (i:=17) (g:=g+1) (l:=l') rfl (zgf c s t F (g+1) _) (by have:=hp.length_eq;omega)
   obtain⟨rows,hr1,hr2,e36⟩:=e36
   have hcn:qaz l'=norm (qad c c.act.toNat) (l++B):=qtr hsr (fun x=>hp.mem_iff) hbd
   have hle:(qaz l').length<=rows.length:=by
    have:=congrArg List.length hr2
    simp at this
    omega
   have hpl:=hp.length_eq
   rw[hcn]at hr2 e36 hle
   rw[hpl]at e36
   subst hgo
   generalize norm (qad c c.act.toNat) (l++B)=M at *
   simp at e33 e36
   unfold zfn zdk
   rcases hw with rfl | rfl<;>simp[L258_0,hk',e150,hq1,e33,e36,hf.ne]
   all_goals exact .yes t M rfl k (g+1) rows hr2 hle (by simp[zsn,hf.ne])
  .have hsf:qks t (qmc c t)=false:=by simpa using hst
   rw[if_neg hst]at hgo
   rw[hsf]at e150
   simp at e150
   have hG':G123 c F Z (k+1) (qmc c t,l++B,g+1,1):=⟨by rw[<-hgo,show 65-(k+1)=64-k by omega],hone,hfi',hll,hbd,.inl rfl⟩
   unfold zfn zdk
   generalize qmc c t=v at *
   rcases hw with rfl | rfl<;>simp[L258_0,hk',e150,hq1,wk,hf.ne]
   all_goals exact⟨_,_,_,_,hG',by simp⟩
 .rintro⟨t,l,g,w⟩ f hf hG
  have hgo:=hG.go
  simp only[Nat.sub_self,qff]at hgo
  subst hgo
  have hw:w=1\/w=0:=hG.w
  unfold zfn zdk
  rcases hw with rfl | rfl<;>simp[L258_0,hf.ne]
  .exact .no rfl (t,l,g,1) (.inl rfl) (by simp[zfn,hf.ne])
  .exact .no rfl (t,l,g,0) (.inr rfl) (by simp[zfn,hf.ne])
theorem zkw{rows:List (List V)}{W:List (List V)}{n:Nat}(h:rows.take n=W):(if n=rows.length then rows else rows.take n)=W:=by
 split
 .rename_i e
  rw[e,List.take_length]at h
  exact h
 .exact h
theorem ev258_some{c:Ct}{u:Ste}(s:Ste)(hu:Rdy c u){t:Ste}{m:List Int}(hz:qdh c u=some (t,m)):∃k:Nat,ev pg (.call (.fn 258 [] []) [.bptr 15 0] (hM c s u (qar u)))=some { v:=.tup [num k,.sl 16 0 1 0 m.length,num 0],st:=⟨[],hM c s t (qar u)++[⟨0,.arr 1 (m.map qbo)⟩]⟩ }:=by
 have hl:=@z0r c u s hu
 rw[hz]at hl
 generalize qar u=F at *
 have key:∃r,∃k:Nat,ev pg (.call (.fn 258 [] []) [.bptr 15 0] (hM c s u F))=some r/\r={ v:=.tup [num k,.sl 16 0 1 0 m.length,num 0],st:=⟨[],hM c s t F++[⟨0,.arr 1 (m.map qbo)⟩]⟩ }:=by
  rw[qab,pg258]
  simp[ir258,qam]
  generalize hr:ev pg (.code (.going _ L258_0) _)=o
  obtain⟨r,rfl,hO⟩:∃r,o=some r/\_:=by rw[<-hr];exact hl (by simp[zfn])
  clear hr
  cases hO with
  | no hz'=>cases hz'
  | yes t' m' hz' k g rows hr hle he =>
   obtain⟨rfl,rfl⟩:=Prod.mk.inj (Option.some.inj hz')
   obtain⟨f,hf,rfl⟩:=he
   have hif:=zkw hr
   simp[zsn,qcm,qeo,qee,hle,hif]
   exact⟨k,rfl⟩
 obtain⟨r,k,e,rfl⟩:=key
 exact⟨k,e⟩
theorem ev258_none{c:Ct}{u:Ste}(s:Ste)(hu:Rdy c u)(hz:qdh c u=none):∃t,ev pg (.call (.fn 258 [] []) [.bptr 15 0] (hM c s u (qar u)))=some { v:=.tup [num 0,.nils,num 21],st:=⟨[],hM c s t (qar u)⟩ }:=by
 have hl:=@z0r c u s hu
 rw[hz]at hl
 generalize qar u=F at *
 have key:∃r t,ev pg (.call (.fn 258 [] []) [.bptr 15 0] (hM c s u F))=some r/\r={ v:=.tup [num 0,.nils,num 21],st:=⟨[],hM c s t F⟩ }:=by
  rw[qab,pg258]
  simp[ir258,qam]
  generalize hr:ev pg (.code (.going _ L258_0) _)=o
  obtain⟨r,rfl,hO⟩:∃r,o=some r/\_:=by rw[<-hr];exact hl (by simp[zfn])
  clear hr
  cases hO with
  | yes t' m' hz'=>cases hz'
  | no hz' a hw he =>
   obtain⟨t,l,g,w⟩:=a
   obtain⟨f,hf,rfl⟩:=he
   have hww:w=1\/w=0:=hw
   rcases hww with rfl | rfl<;>simp[zfn,qcm,qeo,qee]<;>exact⟨t,by simp⟩
 obtain⟨r,t,e,rfl⟩:=key
 exact⟨t,e⟩
abbrev z0a(c:Ct)(s:Ste):H:=[⟨0,.box c.cells⟩,⟨0,.box s.cells⟩,o0,o0,o0,o0,o0,⟨0,.box (zop 2)⟩]
theorem ev257{c:Ct}{s:Ste}(h:Rdy c s):ev pg (.call (.fn 257 [] []) [c.v,s.v] (z0a c s))=some { v:=.tup [.bptr 15 0,num 0],st:=⟨[],hM c s s (qar s)⟩ }:=by
 have e45:=ev147 c s h.few h.small
 rw[h.st]at e45
 have e149:=ev282 s h.small
 have hF:=zhn h.mid h.shp
 have hact:=h.mid.act
 have hhi:=h.mid.hi
 have hinp:=h.mid.inp
 rw[hF]
 unfold qal
 generalize c.act.toNat=A at *
 have w1:IntKind.i64.wrap (2*c.act)=2*(A:Int):=by rw[hact];exact qan (by omega) (by omega)
 have w2:=qan (n:=2*(A:Int)+(c.inputs.length:Int)) (by omega) (by omega)
 rw[qab,pg257]
 simp[qaa,exT,qak,ir257,e45,e149,w1,w2]
theorem ev219_some{c:Ct}{s:Ste}(h:Rdy c s){t:Ste}{m:List Int}(hz:qdh c s=some (t,m)):ev pg (.call (.fn 219 [] []) [c.v,s.v] [])=some { v:=.tup [zty t,.sl 5 0 1 0 m.length,num 0],st:=⟨[],jaz t++[⟨0,.arr 1 (m.map qbo)⟩]⟩ }:=by
 have e122:=ev257 h
 obtain⟨k,e123⟩:=ev258_some s h hz
 generalize qar s=F at *
 rw[qab,pg219]
 simp at e123
 simp[ir219,e122,e123,qcm,qeo,qrb,qee]
theorem ev219_none{c:Ct}{s:Ste}(h:Rdy c s)(hz:qdh c s=none):ev pg (.call (.fn 219 [] []) [c.v,s.v] [])=some { v:=.tup [.agg (zop 0),.nils,num 21],st:=⟨[],[o0,o0,o0,o0,o0]⟩ }:=by
 have e122:=ev257 h
 obtain⟨t,e123⟩:=ev258_none s h hz
 generalize qar s=F at *
 rw[qab,pg219]
 simp at e123
 simp[ir219,e122,e123,qcm,qeo,qrb,qee]
theorem zad:∀(l:List Int) (k:Nat),(qfj l)[2*k]?=l[k]?.map (· == 0)/\(qfj l)[2*k+1]?=l[k]?.map (· == 2)
 | [],k=>by simp[qfj]
 | e :: l,0=>by simp[qfj]
 | e :: l,k+1=>by
  have ih:=zad l k
  rw[show 2*(k+1)=2*k+1+1 by omega]
  simp only[qfj,List.getElem?_cons_succ]
  exact ih
theorem q5m(s:Ste){k:Nat}(hk:k<s.ends.length):(qah s)[2*k]?=some (s.ends[k]==0)/\(qah s)[2*k+1]?=some (s.ends[k]==2):=by
 obtain⟨h1,h2⟩:=zad s.ends k
 have hl:=qfp s.ends
 unfold qah
 rw[List.append_assoc,jI (by omega),jI (by omega),h1,h2,jA hk]
 exact⟨rfl,rfl⟩
theorem zik(s:Ste){k:Nat}(hk:k<s.inputs.length):(qah s)[2*s.ends.length+k]?=some s.inputs[k]:=by
 have hl:=qfp s.ends
 unfold qah
 rw[List.append_assoc,jJ (by omega),hl,Nat.add_sub_cancel_left,jI hk,jA hk]
theorem zil(s:Ste){k:Nat}(hk:k<s.values.length):(qah s)[2*s.ends.length+s.inputs.length+k]?=some s.values[k]:=by
 have hl:=qfp s.ends
 unfold qah
 rw[jJ (by rw[jF];omega),jF,hl,Nat.add_sub_cancel_left,jA hk]
theorem ev220{c:Ct}{s:Ste}(h:Rdy c s)(x:Int)(h0:0<=x)(h1:x<(qah s).length):ev pg (.call (.fn 220 [] []) [c.v,s.v,num x] [])=some { v:=.bool (((qah s)[x.toNat]?).getD false),st:=⟨[],[]⟩ }:=by
 have hS:=h.shp
 have hm:=h.mid
 have hact:=hm.act
 have hhi:=hm.hi
 have hinp:=hm.inp
 have hsig:=hm.sig
 have he:=hS.e
 have hin:=hS.i
 have hv:=hS.v
 have hlen:=qgh s
 generalize c.act.toNat=A at *
 have hea:s.ends.length=A:=by omega
 obtain⟨n,rfl⟩:∃n:Nat,x=n:=⟨x.toNat,by omega⟩
 have wA:IntKind.i64.wrap (2*c.act)=2*(A:Int):=by rw[hact];exact qan (by omega) (by omega)
 have w1:IntKind.i64.wrap ((n:Int)-2*(A:Int))=(n:Int)-2*A:=qan (by omega) (by omega)
 have w2:IntKind.i64.wrap ((n:Int)-2*(A:Int)-s.inputs.length)=(n:Int)-2*A-s.inputs.length:=qan (by omega) (by omega)
 rw[qab,pg220]
 by_cases c1:n<2*A
 .have c1':(n:Int)<2*(A:Int):=by omega
  rcases Nat.mod_two_eq_zero_or_one n with hp | hp
  .obtain⟨k,rfl⟩:∃k,n=2*k:=⟨n / 2,by omega⟩
   have hk:k<s.ends.length:=by omega
   obtain⟨l1,l2⟩:=q5m s hk
   have hq:Int.tdiv (2*(k:Int)) 2=(k:Int):=by
    rw[show(2*(k:Int))=((2*k:Nat):Int)by omega,show(2:Int)=((2:Nat):Int)by rfl,<-Int.ofNat_tdiv]
    congr 1
    omega
   have hr:Int.tmod (2*(k:Int)) 2=0:=by
    rw[show(2*(k:Int))=((2*k:Nat):Int)by omega,show(2:Int)=((2:Nat):Int)by rfl,<-Int.ofNat_tmod]
    omega
   have wk:=qan (n:=(k:Int)) (by omega) (by omega)
   have c1'':2*(k:Int)<2*(A:Int):=by omega
   have hkA:k<A:=by omega
   have tn:(2*(k:Int)).toNat=2*k:=by omega
   simp[qaa,exT,qak,ir220,wA,c1'',hkA,hq,hr,wk,hk,l1,tn]
  .obtain⟨k,rfl⟩:∃k,n=2*k+1:=⟨n / 2,by omega⟩
   have hk:k<s.ends.length:=by omega
   obtain⟨l1,l2⟩:=q5m s hk
   have hq:Int.tdiv (2*(k:Int)+1) 2=(k:Int):=by
    rw[show(2*(k:Int)+1)=((2*k+1:Nat):Int)by omega,show(2:Int)=((2:Nat):Int)by rfl,<-Int.ofNat_tdiv]
    congr 1
    omega
   have hr:Int.tmod (2*(k:Int)+1) 2=1:=by
    rw[show(2*(k:Int)+1)=((2*k+1:Nat):Int)by omega,show(2:Int)=((2:Nat):Int)by rfl,<-Int.ofNat_tmod]
    omega
   have wk:=qan (n:=(k:Int)) (by omega) (by omega)
   have c1'':2*(k:Int)+1<2*(A:Int):=by omega
   have tn:(2*(k:Int)+1).toNat=2*k+1:=by omega
   simp[qaa,exT,qak,ir220,wA,c1'',hq,hr,wk,hk,l2,tn]
 .have c1':¬(n:Int)<2*(A:Int):=by omega
  obtain⟨k,rfl⟩:∃k,n=2*A+k:=⟨n-2*A,by omega⟩
  have e1:((2*A+k:Nat):Int)-2*A=(k:Int):=by omega
  rw[e1]at w1 w2
  have c2:¬2*(A:Int)+(k:Int)<2*(A:Int):=by omega
  have w1':IntKind.i64.wrap (2*(A:Int)+(k:Int)-2*(A:Int))=(k:Int):=by
   rw[qan (by omega) (by omega)];omega
  have tn:(2*(A:Int)+(k:Int)).toNat=2*A+k:=by omega
  by_cases c3:k<s.inputs.length
  .have c3':(k:Int)<s.inputs.length:=by omega
   have l1:=zik s c3
   rw[hea]at l1
   simp[ir220,wA,c2,w1',c3,c3',l1,tn]
  .have c3':¬(k:Int)<s.inputs.length:=by omega
   obtain⟨q,rfl⟩:∃q,k=s.inputs.length+q:=⟨k-s.inputs.length,by omega⟩
   have hq:q<s.values.length:=by omega
   have l1:=zil s hq
   rw[hea]at l1
   have w3:IntKind.i64.wrap ((s.inputs.length:Int)+(q:Int)-(s.inputs.length:Int))=(q:Int):=by
    rw[qan (by omega) (by omega)];omega
   have w4:IntKind.i64.wrap (2*(A:Int)+((s.inputs.length:Int)+(q:Int))-2*(A:Int))=(s.inputs.length:Int)+q:=by
    rw[qan (by omega) (by omega)];omega
   have c4:¬(s.inputs.length:Int)+(q:Int)<s.inputs.length:=by omega
   have c5:¬2*(A:Int)+((s.inputs.length:Int)+(q:Int))<2*(A:Int):=by omega
   have tn2:(2*(A:Int)+((s.inputs.length:Int)+(q:Int))).toNat=2*A+s.inputs.length+q:=by omega
   simp[ir220,wA,c5,w4,c4,w3,hq,tn2,l1]
end Go.Proofs.YtbepbclaoohngaaGreat
