/- The signals come to rest, by settle. The signals come to rest, by settle: the functions. The value of a line, by plant. -/
import Derived.Test.YtddeacahiilikaaGreatMSo0
import Derived.Test.YtddeacahiilikaaGreatMSo15
import Derived.KernelRfl
set_option linter.all false
namespace Go.Proofs.YtddeacahiilikaaGreat
open Go Go.Am Go.Proofs
set_option maxRecDepth 100000
theorem qpc(a b:Ste):qkm a b=qkm b a:=by
 rw[Bool.eq_iff_iff,qii,qii]
 exact⟨Eq.symm,Eq.symm⟩
theorem zkl{c:Ct}{u:Ste}(h:Rdy c u):∀x∈q8k c u,0<=x/\x<(qaj c c.act.toNat:Nat):=by
 intro x hx
 unfold q8k at hx
 obtain⟨j,h1,_,rfl⟩:=(q5m _ _ _ _).1 hx
 have:=h.shp.e
 have:=h.shp.i
 have:=h.mid.act
 unfold qaj qal
 omega
def q8w(k:Nat)(a:Ste×List Int×Nat×Nat):Tm:=[some (.bptr 15 0),none,some (num 0),some (.sl 16 0 0 0 0),some (num 0),some (.sl 17 a.2.2.1 a.2.2.2 0 a.2.1.length),some (num k)]++List.replicate 21 none
abbrev ztg(c:Ct)(s:Ste)(F:Nat)(a:Ste×List Int×Nat×Nat):H:=hM c s a.1 F++hQ a.2.2.1 a.2.2.2 a.2.1
def zke(k g m:Nat):Tm:=[none,none,some (num k),some (.sl 17 g 1 0 m),some (num 0)]++List.replicate 23 none
inductive Out123 (c:Ct) (s:Ste) (F:Nat) (Z:Option (Ste×List Int)) (r:R):Prop where
 | no (hz:Z=none) (a:Ste×List Int×Nat×Nat) (hw:a.2.2.2=1\/a.2.2.2=0) (he:qai (.exit 0) (q8w 65 a) (ztg c s F a) r)
 | yes (t:Ste) (m:List Int) (hz:Z=some (t,m)) (k g:Nat) (rows:List (List V)) (hr:rows.take m.length=m.map qej) (hl:m.length<=rows.length) (he:qai .ret (zke k g m.length) (hM c s t F++[o0,⟨g,.arr 1 rows⟩]) r)
structure G123(c:Ct)(F:Nat)(Z:Option (Ste×List Int))(k:Nat)(a:Ste×List Int×Nat×Nat):Prop where
 go:qfg c (qaj c c.act.toNat) (65-k) a.1 a.2.1=Z
 rdy:Rdy c a.1
 first:qal a.1=F
 len:a.2.1.length<=k*128
 b:∀x∈a.2.1,0<=x/\x<(qaj c c.act.toNat:Nat)
 w:a.2.2.2=1\/a.2.2.2=0
theorem Rdy.once{c:Ct}{s:Ste}(h:Rdy c s):Rdy c (qmf c s):=⟨h.few,qse h.st⟩
theorem q9m(c:Ct)(s u:Ste)(F g:Nat)(rows:List (List V)):qcj (hM c s u F++[o0,⟨g,.arr 1 rows⟩]):=by
 unfold qcj
 simp
set_option maxHeartbeats 2000000 in
theorem zwy{c:Ct}{u:Ste}(s:Ste)(hu:Rdy c u){st:St}(h0:At (q8w 0 (u,[],0,0)) (ztg c s (qal u) (u,[],0,0)) st):∃r,ev pg (.code (.going 18 L240_0) st)=some r/\Out123 c s (qal u) (qde c u) r:=by
 generalize hR:qde c u=Z
 unfold qde at hR
 generalize hF:qal u=F at h0 ⊢
 refine qco 65 q8w (fun _ a=>ztg c s F a) (G123 c F Z) _ ?_ ?_ (u,[],0,0) ⟨hR,hu,hF,by simp,by simp,.inr rfl⟩ h0
 .rintro k ⟨t,l,g,w⟩ f hf hk hG
  have hgo:=hG.go
  have hrd:=hG.rdy
  have hfi:=hG.first
  have hlen:=hG.len
  have hb:=hG.b
  have hw:w=1\/w=0:=hG.w
  simp only at hgo hrd hfi hlen hb
  have hk':(k:Int)<=64:=by omega
  have wk:=qab (n:=(k:Int)+1) (by omega) (by omega)
  have e150:=ev278 s hrd g w l
  rw[hfi]at e150
  have hbl:(q8k c t).length<=128:=by
   have:=qra (zfb c (qag (qfc c t))) (qal t) c.signals.length
   have:=hrd.mid.sig
   unfold q8k
   omega
  have hbb:=zkl hrd
  have hfi':qal (qmf c t)=F:=by rw[<-hfi];rfl
  rw[show 65-k=(64-k)+1 by omega,qfg]at hgo
  have hone:=hrd.once
  rw[qpc]at hgo
  have hq:(l++q8k c t).length*8<=140737488355328:=by simp;omega
  have hbd:∀x∈l++q8k c t,0<=x/\x<(qaj c c.act.toNat:Nat):=fun x hx=>(jQ.1 hx).elim (hb x) (hbb x)
  have hll:(l++q8k c t).length<=(k+1)*128:=by simp;omega
  generalize q8k c t=B at *
  have hq1:(l.length+B.length)*8<=140737488355328:=by simpa using hq
  by_cases hst:qkm t (qmf c t)=true
  .rw[if_pos hst]at hgo
   have hto:qmf c t=t:=(qii.1 hst).symm
   rw[hst,hto]at e150
   simp at e150
   have e33:=ev156 (h:=hM c s t F++[o0,⟨g+1,.arr 1 ((l++B).map qej)⟩]) (i:=17) (g:=g+1) (l:=l++B) rfl (q9m c s t F (g+1) _) (by omega)
   obtain⟨l',hp,hsr,e33⟩:=e33
   have e36:=ev157 (h:=hM c s t F++[o0,⟨g+1,.arr 1 (l'.map qej)⟩]) (i:=17) (g:=g+1) (l:=l') rfl (q9m c s t F (g+1) _) (by have:=hp.length_eq;omega)
   obtain⟨rows,hr1,hr2,e36⟩:=e36
   have hcn:qau l'=norm (qaj c c.act.toNat) (l++B):=qpk hsr (fun x=>hp.mem_iff) hbd
   have hle:(qau l').length<=rows.length:=by
    have:=congrArg List.length hr2
    simp at this
    omega
   have hpl:=hp.length_eq
   rw[hcn]at hr2 e36 hle
   rw[hpl]at e36
   subst hgo
   generalize norm (qaj c c.act.toNat) (l++B)=M at *
   simp at e33 e36
   unfold q8w ztg
   rcases hw with rfl | rfl<;>simp[L240_0,hk',e150,hq1,e33,e36,hf.ne]
   all_goals exact .yes t M rfl k (g+1) rows hr2 hle (by simp[zke,hf.ne])
  .have hsf:qkm t (qmf c t)=false:=by simpa using hst
   rw[if_neg hst]at hgo
   rw[hsf]at e150
   simp at e150
   have hG':G123 c F Z (k+1) (qmf c t,l++B,g+1,1):=⟨by rw[<-hgo,show 65-(k+1)=64-k by omega],hone,hfi',hll,hbd,.inl rfl⟩
   unfold q8w ztg
   generalize qmf c t=v at *
   rcases hw with rfl | rfl<;>simp[L240_0,hk',e150,hq1,wk,hf.ne]
   all_goals exact⟨_,_,_,_,hG',by simp⟩
 .rintro⟨t,l,g,w⟩ f hf hG
  have hgo:=hG.go
  simp only[Nat.sub_self,qfg]at hgo
  subst hgo
  have hw:w=1\/w=0:=hG.w
  unfold q8w ztg
  rcases hw with rfl | rfl<;>simp[L240_0,hf.ne]
  .exact .no rfl (t,l,g,1) (.inl rfl) (by simp[q8w,hf.ne])
  .exact .no rfl (t,l,g,0) (.inr rfl) (by simp[q8w,hf.ne])
theorem zdp{rows:List (List V)}{W:List (List V)}{n:Nat}(h:rows.take n=W):(if n=rows.length then rows else rows.take n)=W:=by
 split
 .rename_i e
  rw[e,List.take_length]at h
  exact h
 .exact h
theorem ev240_some{c:Ct}{u:Ste}(s:Ste)(hu:Rdy c u){t:Ste}{m:List Int}(hz:qde c u=some (t,m)):∃k:Nat,ev pg (.call (.fn 240 [] []) [.bptr 15 0] (hM c s u (qal u)))=some { v:=.tup [num k,.sl 16 0 1 0 m.length,num 0],st:=⟨[],hM c s t (qal u)++[⟨0,.arr 1 (m.map qej)⟩]⟩ }:=by
 have hl:=@zwy c u s hu
 rw[hz]at hl
 generalize qal u=F at *
 have key:∃r,∃k:Nat,ev pg (.call (.fn 240 [] []) [.bptr 15 0] (hM c s u F))=some r/\r={ v:=.tup [num k,.sl 16 0 1 0 m.length,num 0],st:=⟨[],hM c s t F++[⟨0,.arr 1 (m.map qej)⟩]⟩ }:=by
  rw[qac,pg240]
  simp[ir240,qaf]
  generalize hr:ev pg (.code (.going _ L240_0) _)=o
  obtain⟨r,rfl,hO⟩:∃r,o=some r/\_:=by rw[<-hr];exact hl (by simp[q8w])
  clear hr
  cases hO with
  | no hz'=>cases hz'
  | yes t' m' hz' k g rows hr hle he =>
   obtain⟨rfl,rfl⟩:=Prod.mk.inj (Option.some.inj hz')
   obtain⟨f,hf,rfl⟩:=he
   have hif:=zdp hr
   simp[zke,qcf,qdw,qdt,hle,hif]
   exact⟨k,rfl⟩
 obtain⟨r,k,e,rfl⟩:=key
 exact⟨k,e⟩
theorem ev240_none{c:Ct}{u:Ste}(s:Ste)(hu:Rdy c u)(hz:qde c u=none):∃t,ev pg (.call (.fn 240 [] []) [.bptr 15 0] (hM c s u (qal u)))=some { v:=.tup [num 0,.nils,num 21],st:=⟨[],hM c s t (qal u)⟩ }:=by
 have hl:=@zwy c u s hu
 rw[hz]at hl
 generalize qal u=F at *
 have key:∃r t,ev pg (.call (.fn 240 [] []) [.bptr 15 0] (hM c s u F))=some r/\r={ v:=.tup [num 0,.nils,num 21],st:=⟨[],hM c s t F⟩ }:=by
  rw[qac,pg240]
  simp[ir240,qaf]
  generalize hr:ev pg (.code (.going _ L240_0) _)=o
  obtain⟨r,rfl,hO⟩:∃r,o=some r/\_:=by rw[<-hr];exact hl (by simp[q8w])
  clear hr
  cases hO with
  | yes t' m' hz'=>cases hz'
  | no hz' a hw he =>
   obtain⟨t,l,g,w⟩:=a
   obtain⟨f,hf,rfl⟩:=he
   have hww:w=1\/w=0:=hw
   rcases hww with rfl | rfl<;>simp[q8w,qcf,qdw,qdt]<;>exact⟨t,by simp⟩
 obtain⟨r,t,e,rfl⟩:=key
 exact⟨t,e⟩
abbrev z9d(c:Ct)(s:Ste):H:=[⟨0,.box c.cells⟩,⟨0,.box s.cells⟩,o0,o0,o0,o0,o0,⟨0,.box (zhh 2)⟩]
theorem ev239{c:Ct}{s:Ste}(h:Rdy c s):ev pg (.call (.fn 239 [] []) [c.v,s.v] (z9d c s))=some { v:=.tup [.bptr 15 0,num 0],st:=⟨[],hM c s s (qal s)⟩ }:=by
 have e45:=ev111 c s h.few h.small
 rw[h.st]at e45
 have e149:=ev277 s h.small
 have hF:=zbb h.mid h.shp
 have hact:=h.mid.act
 have hhi:=h.mid.hi
 have hinp:=h.mid.inp
 rw[hF]
 unfold qao
 generalize c.act.toNat=A at *
 have w1:IntKind.i64.wrap (2*c.act)=2*(A:Int):=by rw[hact];exact qab (by omega) (by omega)
 have w2:=qab (n:=2*(A:Int)+(c.inputs.length:Int)) (by omega) (by omega)
 rw[qac,pg239]
 simp[qaa,exT,qad,ir239,e45,e149,w1,w2]
theorem ev195_some{c:Ct}{s:Ste}(h:Rdy c s){t:Ste}{m:List Int}(hz:qde c s=some (t,m)):ev pg (.call (.fn 195 [] []) [c.v,s.v] [])=some { v:=.tup [zli t,.sl 5 0 1 0 m.length,num 0],st:=⟨[],z5d t++[⟨0,.arr 1 (m.map qej)⟩]⟩ }:=by
 have e122:=ev239 h
 obtain⟨k,e123⟩:=ev240_some s h hz
 generalize qal s=F at *
 rw[qac,pg195]
 simp at e123
 simp[ir195,e122,e123,qcf,qdw,qkf,qdt]
theorem ev195_none{c:Ct}{s:Ste}(h:Rdy c s)(hz:qde c s=none):ev pg (.call (.fn 195 [] []) [c.v,s.v] [])=some { v:=.tup [.agg (zhh 0),.nils,num 21],st:=⟨[],[o0,o0,o0,o0,o0]⟩ }:=by
 have e122:=ev239 h
 obtain⟨t,e123⟩:=ev240_none s h hz
 generalize qal s=F at *
 rw[qac,pg195]
 simp at e123
 simp[ir195,e122,e123,qcf,qdw,qkf,qdt]
theorem q4e:∀(l:List Int) (k:Nat),(qen l)[2*k]?=l[k]?.map (· == 0)/\(qen l)[2*k+1]?=l[k]?.map (· == 2)
 | [],k=>by simp[qen]
 | e :: l,0=>by simp[qen]
 | e :: l,k+1=>by
  have ih:=q4e l k
  rw[show 2*(k+1)=2*k+1+1 by omega]
  simp only[qen,List.getElem?_cons_succ]
  exact ih
theorem qzo(s:Ste){k:Nat}(hk:k<s.ends.length):(qag s)[2*k]?=some (s.ends[k]==0)/\(qag s)[2*k+1]?=some (s.ends[k]==2):=by
 obtain⟨h1,h2⟩:=q4e s.ends k
 have hl:=qeo s.ends
 unfold qag
 rw[List.append_assoc,jI (by omega),jI (by omega),h1,h2,jA hk]
 exact⟨rfl,rfl⟩
theorem zbs(s:Ste){k:Nat}(hk:k<s.inputs.length):(qag s)[2*s.ends.length+k]?=some s.inputs[k]:=by
 have hl:=qeo s.ends
 unfold qag
 rw[List.append_assoc,jJ (by omega),hl,Nat.add_sub_cancel_left,jI hk,jA hk]
theorem zbt(s:Ste){k:Nat}(hk:k<s.values.length):(qag s)[2*s.ends.length+s.inputs.length+k]?=some s.values[k]:=by
 have hl:=qeo s.ends
 unfold qag
 rw[jJ (by rw[jF];omega),jF,hl,Nat.add_sub_cancel_left,jA hk]
theorem ev196{c:Ct}{s:Ste}(h:Rdy c s)(x:Int)(h0:0<=x)(h1:x<(qag s).length):ev pg (.call (.fn 196 [] []) [c.v,s.v,num x] [])=some { v:=.bool (((qag s)[x.toNat]?).getD false),st:=⟨[],[]⟩ }:=by
 have hS:=h.shp
 have hm:=h.mid
 have hact:=hm.act
 have hhi:=hm.hi
 have hinp:=hm.inp
 have hsig:=hm.sig
 have he:=hS.e
 have hin:=hS.i
 have hv:=hS.v
 have hlen:=qez s
 generalize c.act.toNat=A at *
 have hea:s.ends.length=A:=by omega
 obtain⟨n,rfl⟩:∃n:Nat,x=n:=⟨x.toNat,by omega⟩
 have wA:IntKind.i64.wrap (2*c.act)=2*(A:Int):=by rw[hact];exact qab (by omega) (by omega)
 have w1:IntKind.i64.wrap ((n:Int)-2*(A:Int))=(n:Int)-2*A:=qab (by omega) (by omega)
 have w2:IntKind.i64.wrap ((n:Int)-2*(A:Int)-s.inputs.length)=(n:Int)-2*A-s.inputs.length:=qab (by omega) (by omega)
 rw[qac,pg196]
 by_cases c1:n<2*A
 .have c1':(n:Int)<2*(A:Int):=by omega
  rcases Nat.mod_two_eq_zero_or_one n with hp | hp
  .obtain⟨k,rfl⟩:∃k,n=2*k:=⟨n / 2,by omega⟩
   have hk:k<s.ends.length:=by omega
   obtain⟨l1,l2⟩:=qzo s hk
   have hq:Int.tdiv (2*(k:Int)) 2=(k:Int):=by
    rw[show(2*(k:Int))=((2*k:Nat):Int)by omega,show(2:Int)=((2:Nat):Int)by rfl,<-Int.ofNat_tdiv]
    congr 1
    omega
   have hr:Int.tmod (2*(k:Int)) 2=0:=by
    rw[show(2*(k:Int))=((2*k:Nat):Int)by omega,show(2:Int)=((2:Nat):Int)by rfl,<-Int.ofNat_tmod]
    omega
   have wk:=qab (n:=(k:Int)) (by omega) (by omega)
   have c1'':2*(k:Int)<2*(A:Int):=by omega
   have hkA:k<A:=by omega
   have tn:(2*(k:Int)).toNat=2*k:=by omega
   simp[qaa,exT,qad,ir196,wA,c1'',hkA,hq,hr,wk,hk,l1,tn]
  .obtain⟨k,rfl⟩:∃k,n=2*k+1:=⟨n / 2,by omega⟩
   have hk:k<s.ends.length:=by omega
   obtain⟨l1,l2⟩:=qzo s hk
   have hq:Int.tdiv (2*(k:Int)+1) 2=(k:Int):=by
    rw[show(2*(k:Int)+1)=((2*k+1:Nat):Int)by omega,show(2:Int)=((2:Nat):Int)by rfl,<-Int.ofNat_tdiv]
    congr 1
    omega
   have hr:Int.tmod (2*(k:Int)+1) 2=1:=by
    rw[show(2*(k:Int)+1)=((2*k+1:Nat):Int)by omega,show(2:Int)=((2:Nat):Int)by rfl,<-Int.ofNat_tmod]
    omega
   have wk:=qab (n:=(k:Int)) (by omega) (by omega)
   have c1'':2*(k:Int)+1<2*(A:Int):=by omega
   have tn:(2*(k:Int)+1).toNat=2*k+1:=by omega
   simp[qaa,exT,qad,ir196,wA,c1'',hq,hr,wk,hk,l2,tn]
 .have c1':¬(n:Int)<2*(A:Int):=by omega
  obtain⟨k,rfl⟩:∃k,n=2*A+k:=⟨n-2*A,by omega⟩
  have e1:((2*A+k:Nat):Int)-2*A=(k:Int):=by omega
  rw[e1]at w1 w2
  have c2:¬2*(A:Int)+(k:Int)<2*(A:Int):=by omega
  have w1':IntKind.i64.wrap (2*(A:Int)+(k:Int)-2*(A:Int))=(k:Int):=by
   rw[qab (by omega) (by omega)];omega
  have tn:(2*(A:Int)+(k:Int)).toNat=2*A+k:=by omega
  by_cases c3:k<s.inputs.length
  .have c3':(k:Int)<s.inputs.length:=by omega
   have l1:=zbs s c3
   rw[hea]at l1
   simp[ir196,wA,c2,w1',c3,c3',l1,tn]
  .have c3':¬(k:Int)<s.inputs.length:=by omega
   obtain⟨q,rfl⟩:∃q,k=s.inputs.length+q:=⟨k-s.inputs.length,by omega⟩
   have hq:q<s.values.length:=by omega
   have l1:=zbt s hq
   rw[hea]at l1
   have w3:IntKind.i64.wrap ((s.inputs.length:Int)+(q:Int)-(s.inputs.length:Int))=(q:Int):=by
    rw[qab (by omega) (by omega)];omega
   have w4:IntKind.i64.wrap (2*(A:Int)+((s.inputs.length:Int)+(q:Int))-2*(A:Int))=(s.inputs.length:Int)+q:=by
    rw[qab (by omega) (by omega)];omega
   have c4:¬(s.inputs.length:Int)+(q:Int)<s.inputs.length:=by omega
   have c5:¬2*(A:Int)+((s.inputs.length:Int)+(q:Int))<2*(A:Int):=by omega
   have tn2:(2*(A:Int)+((s.inputs.length:Int)+(q:Int))).toNat=2*A+s.inputs.length+q:=by omega
   simp[ir196,wA,c5,w4,c4,w3,hq,tn2,l1]
end Go.Proofs.YtddeacahiilikaaGreat
