/- Two ascending lists as one, by the reference. A round of the plant, by the reference. Are lists equal, and states, by the program. The value of an expression, by settle. -/
import Derived.Test.YtddeacahiilikaaGreatRVv1
import Derived.KernelRfl
import Derived.Test.YtddeacahiilikaaGreatRCo1
set_option linter.all false
namespace Go.Proofs.YtddeacahiilikaaGreat
open Go Go.Am Go.Proofs
set_option maxRecDepth 100000
structure G65(a b:List Int)(k:Nat)(x:List Int×Nat×Nat×Nat×Nat):Prop where
 i:x.2.1<=a.length
 j:x.2.2.1<=b.length
 k:k<=x.2.1+x.2.2.1
 w:x.2.2.2.2=1\/x.2.2.2.2=0
 n:x.1.length<=x.2.1+x.2.2.1
 go:x.1++mrg (a.drop x.2.1) (b.drop x.2.2.1)=mrg a b
def T65(a b:List Int)(x:List Int×Nat×Nat×Nat×Nat):Tm:=[some (qel a),some (qel b),none,none,some (.sl 0 0 0 0 0),some (.sl 1 x.2.2.2.1 x.2.2.2.2 0 x.1.length),some (num x.2.1),some (num x.2.2.1)]++List.replicate 78 none
abbrev h65(x:List Int×Nat×Nat×Nat×Nat):H:=[o0,⟨x.2.2.2.1,.arr x.2.2.2.2 (x.1.map qdw)⟩]
theorem q2x{a b:List Int}{i j:Nat}(hi:i<a.length)(h:j=b.length\/∃hj:j<b.length,a[i]<b[j]):mrg (a.drop i) (b.drop j)=a[i] :: mrg (a.drop (i+1)) (b.drop j):=by
 rw[jL hi]
 rcases h with rfl | ⟨hj,h⟩
 .rw[List.drop_length,mrg]
  cases List.drop (i+1) a<;>simp[mrg]
 .rw[jL hj,mrg,if_pos h]
theorem qyq{a b:List Int}{i j:Nat}(hj:j<b.length)(h:i=a.length\/∃hi:i<a.length,b[j]<a[i]):mrg (a.drop i) (b.drop j)=b[j] :: mrg (a.drop i) (b.drop (j+1)):=by
 rw[jL hj]
 rcases h with rfl | ⟨hi,h⟩
 .rw[List.drop_length,mrg,mrg]
 .rw[jL hi,mrg,if_neg (by omega),if_pos h]
theorem zdr{a b:List Int}{i j:Nat}(hi:i<a.length)(hj:j<b.length)(h:a[i]=b[j]):mrg (a.drop i) (b.drop j)=a[i] :: mrg (a.drop (i+1)) (b.drop (j+1)):=by
 rw[jL hi,jL hj,mrg,if_neg (by omega),if_neg (by omega)]
def zps(a b:List Int)(r:R):Prop:=∃x:List Int×Nat×Nat×Nat×Nat,(x.2.2.2.2=1\/x.2.2.2.2=0)/\x.1=mrg a b/\qaj (.exit 0) (T65 a b x) (h65 x) r
set_option maxHeartbeats 1000000 in
theorem z3v(a b:List Int)(ha:a.length<=4096)(hb:b.length<=4096){st:St}(a0:List Int×Nat×Nat×Nat×Nat)(g0:G65 a b 0 a0)(h0:At (T65 a b a0) (h65 a0) st):∃r,ev pg (.code (.going 2 L175_0) st)=some r/\zps a b r:=by
 have fin:∀(x:List Int×Nat×Nat×Nat×Nat) (f:Nat->V),Junk f->x.2.1=a.length->x.2.2.1=b.length->(x.2.2.2.2=1\/x.2.2.2.2=0)->x.1++mrg (a.drop x.2.1) (b.drop x.2.2.1)=mrg a b->∃r,ev pg (.code L175_0 ⟨fill f 0 (T65 a b x),h65 x⟩)=some r/\r.x ≠ .normal/\zps a b r:=by
  rintro⟨o,i,j,g,m⟩ f hf hi hj hm hgo
  simp only at hi hj hm hgo
  subst hi hj
  rw[List.drop_length,List.drop_length,mrg,List.append_nil]at hgo
  simp[T65,L175_0]
  exact⟨(o,a.length,b.length,g,m),hm,hgo,by simp[T65,hf.ne]⟩
 refine qci (a.length+b.length) (fun _ x=>T65 a b x) (fun _ x=>h65 x) (G65 a b) _ ?_ ?_ a0 g0 h0
 .rintro k x f hf hk hG
  by_cases hx:x.2.1=a.length/\x.2.2.1=b.length
  .obtain⟨r,h1,h2,h3⟩:=fin x f hf hx.1 hx.2 hG.w hG.go
   exact⟨r,h1,.inr ⟨h2,h3⟩⟩
  .obtain⟨o,i,j,g,m⟩:=x
   have q1:i<=a.length:=hG.i
   have q2:j<=b.length:=hG.j
   have q3:k<=i+j:=hG.k
   have q4:m=1\/m=0:=hG.w
   have q5:o.length<=i+j:=hG.n
   have q6:o++mrg (a.drop i) (b.drop j)=mrg a b:=hG.go
   have hx':¬(i=a.length/\j=b.length):=hx
   have hb1:(o.length+1)*8<=140737488355328:=by omega
   have wi:=qab (n:=(i:Int)+1) (by omega) (by omega)
   have wj:=qab (n:=(j:Int)+1) (by omega) (by omega)
   by_cases hi:i<a.length
   .have hi':(i:Int)<a.length:=by omega
    have hib:((i:Int)==(a.length:Int))=false:=by simp;omega
    by_cases hj:j<b.length
    .have hj':(j:Int)<b.length:=by omega
     have hjb:((j:Int)==(b.length:Int))=false:=by simp;omega
     rcases Int.lt_trichotomy a[i] b[j]with h | h | h
     .have e:=q2x hi (.inr ⟨hj,h⟩)
      have hG':G65 a b (k+1) (o++[a[i]],i+1,j,g+1,1):=⟨hi,q2,by show _<=i+1+j;omega,.inl rfl,by simp;omega,by show(o++[a[i]])++_=_;rw[<-q6,e];simp⟩
      rcases q4 with rfl | rfl<;>simp[T65,L175_0,hi,hi',hj,hjb,h,hb1,wi,hf.ne]<;>exact⟨_,_,_,_,_,hG',by simp⟩
     .have hn1:¬a[i]<b[j]:=by omega
      have hn2:¬b[j]<a[i]:=by omega
      have e:=zdr hi hj h
      have hG':G65 a b (k+1) (o++[a[i]],i+1,j+1,g+1,1):=⟨hi,hj,by show _<=i+1+(j+1);omega,.inl rfl,by simp;omega,by show(o++[a[i]])++_=_;rw[<-q6,e];simp⟩
      rcases q4 with rfl | rfl<;>simp[T65,L175_0,hi,hi',hib,hj,hj',hjb,hn1,hn2,hb1,wi,wj,hf.ne]<;>exact⟨_,_,_,_,_,hG',by simp⟩
     .have hn1:¬a[i]<b[j]:=by omega
      have e:=qyq hj (.inr ⟨hi,h⟩)
      have hG':G65 a b (k+1) (o++[b[j]],i,j+1,g+1,1):=⟨q1,hj,by show _<=i+(j+1);omega,.inl rfl,by simp;omega,by show(o++[b[j]])++_=_;rw[<-q6,e];simp⟩
      rcases q4 with rfl | rfl<;>simp[T65,L175_0,hi,hi',hib,hj,hj',hjb,hn1,h,hb1,wj,hf.ne]<;>exact⟨_,_,_,_,_,hG',by simp⟩
    .have hje:j=b.length:=by omega
     subst hje
     have e:=q2x (b:=b) hi (.inl rfl)
     have hG':G65 a b (k+1) (o++[a[i]],i+1,b.length,g+1,1):=⟨hi,jD _,by show _<=i+1+b.length;omega,.inl rfl,by simp;omega,by show(o++[a[i]])++_=_;rw[<-q6,e];simp⟩
     rcases q4 with rfl | rfl<;>simp[T65,L175_0,hi,hi',hb1,wi,hf.ne]<;>exact⟨_,_,_,_,_,hG',by simp⟩
   .have hie:i=a.length:=by omega
    subst hie
    have hj:j<b.length:=by omega
    have hj':(j:Int)<b.length:=by omega
    have hjb:((j:Int)==(b.length:Int))=false:=by simp;omega
    have e:=qyq (a:=a) hj (.inl rfl)
    have hG':G65 a b (k+1) (o++[b[j]],a.length,j+1,g+1,1):=⟨jD _,hj,by show _<=a.length+(j+1);omega,.inl rfl,by simp;omega,by show(o++[b[j]])++_=_;rw[<-q6,e];simp⟩
    rcases q4 with rfl | rfl<;>simp[T65,L175_0,hj,hj',hjb,hb1,wj,hf.ne]<;>exact⟨_,_,_,_,_,hG',by simp⟩
 .rintro x f hf hG
  have h1:=hG.i
  have h2:=hG.j
  have h3:=hG.k
  exact fin x f hf (by omega) (by omega) hG.w hG.go
theorem ev175(a b:List Int)(ha:a.length<=4096)(hb:b.length<=4096):ev pg (.call (.fn 175 [] []) [qel a,qel b] [])=some { v:=qel (mrg a b),st:=⟨[],[]⟩ }:=by
 have hl:=@z3v a b ha hb
 rw[qac,pg175]
 simp[ir175,qaf]
 generalize hr:ev pg (.code (.going _ L175_0) _)=o
 obtain⟨r,rfl,⟨o,i,j,g,m⟩,hm,ho,f,hf,rfl⟩:∃r,o=some r/\_:=by
  rw[<-hr]
  exact hl ([],0,0,0,0) ⟨Nat.zero_le _,Nat.zero_le _,jD _,.inr rfl,jD _,rfl⟩ (by simp[T65])
 clear hr
 have hmm:m=1\/m=0:=hm
 have hoo:o=mrg a b:=ho
 subst hoo
 rcases hmm with rfl | rfl<;>simp[T65]
abbrev cfA(c:Ct)(t:Ste)(A:Nat):List Int:=qoe (fun i=>qbk (qad t) c.plus i&&qbk (qad t) c.minus i) (qah c A:Nat) A
theorem ev266_some(c:Ct){A:Nat}(hM:Mid c A)(s:Ste)(hs:s.small)(hS:Shp c s)(hok:∀x∈c.signals,SigOk (qad s).length x){t:Ste}{m:List Int}(hZ:qby c s=some (t,m))(ht:t.small)(hT:Shp c t)(hP:Pil c A (qad t).length)(hm:m.length<=4096):ev pg (.call (.fn 266 [] []) [c.v,s.v] [])=some { v:=.tup [(qiv (qhl c t)).v,qel (mrg m (cfA c t A)),.bool true],st:=⟨[],[]⟩ }:=by
 have h124:=ev290 c hM s hs hS hok
 have q8i:=ev291 c hM t ht hT hP
 have hvl:(qhl c t).valves.length=t.valves.length:=List.length_mapIdx
 have hsm:(qhl c t).small:=⟨ht.e,by rw[hvl];exact ht.w,ht.i,ht.v,ht.t⟩
 have qyb:=ev292 (qhl c t) hsm (by rw[hvl];have a1:=hT.e;have a2:=hT.w;show _=t.ends.length;omega)
 have hcl:(cfA c t A).length<=4096:=by
  unfold cfA
  have:=qgj (fun i=>qbk (qad t) c.plus i&&qbk (qad t) c.minus i) (qah c A:Nat) A
  have:=hM.hi
  omega
 have h65:=ev175 m (cfA c t A) hm hcl
 rw[hZ]at h124
 simp[qsy]at h124
 generalize hB:cfA c t A=B at *
 generalize qiv (qhl c t)=g at *
 generalize qhl c t=u at *
 rw[qac,pg266]
 rw[show qoe (fun i=>qbk (qad t) c.plus i&&qbk (qad t) c.minus i) (qah c A:Nat) A=B from hB]at q8i
 simp[ir266,h124,q8i,qyb,h65]
def T29(a b:List Bool)(k:Nat):Tm:=[some (qdt a),some (qdt b),none,none,none,none,none,none,none,none,none,none,some (num a.length),some (num k)]++List.replicate 12 none
def zzm:Tm:=[none,none,none,none,some (.bool false)]++List.replicate 21 none
theorem z3m(a b:List Bool)(hab:b.length=a.length)(ha:a.length<=4096){st:St}(h0:At (T29 a b 0) [] st):∃r,ev pg (.code (.going 0 L91_0) st)=some r/\qmo a.length (fun k=>a[k]? != b[k]?) (fun _=>qaj .ret zzm []) (qaj (.exit 0) (T29 a b a.length) []) r:=by
 refine qcx _ _ (T29 a b) [] _ _ ?_ ?_ ?_ h0
 .intro k f hf hk hp
  have hk':(k:Int)<a.length:=by omega
  have hkb:k<b.length:=by omega
  have wk:=qab (n:=(k:Int)+1) (by omega) (by omega)
  have hb:a[k]=b[k]:=by simpa[hk,hkb]using hp
  simp[qaa,exT,qae,T29,L91_0,hk,hk',hkb,hb,wk,hf.ne]
 .intro k f hf hk hp
  have hk':(k:Int)<a.length:=by omega
  have hkb:k<b.length:=by omega
  have hb:a[k]≠b[k]:=by simpa[hk,hkb]using hp
  have hb':(a[k]==b[k])=false:=by simpa using hb
  simp[qaa,exT,qae,T29,zzm,L91_0,hk,hk',hkb,hb',hf.ne]
 .intro f hf
  simp[T29,L91_0,hf.ne]
theorem ev91(a b:List Bool)(ha:a.length<=4096):ev pg (.call (.fn 91 [] []) [qdt a,qdt b] [])=some { v:=.bool (decide (a=b)),st:=⟨[],[]⟩ }:=by
 rw[qac,pg91]
 by_cases hab:b.length=a.length
 .have hloop:=@z3m a b hab ha
  have hab':(b.length:Int)=a.length:=by omega
  simp[ir91,qaf,hab']
  generalize hr:ev pg (.code (.going _ L91_0) _)=o
  obtain⟨r,rfl,hQ⟩:∃r,o=some r/\_:=by rw[<-hr];exact hloop (by simp[T29])
  rcases hQ with⟨k,hk,hp,-,f,hf,rfl⟩ | ⟨hp,f,hf,rfl⟩
  .have:a≠b:=by rintro rfl;simp at hp
   simp[zzm,this]
  .have:a=b:=by
    refine List.ext_getElem hab.symm fun k h1 h2=>?_
    have:=hp k h1
    simpa[h1,h2]using this
   simp[T29,this]
 .have hne:((a.length:Int) != (b.length:Int))=true:=by rw[bne_iff_ne];omega
  have:a≠b:=fun e=>hab (by rw[e])
  simp[ir91,hne,this]
theorem ev114(a b:Ste)(ha:a.small):ev pg (.call (.fn 114 [] []) [a.v,b.v] [])=some { v:=.bool (qhd a b),st:=⟨[],[]⟩ }:=by
 have h1:=ev40 a.ends b.ends ha.e
 have h2:=ev91 a.valves b.valves ha.w
 have h3:=ev91 a.inputs b.inputs ha.i
 have h4:=ev91 a.values b.values ha.v
 have h5:=ev40 a.timers b.timers ha.t
 rw[qac,pg114]
 unfold qhd
 generalize decide (a.ends=b.ends)=b1 at *
 generalize decide (a.valves=b.valves)=b2 at *
 generalize decide (a.inputs=b.inputs)=b3 at *
 generalize decide (a.values=b.values)=b4 at *
 cases b1 with
 | false=>simp[ir114,h1]
 | true=>cases b2 with
  | false=>simp[ir114,h1,h2]
  | true=>cases b3 with
   | false=>simp[ir114,h1,h2,h3]
   | true=>cases b4 with
    | false=>simp[ir114,h1,h2,h3,h4]
    | true=>simp[ir114,h1,h2,h3,h4,h5]
abbrev Mv(x:Ex)(vs:List Bool):H:=[⟨0,.box x.cells⟩,⟨0,.box [qdt vs]⟩]
def zes(x:Ex)(F k:Nat):Tm:=[some (.imm (x.args.map Ex.row)),some (.fn F [] [.bptr 1 0]),none,none,none,none,none,some (num x.args.length),some (num k)]++List.replicate 10 none
def zgk(x:Ex)(F k:Nat):Tm:=[some (.imm (x.args.map Ex.row)),some (.fn F [] [.bptr 1 0]),none,none,some (num k),none,none,some (num x.args.length),some (num k)]++List.replicate 10 none
theorem z1q(x:Ex)(vs:List Bool)(F:Nat)(p:Ex->Bool)(hx:x.nodes<=256)(hF:∀y∈x.args,ev pg (.call (.fn F [] [.bptr 1 0]) [y.v] (Mv x vs))=some { v:=.bool (p y),st:=⟨[],Mv x vs⟩ }){st:St}(h0:At (zes x F 0) (Mv x vs) st):∃r,ev pg (.code (.going 2 L316_0) st)=some r/\qmo x.args.length (fun k=>((x.args[k]?).map p).getD false) (fun k=>qaj .ret (zgk x F k) (Mv x vs)) (qaj (.exit 0) (zes x F x.args.length) (Mv x vs)) r:=by
 have hfew:=qfb hx
 refine qcx _ _ (zes x F) (Mv x vs) _ _ ?_ ?_ ?_ h0
 .intro k f hf hk hp
  have hk':(k:Int)<x.args.length:=by omega
  have wk:=qab (n:=(k:Int)+1) (by omega) (by omega)
  have hi:=hF _ (jH hk)
  have hh:p x.args[k]=false:=by simpa[hk]using hp
  rw[hh]at hi
  simp[zes,L316_0,hk,hk',wk,hi,hf.ne]
 .intro k f hf hk hp
  have hk':(k:Int)<x.args.length:=by omega
  have hi:=hF _ (jH hk)
  have hh:p x.args[k]=true:=by simpa[hk]using hp
  rw[hh]at hi
  simp[zes,zgk,L316_0,hk,hk',hi,hf.ne]
 .intro f hf
  simp[zes,L316_0,hf.ne]
theorem ev311(x:Ex)(vs:List Bool)(F:Nat)(p:Ex->Bool)(hx:x.nodes<=256)(hF:∀y∈x.args,ev pg (.call (.fn F [] [.bptr 1 0]) [y.v] (Mv x vs))=some { v:=.bool (p y),st:=⟨[],Mv x vs⟩ }):ev pg (.call (.fn 311 [] []) [.imm (x.args.map Ex.row),.fn F [] [.bptr 1 0]] (Mv x vs))=some { v:=.bool (x.args.any p),st:=⟨[],Mv x vs⟩ }:=by
 have hl:=@z1q x vs F p hx hF
 have h190:∃n:Int,ev pg (.call (.fn 316 [] []) [.imm (x.args.map Ex.row),.fn F [] [.bptr 1 0]] (Mv x vs))=some { v:=num n,st:=⟨[],Mv x vs⟩ }/\decide (n≥0)=x.args.any p:=by
  rw[qac,pg316]
  simp[ir316,qaf]
  generalize hr:ev pg (.code (.going _ L316_0) _)=o
  obtain⟨r,rfl,hQ⟩:∃r,o=some r/\_:=by rw[<-hr];exact hl (by simp[zes])
  rcases hQ with⟨k,hk,hp,-,f,hf,rfl⟩ | ⟨hp,f,hf,rfl⟩
  .refine⟨k,by simp[zgk],?_⟩
   have h1:p x.args[k]=true:=by simpa[hk]using hp
   have h2:x.args.any p=true:=List.any_eq_true.2 ⟨_,jH hk,h1⟩
   rw[h2]
   simp
  .refine⟨-1,by simp[zes],?_⟩
   have h2:x.args.any p=false:=by
    rw[List.any_eq_false]
    intro y hy
    obtain⟨k,hk,rfl⟩:=List.getElem_of_mem hy
    have:=hp k hk
    simpa[hk]using this
   rw[h2]
   rfl
 obtain⟨n,h1,h2⟩:=h190
 rw[qac,pg311]
 simp[ir311,h1,<-h2]
theorem ev302(vs:List Bool):∀x:Ex,x.nodes<=256->x.err vs.length=0->ev pg (.call (.fn 302 [] []) [x.v,qdt vs] [])=some { v:=.bool (x.holds vs),st:=⟨[],[]⟩ }:=by
 refine Ex.ind fun x ih hx he=>?_
 obtain⟨hn,hargs⟩:=qmv he
 have ih':∀y∈x.args,ev pg (.call (.fn 302 [] []) [y.v,qdt vs] [])=some { v:=.bool (y.holds vs),st:=⟨[],[]⟩ }:=fun y hy=>ih y hy (by have:=qex hx hy;omega) (hargs y hy)
 have hop:x.op=0\/x.op=1\/x.op=2\/x.op=3\/x.op=4:=by
  unfold qbg at hn
  by_cases h:x.op<0\/5<=x.op
  .rw[if_pos h]at hn;omega
  .omega
 have h179:∀y∈x.args,ev pg (.call (.fn 312 [] [.bptr 1 0]) [y.v] (Mv x vs))=some { v:=.bool (!y.holds vs),st:=⟨[],Mv x vs⟩ }:=fun y hy=>by
  have h:=ih' y hy
  rw[qac,pg312]
  simp[ir312,h]
 have h180:∀y∈x.args,ev pg (.call (.fn 313 [] [.bptr 1 0]) [y.v] (Mv x vs))=some { v:=.bool (y.holds vs),st:=⟨[],Mv x vs⟩ }:=fun y hy=>by
  have h:=ih' y hy
  rw[qac,pg313]
  simp[ir313,h]
 have a:=ev311 x vs _ _ hx h179
 have b:=ev311 x vs _ _ hx h180
 have e1:(x.args.map (Ex.holds vs)).all id=!(x.args.any fun y=>!y.holds vs):=by
  rw[List.all_map,List.not_any_eq_all_not];congr 1;funext y;simp
 have e2:(x.args.map (Ex.holds vs)).any id=x.args.any fun y=>y.holds vs:=by
  rw[List.any_map];rfl
 rw[qvx,e1,e2,qac,pg302]
 generalize (x.args.any fun y=>!y.holds vs)=A at *
 generalize (x.args.any fun y=>y.holds vs)=B at *
 rcases hop with h | h | h | h | h
 .simp[ir302,h]
 .obtain⟨hi0,hi1⟩:=qqv hn h
  have hin:x.idx.toNat<vs.length:=by omega
  simp[ir302,h,hi0,hin]
 .have h1:=q2z hn h
  obtain⟨y,hy⟩:∃y,x.args=[y]:=by
   match hq:x.args,h1 with
   | [y],_=>exact⟨y,rfl⟩
  have hiy:=ih' y (by rw[hy];exact List.mem_cons_self)
  simp[ir302,h,hy,hiy]
 .simp[Mv,Ex.cells,h]at a
  simp[ir302,h,a]
 .simp[Mv,Ex.cells,h]at b
  simp[ir302,h,b]
end Go.Proofs.YtddeacahiilikaaGreat
