/- slices.Compact of an own slice. The signals come to rest, by settle. The signals come to rest, by settle: the functions. The value of a line, by plant. -/
import Derived.Test.YtddeacahiilikaaGreatSo14
import Derived.Test.YtddeacahiilikaaGreatTo2
import Derived.Test.YtddeacahiilikaaGreatSo2
set_option linter.all false
namespace Go.Proofs.YtddeacahiilikaaGreat
open Go Go.Am Go.Proofs
set_option maxRecDepth 100000
theorem qvd:∀(xs:List Int) (y z:Int),qax (xs++[y,z])=if y=z then qax (xs++[y])else qax (xs++[y])++[z]
 | [],y,z=>by simp only[List.nil_append,qax];split<;>simp[*]
 | [x],y,z=>by
  simp only[List.cons_append,List.nil_append,qax]
  split<;>split<;>simp[*]
 | x :: x2 :: xs,y,z=>by
  have ih:=qvd (x2 :: xs) y z
  simp only[List.cons_append]at ih ⊢
  rw[qax,qax]
  split
  .exact ih
  .rw[ih]
   split<;>simp
theorem qlk{l:List Int}{m:Nat}(h1:1<=m)(h2:m<l.length):qax (l.take (m+1))=if l[m]=l[m-1]then qax (l.take m)else qax (l.take m)++[l[m]]:=by
 obtain⟨p,rfl⟩:∃p,m=p+1:=⟨m-1,by omega⟩
 have e1:l.take (p+1)=l.take p++[l[p]]:=jK (by omega)
 have e2:l.take (p+1+1)=l.take p++[l[p],l[p+1]]:=by
  rw[jK h2,e1,List.append_assoc]
  rfl
 rw[e2,qvd,<-e1]
 simp only[Nat.add_sub_cancel]
 by_cases c:l[p]=l[p+1]
 .rw[if_pos c,if_pos c.symm]
 .rw[if_neg c,if_neg (fun e=>c e.symm)]
theorem zse{h:H}{i:Nat}(hi:i<h.length)(o:Ob)(g:Nat)(d:Array Int):put h i g d++[o]=put (h++[o]) i g d:=by
 unfold put
 rw[List.set_append_left _ _ hi]
def zmz(hl i g n k0 k t:Nat):Tm:=[some (.sl i g 1 0 n),none,some (.sl hl 0 0 0 0),some (num k),some (.sl i g 1 k0 (n-k0)),some (num t)]++List.replicate 55 none
structure G36(d0:Array Int)(n k0 t k:Nat)(d:Array Int):Prop where
 sz:d.size=n
 le:k<=k0+t
 eq:∀p,k0+t<=p->p<n->d[p]! = d0[p]!
 tk:d.toList.take k=qax (d0.toList.take (k0+t+1))
theorem zla{d0 d:Array Int}{n k0 t k:Nat}(h0:d0.size=n)(hG:G36 d0 n k0 t k d)(ht:k0+t+1<n)(h1:d[k0+t+1]! ≠ d[k0+t]!):G36 d0 n k0 (t+1) (k+1) (d.setIfInBounds k d[k0+t+1]!):=by
 have h2:=hG.eq (k0+t+1) (by omega) ht
 have h3:=hG.eq (k0+t) (by omega) (by omega)
 have hk:k<d.size:=by have:=hG.le;have:=hG.sz;omega
 have hc:=qlk (l:=d0.toList) (m:=k0+t+1) (by omega) (by simp;omega)
 refine⟨by simp[hG.sz],by have:=hG.le;omega,fun p hp hpn=>?_,?_⟩
 .rw[<-hG.eq p (by omega) hpn,getElem!_pos _ p (by simp;have:=hG.sz;omega),getElem!_pos d p (by have:=hG.sz;omega)]
  rw[Array.getElem_setIfInBounds_ne]
  have:=hG.le
  omega
 .rw[show k0+(t+1)+1=k0+t+1+1 by omega,hc]
  have e1:(d0.toList[k0+t+1]'(by simp;omega))=d[k0+t+1]! := by
   rw[h2,getElem!_pos d0 _ (by omega)];simp
  have e2:(d0.toList[k0+t+1-1]'(by simp;omega))=d[k0+t]! := by
   rw[h3,getElem!_pos d0 _ (by omega)];simp
  rw[e1,e2,if_neg h1,<-hG.tk,Array.toList_setIfInBounds,jK (by simpa using hk)]
  rw[List.take_set_of_le (jD _)]
  simp
theorem zmq{d0 d:Array Int}{n k0 t k:Nat}(h0:d0.size=n)(hG:G36 d0 n k0 t k d)(ht:k0+t+1<n)(h1:d[k0+t+1]! = d[k0+t]!):G36 d0 n k0 (t+1) k d:=by
 have h2:=hG.eq (k0+t+1) (by omega) ht
 have h3:=hG.eq (k0+t) (by omega) (by omega)
 have hc:=qlk (l:=d0.toList) (m:=k0+t+1) (by omega) (by simp;omega)
 refine⟨hG.sz,by have:=hG.le;omega,fun p hp hpn=>hG.eq p (by omega) hpn,?_⟩
 rw[show k0+(t+1)+1=k0+t+1+1 by omega,hc]
 have e1:(d0.toList[k0+t+1]'(by simp;omega))=d[k0+t+1]! := by
  rw[h2,getElem!_pos d0 _ (by omega)];simp
 have e2:(d0.toList[k0+t+1-1]'(by simp;omega))=d[k0+t]! := by
  rw[h3,getElem!_pos d0 _ (by omega)];simp
 rw[e1,e2,if_pos h1]
 exact hG.tk
theorem jdi{h:H}{i g:Nat}(hm:Mem h i g)(hl n k0:Nat)(hhl:hl<h.length)(hn:n<=1000000)(d0:Array Int)(h0s:d0.size=n):∀(m t k:Nat) (d:Array Int),n-(k0+t+1)=m->k0+t+1<=n->G36 d0 n k0 t k d->∀(st:St),At (zmz hl i g n k0 k (t+1)) (put h i g d) st->∃r,ev pg (.code (.going h.length L157_0) st)=some r/\∃d' k',G36 d0 n k0 (n-k0-1) k' d'/\qam (.exit 2) (zmz hl i g n k0 k' (n-k0)) (put h i g d') r:=by
 intro m
 induction m with
 | zero =>
  intro t k d hmm ht hG st h0
  refine qbf (fun f hf=>?_) h0
  obtain rfl:t=n-k0-1:=by omega
  have c1:¬((n-k0-1:Nat):Int)+1<((n-k0:Nat):Int):=by omega
  have c2:((n-k0-1:Nat):Int)+1=((n-k0:Nat):Int):=by omega
  unfold zmz
  generalize n-k0-1=t at *
  generalize n-k0=L at *
  simp[-qap,-qbb,qaa,exT,qaf,L157_0,c1,hf.ne]
  exact⟨d,k,hG,by simp[c2,hf.ne]⟩
 | succ m ih =>
  intro t k d hmm ht hG st h0
  have hsz:=hG.sz
  have hle:=hG.le
  have c1:(t:Int)+1<((n-k0:Nat):Int):=by omega
  have c3:t+1<n-k0:=by omega
  have c4:t<n-k0:=by omega
  have m1:=hm.lt
  have m2:=hm.set
  have m3:=hm.get
  have b1:k0+t<d.size:=by omega
  have b2:k0+(t+1)<d.size:=by omega
  have b3:k<d.size:=by omega
  have p1:(0:Int)<=(t:Int)+1:=by omega
  have r1:=qao (d:=d) (k:=k0+t) b1
  have r2:=qao (d:=d) (k:=k0+(t+1)) b2
  obtain⟨z,r3⟩:=qci d k
  have wt:=qab (n:=(t:Int)) (by omega) (by omega)
  have wt2:=qab (n:=(t:Int)+1+1) (by omega) (by omega)
  have wk:=qab (n:=(k:Int)+1) (by omega) (by omega)
  by_cases l1:d[k0+(t+1)]! = d[k0+t]!
  .have hG':=zmq h0s hG (by omega) l1
   have ih':=ih (t+1) k d (by omega) (by omega) hG'
   refine qgw (T':=zmz hl i g n k0 k (t+1+1)) (h':=put h i g d) (fun f hf=>?_) ih' h0
   have m4:=hm.cl d
   rw[l1]at r2
   unfold zmz
   generalize d[k0+t]! = y at *
   generalize n-k0=L at *
   simp[-qap,-qbb,qaa,exT,qaf,L157_0,hhl,c1,c3,c4,p1,m1,m3,m4,r1,r2,b1,b2,wt,wt2,hf.ne]
  .have hG':=zla h0s hG (by omega) l1
   have ih':=ih (t+1) (k+1) _ (by omega) (by omega) hG'
   refine qgw (T':=zmz hl i g n k0 (k+1) (t+1+1)) (h':=put h i g (d.setIfInBounds k d[k0+(t+1)]!)) (fun f hf=>?_) ih' h0
   have m4:=hm.cl (d.setIfInBounds k d[k0+(t+1)]!)
   have hb:(d[k0+(t+1)]! == d[k0+t]!)=false:=by simpa using l1
   unfold zmz
   have hr3:∀hh,(qhg d)[k]'hh=[num z]:=r3
   generalize d[k0+t]! = y at *
   generalize d[k0+(t+1)]! = x at *
   generalize n-k0=L at *
   have b3':k<n:=by omega
   simp[-qap,-qbb,qaa,exT,qaf,L157_0,hhl,c1,c3,c4,p1,m1,m2,m3,m4,r1,r2,hr3,b1,b2,b3,b3',wt,wt2,wk,l1,hb,qbw,hf.ne]
def zlx(hl i g n k:Nat):Tm:=[some (.sl i g 1 0 n),none,some (.sl hl 0 0 0 0),some (num k)]++List.replicate 57 none
def jgr(i g k:Nat):Tm:=[none,none,some (.sl i g 1 0 k)]++List.replicate 58 none
inductive Out36 (h:H) (hl i g n:Nat) (d0:Array Int) (r:R):Prop where
 | no (hc:qax d0.toList=d0.toList) (he:qam (.exit 0) (zlx hl i g n n) (put h i g d0) r)
 | yes (rows:List (List V)) (k:Nat) (hk:k=(qax d0.toList).length) (hl:rows.length=n) (ht:rows.take k=(qax d0.toList).map qcc) (he:qam .ret (jgr i g k) (h.set i ⟨g,.arr 1 rows⟩) r)
theorem jdf{h:H}{i g:Nat}(hm:Mem h i g)(hl n:Nat)(hhl:hl<h.length)(hn:n<=1000000)(d0:Array Int)(h0s:d0.size=n):∀(m k:Nat),n-k=m->1<=k->k<=n->qax (d0.toList.take k)=d0.toList.take k->∀(st:St),At (zlx hl i g n k) (put h i g d0) st->∃r,ev pg (.code (.going h.length L157_1) st)=some r/\Out36 h hl i g n d0 r:=by
 subst h0s
 intro m
 induction m with
 | zero =>
  intro k hk h1 h2 hc st h0
  obtain rfl:k=d0.size:=by omega
  refine qbf (fun f hf=>?_) h0
  simp[-qap,-qbb,L157_1,zlx,hf.ne]
  refine .no ?_ (by simp[zlx,hf.ne])
  rw[kA (by simp)]at hc
  exact hc
 | succ m ih =>
  intro k hk h1 h2 hc st h0
  obtain⟨k,rfl⟩:∃q,k=q+1:=⟨k-1,by omega⟩
  have c1:(k:Int)+1<d0.size:=by omega
  have m1:=hm.lt
  have m3:=hm.get
  have b1:k<d0.size:=by omega
  have b2:k+1<d0.size:=by omega
  have p1:(0:Int)<=(k:Int)+1:=by omega
  have r1:=qao (d:=d0) (k:=k) b1
  have r2:=qao (d:=d0) (k:=k+1) b2
  have wk:=qab (n:=(k:Int)) (by omega) (by omega)
  have wk2:=qab (n:=(k:Int)+1+1) (by omega) (by omega)
  have hct:=qlk (l:=d0.toList) (m:=k+1) (by omega) (by simp;omega)
  have e1:(d0.toList[k+1]'(by simp;omega))=d0[k+1]! := by rw[getElem!_pos d0 _ b2];simp
  have e2:(d0.toList[k+1-1]'(by simp;omega))=d0[k]! := by rw[getElem!_pos d0 _ b1];simp
  rw[e1,e2]at hct
  by_cases l1:d0[k+1]! = d0[k]!
  .rw[if_pos l1,hc]at hct
   have hG:G36 d0 d0.size (k+1) 0 (k+1) d0:=⟨rfl,by omega,fun p _ _=>rfl,hct.symm⟩
   have hla:=jdi hm hl d0.size (k+1) hhl hn d0 rfl _ 0 (k+1) d0 rfl (by omega) hG
   refine qbf (fun f hf=>?_) h0
   have c2:k+1<=d0.size:=h2
   unfold zlx
   rw[l1]at r2
   generalize d0[k]! = y at *
   simp[-qap,-qbb,qaa,exT,qaf,L157_1,c1,c2,p1,m1,m3,r1,r2,b1,b2,wk,qag,hf.ne]
   generalize hr:ev pg (.code (.going _ L157_0) _)=o
   obtain⟨r,rfl,d',k',hG',f2,hf2,rfl⟩:∃r,o=some r/\_:=by rw[<-hr];exact hla _ (by simp[zmz,hhl,hf.ne])
   clear hr
   have hsz:=hG'.sz
   have hle:=hG'.le
   have hkn:k'<d0.size:=by omega
   have htk:=hG'.tk
   rw[show k+1+(d0.size-(k+1)-1)+1=d0.size by omega,kA (l:=d0.toList) (by simp)]at htk
   have hlen:k'=(qax d0.toList).length:=by rw[<-htk];simp;omega
   have q1:k'<=d0.size:=by omega
   have q2:¬d0.size-k'=0:=by omega
   have q3:k'+(d0.size-k')<=d'.size:=by omega
   simp[-qap,-qbb,-qeu,zmz,m1,m3,hsz,q1,q2,q3,hf2.ne]
   refine .yes (List.take k' (qhg d')++(List.replicate (d0.size-k') [num 0]++List.drop d0.size (qhg d'))) k' hlen ?_ ?_ (by simp[jgr,put,hf2.ne])
   .simp[hsz]
    omega
   .rw[List.take_append_of_le_length (by simp;omega),List.take_take,Nat.min_self,<-htk]
    unfold qhg
    rw[List.map_take]
  .rw[if_neg l1,hc]at hct
   have hc':qax (d0.toList.take (k+1+1))=d0.toList.take (k+1+1):=by
    rw[hct,jK (i:=k+1) (by simp;omega),e1]
   have ih':=ih (k+1+1) (by omega) (by omega) (by omega) hc'
   refine qgw (T':=zlx hl i g d0.size (k+1+1)) (h':=put h i g d0) (fun f hf=>?_) ih' h0
   have m4:=hm.cl d0
   have hb:(d0[k+1]! == d0[k]!)=false:=by simpa using l1
   unfold zlx
   generalize d0[k]! = y at *
   generalize d0[k+1]! = x at *
   simp[-qap,-qbb,qaa,exT,qaf,L157_1,c1,p1,m1,m3,m4,r1,r2,b1,b2,wk,wk2,l1,hb,hhl,hf.ne]
theorem ev157{h:H}{i g:Nat}{l:List Int}(hg:h[i]?=some ⟨g,.arr 1 (l.map qcc)⟩)(hc:qce h)(hn:l.length<65536):∃rows,rows.length=l.length/\rows.take (qax l).length=(qax l).map qcc/\ev pg (.call (.fn 157 [] []) [.sl i g 1 0 l.length] h)=some { v:=.sl i g 1 0 (qax l).length,st:=⟨[],h.set i ⟨g,.arr 1 rows⟩⟩ }:=by
 obtain⟨hi,_⟩:=jG.1 hg
 have hset:h.set i ⟨g,.arr 1 (l.map qcc)⟩=h:=by
  obtain⟨hi',e⟩:=jG.1 hg
  rw[<-e,List.set_getElem_self]
 have hcm:h.map (qbk h.length)=h:=hc
 by_cases h2:l.length<2
 .have hcl:qax l=l:=by
   rcases l with _ | ⟨x,_ | ⟨y,l⟩⟩
   .rfl
   .rfl
   .simp at h2;omega
  refine⟨l.map qcc,by simp,by rw[hcl,kA (by simp)],?_⟩
  rw[hset,hcl]
  have h2':(l.length:Int)<2:=by omega
  rw[qac,pg157]
  simp[-qap,-qbb,ir157,h2',qct,qel,qek,hcm,hi]
 .have h2':¬(l.length:Int)<2:=by omega
  have hi1:i<(h++[(⟨0,.arr 0 []⟩:Ob)]).length:=by simp;omega
  have hc1:qce (h++[(⟨0,.arr 0 []⟩:Ob)]):=qdp hc (by
   intro o ho
   rw[List.mem_singleton.1 ho]
   rfl)
  have hm:=qhz hi1 hc1 g
  have hps:put (h++[(⟨0,.arr 0 []⟩:Ob)]) i g l.toArray=h++[(⟨0,.arr 0 []⟩:Ob)]:=by
   rw[<-zse hi,q9u (by simpa[qhg]using hg)]
  have hlp:=jdf hm h.length l.length (by simp) (by omega) l.toArray (by simp) _ 1 rfl (jD _) (by omega) (by
   rcases l with _ | ⟨x,l⟩
   .simp at h2
   .simp[qax])
  rw[hps]at hlp
  simp only[jF,List.length_cons,List.length_nil,Nat.zero_add]at hlp
  have key:∃r rows,ev pg (.call (.fn 157 [] []) [.sl i g 1 0 l.length] h)=some r/\rows.length=l.length/\rows.take (qax l).length=(qax l).map qcc/\r={ v:=.sl i g 1 0 (qax l).length,st:=⟨[],h.set i ⟨g,.arr 1 rows⟩⟩ }:=by
   rw[qac,pg157]
   simp[-qap,-qbb,ir157,h2',qag]
   generalize hr:ev pg (.code (.going _ L157_1) _)=o
   obtain⟨r,rfl,hO⟩:∃r,o=some r/\_:=by rw[<-hr];exact hlp _ (by simp[zlx])
   clear hr
   cases hO with
   | no hcc he =>
    obtain⟨f,hf,rfl⟩:=he
    have ck2:=qcx hc [(⟨0,.arr 0 []⟩:Ob)]
    simp only at hcc
    have hcl:qax l=l:=by simpa using hcc
    rw[hps]
    simp[-qap,-qbb,zlx,ck2,qct,qel,qek,hi]
    exact⟨l.map qcc,by simp,by rw[hcl,kA (by simp)],by rw[hcl],by rw[hcm,hset]⟩
   | yes rows k hk hl ht he =>
    obtain⟨f,hf,rfl⟩:=he
    simp only at hk ht
    have hcal:qce (h.set i ⟨g,.arr 1 rows⟩):=by
     rw[qiz]at hc ⊢
     intro o ho
     rw[jU]
     rcases jT ho with h1 | h1
     .exact hc o h1
     .rw[h1];rfl
    have ck2:=qcx hcal [(⟨0,.arr 0 []⟩:Ob)]
    rw[jU]at ck2
    have hsa:(h++[(⟨0,.arr 0 []⟩:Ob)]).set i ⟨g,.arr 1 rows⟩=h.set i ⟨g,.arr 1 rows⟩++[(⟨0,.arr 0 []⟩:Ob)]:=by rw[List.set_append_left _ _ hi]
    rw[hsa]
    simp[-qap,-qbb,jgr,ck2,qct,qel,qek,hi]
    exact⟨rows,hl,by rw[<-hk];exact ht,hk,by rw[hcm]⟩
  obtain⟨r,rows,e,h1,h2,rfl⟩:=key
  exact⟨rows,h1,h2,e⟩
theorem qrf(a b:Ste):qln a b=qln b a:=by
 rw[Bool.eq_iff_iff,qik,qik]
 exact⟨Eq.symm,Eq.symm⟩
theorem zyy{c:Ct}{u:Ste}(h:Rdy c u):∀x∈zcy c u,0<=x/\x<(qae c c.act.toNat:Nat):=by
 intro x hx
 unfold zcy at hx
 obtain⟨j,h1,_,rfl⟩:=(zaa _ _ _ _).1 hx
 have:=h.shp.e
 have:=h.shp.i
 have:=h.mid.act
 unfold qae qan
 omega
def zhg(k:Nat)(a:Ste×List Int×Nat×Nat):Tm:=[some (.bptr 15 0),none,some (num 0),some (.sl 16 0 0 0 0),some (num 0),some (.sl 17 a.2.2.1 a.2.2.2 0 a.2.1.length),some (num k)]++List.replicate 21 none
abbrev zbx(c:Ct)(s:Ste)(F:Nat)(a:Ste×List Int×Nat×Nat):H:=hM c s a.1 F++hQ a.2.2.1 a.2.2.2 a.2.1
def zxr(k g m:Nat):Tm:=[none,none,some (num k),some (.sl 17 g 1 0 m),some (num 0)]++List.replicate 23 none
inductive Out123 (c:Ct) (s:Ste) (F:Nat) (Z:Option (Ste×List Int)) (r:R):Prop where
 | no (hz:Z=none) (a:Ste×List Int×Nat×Nat) (hw:a.2.2.2=1\/a.2.2.2=0) (he:qam (.exit 0) (zhg 65 a) (zbx c s F a) r)
 | yes (t:Ste) (m:List Int) (hz:Z=some (t,m)) (k g:Nat) (rows:List (List V)) (hr:rows.take m.length=m.map qcc) (hl:m.length<=rows.length) (he:qam .ret (zxr k g m.length) (hM c s t F++[o0,⟨g,.arr 1 rows⟩]) r)
structure G123(c:Ct)(F:Nat)(Z:Option (Ste×List Int))(k:Nat)(a:Ste×List Int×Nat×Nat):Prop where
 go:qev c (qae c c.act.toNat) (65-k) a.1 a.2.1=Z
 rdy:Rdy c a.1
 first:qan a.1=F
 len:a.2.1.length<=k*128
 b:∀x∈a.2.1,0<=x/\x<(qae c c.act.toNat:Nat)
 w:a.2.2.2=1\/a.2.2.2=0
theorem Rdy.once{c:Ct}{s:Ste}(h:Rdy c s):Rdy c (qli c s):=⟨h.few,qud h.st⟩
theorem zdk(c:Ct)(s u:Ste)(F g:Nat)(rows:List (List V)):qce (hM c s u F++[o0,⟨g,.arr 1 rows⟩]):=by
 unfold qce
 simp
set_option maxHeartbeats 2000000 in
theorem z3s{c:Ct}{u:Ste}(s:Ste)(hu:Rdy c u){st:St}(h0:At (zhg 0 (u,[],0,0)) (zbx c s (qan u) (u,[],0,0)) st):∃r,ev pg (.code (.going 18 L240_0) st)=some r/\Out123 c s (qan u) (qdd c u) r:=by
 generalize hR:qdd c u=Z
 unfold qdd at hR
 generalize hF:qan u=F at h0 ⊢
 refine qcz 65 zhg (fun _ a=>zbx c s F a) (G123 c F Z) _ ?_ ?_ (u,[],0,0) ⟨hR,hu,hF,by simp,by simp,.inr rfl⟩ h0
 .rintro k ⟨t,l,g,w⟩ f hf hk hG
  have hgo:=hG.go
  have hrd:=hG.rdy
  have hfi:=hG.first
  have hlen:=hG.len
  have hb:=hG.b
  have hw:w=1\/w=0:=hG.w
  simp only at hgo hrd hfi hlen hb
  have hk':(k:Int)<=64:=by omega
  have wk:=qab (n:=(k:Int)+1) (by omega) (by omega)
  have e150:=ev278 s hrd g w l
  rw[hfi]at e150
  have hbl:(zcy c t).length<=128:=by
   have:=qke (zjv c (qah (qfb c t))) (qan t) c.signals.length
   have:=hrd.mid.sig
   unfold zcy
   omega
  have hbb:=zyy hrd
  have hfi':qan (qli c t)=F:=by rw[<-hfi];rfl
  rw[show 65-k=(64-k)+1 by omega,qev]at hgo
  have hone:=hrd.once
  rw[qrf]at hgo
  have hq:(l++zcy c t).length*8<=140737488355328:=by simp;omega
  have hbd:∀x∈l++zcy c t,0<=x/\x<(qae c c.act.toNat:Nat):=fun x hx=>(jQ.1 hx).elim (hb x) (hbb x)
  have hll:(l++zcy c t).length<=(k+1)*128:=by simp;omega
  generalize zcy c t=B at *
  have hq1:(l.length+B.length)*8<=140737488355328:=by simpa using hq
  by_cases hst:qln t (qli c t)=true
  .rw[if_pos hst]at hgo
   have hto:qli c t=t:=(qik.1 hst).symm
   rw[hst,hto]at e150
   simp at e150
   have e33:=ev156 (h:=hM c s t F++[o0,⟨g+1,.arr 1 ((l++B).map qcc)⟩]) (i:=17) (g:=g+1) (l:=l++B) rfl (zdk c s t F (g+1) _) (by omega)
   obtain⟨l',hp,hsr,e33⟩:=e33
   have e36:=ev157 (h:=hM c s t F++[o0,⟨g+1,.arr 1 (l'.map qcc)⟩]) (i:=17) (g:=g+1) (l:=l') rfl (zdk c s t F (g+1) _) (by have:=hp.length_eq;omega)
   obtain⟨rows,hr1,hr2,e36⟩:=e36
   have hcn:qax l'=norm (qae c c.act.toNat) (l++B):=qsf hsr (fun x=>hp.mem_iff) hbd
   have hle:(qax l').length<=rows.length:=by
    have:=congrArg List.length hr2
    simp at this
    omega
   have hpl:=hp.length_eq
   rw[hcn]at hr2 e36 hle
   rw[hpl]at e36
   subst hgo
   generalize norm (qae c c.act.toNat) (l++B)=M at *
   simp at e33 e36
   unfold zhg zbx
   rcases hw with rfl | rfl<;>simp[L240_0,hk',e150,hq1,e33,e36,hf.ne]
   all_goals exact .yes t M rfl k (g+1) rows hr2 hle (by simp[zxr,hf.ne])
  .have hsf:qln t (qli c t)=false:=by simpa using hst
   rw[if_neg hst]at hgo
   rw[hsf]at e150
   simp at e150
   have hG':G123 c F Z (k+1) (qli c t,l++B,g+1,1):=⟨by rw[<-hgo,show 65-(k+1)=64-k by omega],hone,hfi',hll,hbd,.inl rfl⟩
   unfold zhg zbx
   generalize qli c t=v at *
   rcases hw with rfl | rfl<;>simp[L240_0,hk',e150,hq1,wk,hf.ne]
   all_goals exact⟨_,_,_,_,hG',by simp⟩
 .rintro⟨t,l,g,w⟩ f hf hG
  have hgo:=hG.go
  simp only[Nat.sub_self,qev]at hgo
  subst hgo
  have hw:w=1\/w=0:=hG.w
  unfold zhg zbx
  rcases hw with rfl | rfl<;>simp[L240_0,hf.ne]
  .exact .no rfl (t,l,g,1) (.inl rfl) (by simp[zhg,hf.ne])
  .exact .no rfl (t,l,g,0) (.inr rfl) (by simp[zhg,hf.ne])
theorem zir{rows:List (List V)}{W:List (List V)}{n:Nat}(h:rows.take n=W):(if n=rows.length then rows else rows.take n)=W:=by
 split
 .rename_i e
  rw[e,List.take_length]at h
  exact h
 .exact h
theorem ev240_some{c:Ct}{u:Ste}(s:Ste)(hu:Rdy c u){t:Ste}{m:List Int}(hz:qdd c u=some (t,m)):∃k:Nat,ev pg (.call (.fn 240 [] []) [.bptr 15 0] (hM c s u (qan u)))=some { v:=.tup [num k,.sl 16 0 1 0 m.length,num 0],st:=⟨[],hM c s t (qan u)++[⟨0,.arr 1 (m.map qcc)⟩]⟩ }:=by
 have hl:=@z3s c u s hu
 rw[hz]at hl
 generalize qan u=F at *
 have key:∃r,∃k:Nat,ev pg (.call (.fn 240 [] []) [.bptr 15 0] (hM c s u F))=some r/\r={ v:=.tup [num k,.sl 16 0 1 0 m.length,num 0],st:=⟨[],hM c s t F++[⟨0,.arr 1 (m.map qcc)⟩]⟩ }:=by
  rw[qac,pg240]
  simp[ir240,qag]
  generalize hr:ev pg (.code (.going _ L240_0) _)=o
  obtain⟨r,rfl,hO⟩:∃r,o=some r/\_:=by rw[<-hr];exact hl (by simp[zhg])
  clear hr
  cases hO with
  | no hz'=>cases hz'
  | yes t' m' hz' k g rows hr hle he =>
   obtain⟨rfl,rfl⟩:=Prod.mk.inj (Option.some.inj hz')
   obtain⟨f,hf,rfl⟩:=he
   have hif:=zir hr
   simp[zxr,qct,qel,qek,hle,hif]
   exact⟨k,rfl⟩
 obtain⟨r,k,e,rfl⟩:=key
 exact⟨k,e⟩
theorem ev240_none{c:Ct}{u:Ste}(s:Ste)(hu:Rdy c u)(hz:qdd c u=none):∃t,ev pg (.call (.fn 240 [] []) [.bptr 15 0] (hM c s u (qan u)))=some { v:=.tup [num 0,.nils,num 21],st:=⟨[],hM c s t (qan u)⟩ }:=by
 have hl:=@z3s c u s hu
 rw[hz]at hl
 generalize qan u=F at *
 have key:∃r t,ev pg (.call (.fn 240 [] []) [.bptr 15 0] (hM c s u F))=some r/\r={ v:=.tup [num 0,.nils,num 21],st:=⟨[],hM c s t F⟩ }:=by
  rw[qac,pg240]
  simp[ir240,qag]
  generalize hr:ev pg (.code (.going _ L240_0) _)=o
  obtain⟨r,rfl,hO⟩:∃r,o=some r/\_:=by rw[<-hr];exact hl (by simp[zhg])
  clear hr
  cases hO with
  | yes t' m' hz'=>cases hz'
  | no hz' a hw he =>
   obtain⟨t,l,g,w⟩:=a
   obtain⟨f,hf,rfl⟩:=he
   have hww:w=1\/w=0:=hw
   rcases hww with rfl | rfl<;>simp[zhg,qct,qel,qek]<;>exact⟨t,by simp⟩
 obtain⟨r,t,e,rfl⟩:=key
 exact⟨t,e⟩
abbrev z3a(c:Ct)(s:Ste):H:=[⟨0,.box c.cells⟩,⟨0,.box s.cells⟩,o0,o0,o0,o0,o0,⟨0,.box (znb 2)⟩]
theorem ev239{c:Ct}{s:Ste}(h:Rdy c s):ev pg (.call (.fn 239 [] []) [c.v,s.v] (z3a c s))=some { v:=.tup [.bptr 15 0,num 0],st:=⟨[],hM c s s (qan s)⟩ }:=by
 have e45:=ev111 c s h.few h.small
 rw[h.st]at e45
 have e149:=ev277 s h.small
 have hF:=zfj h.mid h.shp
 have hact:=h.mid.act
 have hhi:=h.mid.hi
 have hinp:=h.mid.inp
 rw[hF]
 unfold qal
 generalize c.act.toNat=A at *
 have w1:IntKind.i64.wrap (2*c.act)=2*(A:Int):=by rw[hact];exact qab (by omega) (by omega)
 have w2:=qab (n:=2*(A:Int)+(c.inputs.length:Int)) (by omega) (by omega)
 rw[qac,pg239]
 simp[qaa,exT,qaf,ir239,e45,e149,w1,w2]
theorem ev195_some{c:Ct}{s:Ste}(h:Rdy c s){t:Ste}{m:List Int}(hz:qdd c s=some (t,m)):ev pg (.call (.fn 195 [] []) [c.v,s.v] [])=some { v:=.tup [ztl t,.sl 5 0 1 0 m.length,num 0],st:=⟨[],jgt t++[⟨0,.arr 1 (m.map qcc)⟩]⟩ }:=by
 have e122:=ev239 h
 obtain⟨k,e123⟩:=ev240_some s h hz
 generalize qan s=F at *
 rw[qac,pg195]
 simp at e123
 simp[ir195,e122,e123,qct,qel,qmk,qek]
theorem ev195_none{c:Ct}{s:Ste}(h:Rdy c s)(hz:qdd c s=none):ev pg (.call (.fn 195 [] []) [c.v,s.v] [])=some { v:=.tup [.agg (znb 0),.nils,num 21],st:=⟨[],[o0,o0,o0,o0,o0]⟩ }:=by
 have e122:=ev239 h
 obtain⟨t,e123⟩:=ev240_none s h hz
 generalize qan s=F at *
 rw[qac,pg195]
 simp at e123
 simp[ir195,e122,e123,qct,qel,qmk,qek]
theorem q9p:∀(l:List Int) (k:Nat),(qff l)[2*k]?=l[k]?.map (· == 0)/\(qff l)[2*k+1]?=l[k]?.map (· == 2)
 | [],k=>by simp[qff]
 | e :: l,0=>by simp[qff]
 | e :: l,k+1=>by
  have ih:=q9p l k
  rw[show 2*(k+1)=2*k+1+1 by omega]
  simp only[qff,List.getElem?_cons_succ]
  exact ih
theorem q1o(s:Ste){k:Nat}(hk:k<s.ends.length):(qah s)[2*k]?=some (s.ends[k]==0)/\(qah s)[2*k+1]?=some (s.ends[k]==2):=by
 obtain⟨h1,h2⟩:=q9p s.ends k
 have hl:=qfi s.ends
 unfold qah
 rw[List.append_assoc,jI (by omega),jI (by omega),h1,h2,jA hk]
 exact⟨rfl,rfl⟩
theorem zec(s:Ste){k:Nat}(hk:k<s.inputs.length):(qah s)[2*s.ends.length+k]?=some s.inputs[k]:=by
 have hl:=qfi s.ends
 unfold qah
 rw[List.append_assoc,jJ (by omega),hl,Nat.add_sub_cancel_left,jI hk,jA hk]
theorem zgc(s:Ste){k:Nat}(hk:k<s.values.length):(qah s)[2*s.ends.length+s.inputs.length+k]?=some s.values[k]:=by
 have hl:=qfi s.ends
 unfold qah
 rw[jJ (by rw[jF];omega),jF,hl,Nat.add_sub_cancel_left,jA hk]
theorem ev196{c:Ct}{s:Ste}(h:Rdy c s)(x:Int)(h0:0<=x)(h1:x<(qah s).length):ev pg (.call (.fn 196 [] []) [c.v,s.v,num x] [])=some { v:=.bool (((qah s)[x.toNat]?).getD false),st:=⟨[],[]⟩ }:=by
 have hS:=h.shp
 have hm:=h.mid
 have hact:=hm.act
 have hhi:=hm.hi
 have hinp:=hm.inp
 have hsig:=hm.sig
 have he:=hS.e
 have hin:=hS.i
 have hv:=hS.v
 have hlen:=qfw s
 generalize c.act.toNat=A at *
 have hea:s.ends.length=A:=by omega
 obtain⟨n,rfl⟩:∃n:Nat,x=n:=⟨x.toNat,by omega⟩
 have wA:IntKind.i64.wrap (2*c.act)=2*(A:Int):=by rw[hact];exact qab (by omega) (by omega)
 have w1:IntKind.i64.wrap ((n:Int)-2*(A:Int))=(n:Int)-2*A:=qab (by omega) (by omega)
 have w2:IntKind.i64.wrap ((n:Int)-2*(A:Int)-s.inputs.length)=(n:Int)-2*A-s.inputs.length:=qab (by omega) (by omega)
 rw[qac,pg196]
 by_cases c1:n<2*A
 .have c1':(n:Int)<2*(A:Int):=by omega
  rcases Nat.mod_two_eq_zero_or_one n with hp | hp
  .obtain⟨k,rfl⟩:∃k,n=2*k:=⟨n / 2,by omega⟩
   have hk:k<s.ends.length:=by omega
   obtain⟨l1,l2⟩:=q1o s hk
   have hq:Int.tdiv (2*(k:Int)) 2=(k:Int):=by
    rw[show(2*(k:Int))=((2*k:Nat):Int)by omega,show(2:Int)=((2:Nat):Int)by rfl,<-Int.ofNat_tdiv]
    congr 1
    omega
   have hr:Int.tmod (2*(k:Int)) 2=0:=by
    rw[show(2*(k:Int))=((2*k:Nat):Int)by omega,show(2:Int)=((2:Nat):Int)by rfl,<-Int.ofNat_tmod]
    omega
   have wk:=qab (n:=(k:Int)) (by omega) (by omega)
   have c1'':2*(k:Int)<2*(A:Int):=by omega
   have hkA:k<A:=by omega
   have tn:(2*(k:Int)).toNat=2*k:=by omega
   simp[qaa,exT,qaf,ir196,wA,c1'',hkA,hq,hr,wk,hk,l1,tn]
  .obtain⟨k,rfl⟩:∃k,n=2*k+1:=⟨n / 2,by omega⟩
   have hk:k<s.ends.length:=by omega
   obtain⟨l1,l2⟩:=q1o s hk
   have hq:Int.tdiv (2*(k:Int)+1) 2=(k:Int):=by
    rw[show(2*(k:Int)+1)=((2*k+1:Nat):Int)by omega,show(2:Int)=((2:Nat):Int)by rfl,<-Int.ofNat_tdiv]
    congr 1
    omega
   have hr:Int.tmod (2*(k:Int)+1) 2=1:=by
    rw[show(2*(k:Int)+1)=((2*k+1:Nat):Int)by omega,show(2:Int)=((2:Nat):Int)by rfl,<-Int.ofNat_tmod]
    omega
   have wk:=qab (n:=(k:Int)) (by omega) (by omega)
   have c1'':2*(k:Int)+1<2*(A:Int):=by omega
   have tn:(2*(k:Int)+1).toNat=2*k+1:=by omega
   simp[qaa,exT,qaf,ir196,wA,c1'',hq,hr,wk,hk,l2,tn]
 .have c1':¬(n:Int)<2*(A:Int):=by omega
  obtain⟨k,rfl⟩:∃k,n=2*A+k:=⟨n-2*A,by omega⟩
  have e1:((2*A+k:Nat):Int)-2*A=(k:Int):=by omega
  rw[e1]at w1 w2
  have c2:¬2*(A:Int)+(k:Int)<2*(A:Int):=by omega
  have w1':IntKind.i64.wrap (2*(A:Int)+(k:Int)-2*(A:Int))=(k:Int):=by
   rw[qab (by omega) (by omega)];omega
  have tn:(2*(A:Int)+(k:Int)).toNat=2*A+k:=by omega
  by_cases c3:k<s.inputs.length
  .have c3':(k:Int)<s.inputs.length:=by omega
   have l1:=zec s c3
   rw[hea]at l1
   simp[ir196,wA,c2,w1',c3,c3',l1,tn]
  .have c3':¬(k:Int)<s.inputs.length:=by omega
   obtain⟨q,rfl⟩:∃q,k=s.inputs.length+q:=⟨k-s.inputs.length,by omega⟩
   have hq:q<s.values.length:=by omega
   have l1:=zgc s hq
   rw[hea]at l1
   have w3:IntKind.i64.wrap ((s.inputs.length:Int)+(q:Int)-(s.inputs.length:Int))=(q:Int):=by
    rw[qab (by omega) (by omega)];omega
   have w4:IntKind.i64.wrap (2*(A:Int)+((s.inputs.length:Int)+(q:Int))-2*(A:Int))=(s.inputs.length:Int)+q:=by
    rw[qab (by omega) (by omega)];omega
   have c4:¬(s.inputs.length:Int)+(q:Int)<s.inputs.length:=by omega
   have c5:¬2*(A:Int)+((s.inputs.length:Int)+(q:Int))<2*(A:Int):=by omega
   have tn2:(2*(A:Int)+((s.inputs.length:Int)+(q:Int))).toNat=2*A+s.inputs.length+q:=by omega
   simp[ir196,wA,c5,w4,c4,w3,hq,tn2,l1]
end Go.Proofs.YtddeacahiilikaaGreat
