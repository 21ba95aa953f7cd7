/- slices.Compact of an own slice. -/
import Derived.Test.YtddeacahiilikaaGreatRSo14
import Derived.Test.YtddeacahiilikaaGreatRGb2
set_option linter.all false
namespace Go.Proofs.YtddeacahiilikaaGreat
open Go Go.Am Go.Proofs
set_option maxRecDepth 100000
theorem qrd:∀(xs:List Int) (y z:Int),qav (xs++[y,z])=if y=z then qav (xs++[y])else qav (xs++[y])++[z]
 | [],y,z=>by simp only[List.nil_append,qav];split<;>simp[*]
 | [x],y,z=>by
  simp only[List.cons_append,List.nil_append,qav]
  split<;>split<;>simp[*]
 | x :: x2 :: xs,y,z=>by
  have ih:=qrd (x2 :: xs) y z
  simp only[List.cons_append]at ih ⊢
  rw[qav,qav]
  split
  .exact ih
  .rw[ih]
   split<;>simp
theorem qjz{l:List Int}{m:Nat}(h1:1<=m)(h2:m<l.length):qav (l.take (m+1))=if l[m]=l[m-1]then qav (l.take m)else qav (l.take m)++[l[m]]:=by
 obtain⟨p,rfl⟩:∃p,m=p+1:=⟨m-1,by omega⟩
 have e1:l.take (p+1)=l.take p++[l[p]]:=jK (by omega)
 have e2:l.take (p+1+1)=l.take p++[l[p],l[p+1]]:=by
  rw[jK h2,e1,List.append_assoc]
  rfl
 rw[e2,qrd,<-e1]
 simp only[Nat.add_sub_cancel]
 by_cases c:l[p]=l[p+1]
 .rw[if_pos c,if_pos c.symm]
 .rw[if_neg c,if_neg (fun e=>c e.symm)]
theorem zoe{h:H}{i:Nat}(hi:i<h.length)(o:Ob)(g:Nat)(d:Array Int):put h i g d++[o]=put (h++[o]) i g d:=by
 unfold put
 rw[List.set_append_left _ _ hi]
def zbd(hl i g n k0 k t:Nat):Tm:=[some (.sl i g 1 0 n),none,some (.sl hl 0 0 0 0),some (num k),some (.sl i g 1 k0 (n-k0)),some (num t)]++List.replicate 55 none
structure G36(d0:Array Int)(n k0 t k:Nat)(d:Array Int):Prop where
 sz:d.size=n
 le:k<=k0+t
 eq:∀p,k0+t<=p->p<n->d[p]! = d0[p]!
 tk:d.toList.take k=qav (d0.toList.take (k0+t+1))
theorem zcy{d0 d:Array Int}{n k0 t k:Nat}(h0:d0.size=n)(hG:G36 d0 n k0 t k d)(ht:k0+t+1<n)(h1:d[k0+t+1]! ≠ d[k0+t]!):G36 d0 n k0 (t+1) (k+1) (d.setIfInBounds k d[k0+t+1]!):=by
 have h2:=hG.eq (k0+t+1) (by omega) ht
 have h3:=hG.eq (k0+t) (by omega) (by omega)
 have hk:k<d.size:=by have:=hG.le;have:=hG.sz;omega
 have hc:=qjz (l:=d0.toList) (m:=k0+t+1) (by omega) (by simp;omega)
 refine⟨by simp[hG.sz],by have:=hG.le;omega,fun p hp hpn=>?_,?_⟩
 .rw[<-hG.eq p (by omega) hpn,getElem!_pos _ p (by simp;have:=hG.sz;omega),getElem!_pos d p (by have:=hG.sz;omega)]
  rw[Array.getElem_setIfInBounds_ne]
  have:=hG.le
  omega
 .rw[show k0+(t+1)+1=k0+t+1+1 by omega,hc]
  have e1:(d0.toList[k0+t+1]'(by simp;omega))=d[k0+t+1]! := by
   rw[h2,getElem!_pos d0 _ (by omega)];simp
  have e2:(d0.toList[k0+t+1-1]'(by simp;omega))=d[k0+t]! := by
   rw[h3,getElem!_pos d0 _ (by omega)];simp
  rw[e1,e2,if_neg h1,<-hG.tk,Array.toList_setIfInBounds,jK (by simpa using hk)]
  rw[List.take_set_of_le (jD _)]
  simp
theorem zcx{d0 d:Array Int}{n k0 t k:Nat}(h0:d0.size=n)(hG:G36 d0 n k0 t k d)(ht:k0+t+1<n)(h1:d[k0+t+1]! = d[k0+t]!):G36 d0 n k0 (t+1) k d:=by
 have h2:=hG.eq (k0+t+1) (by omega) ht
 have h3:=hG.eq (k0+t) (by omega) (by omega)
 have hc:=qjz (l:=d0.toList) (m:=k0+t+1) (by omega) (by simp;omega)
 refine⟨hG.sz,by have:=hG.le;omega,fun p hp hpn=>hG.eq p (by omega) hpn,?_⟩
 rw[show k0+(t+1)+1=k0+t+1+1 by omega,hc]
 have e1:(d0.toList[k0+t+1]'(by simp;omega))=d[k0+t+1]! := by
  rw[h2,getElem!_pos d0 _ (by omega)];simp
 have e2:(d0.toList[k0+t+1-1]'(by simp;omega))=d[k0+t]! := by
  rw[h3,getElem!_pos d0 _ (by omega)];simp
 rw[e1,e2,if_pos h1]
 exact hG.tk
theorem z1r{h:H}{i g:Nat}(hm:Mem h i g)(hl n k0:Nat)(hhl:hl<h.length)(hn:n<=1000000)(d0:Array Int)(h0s:d0.size=n):∀(m t k:Nat) (d:Array Int),n-(k0+t+1)=m->k0+t+1<=n->G36 d0 n k0 t k d->∀(st:St),At (zbd hl i g n k0 k (t+1)) (put h i g d) st->∃r,ev pg (.code (.going h.length L157_0) st)=some r/\∃d' k',G36 d0 n k0 (n-k0-1) k' d'/\qaj (.exit 2) (zbd hl i g n k0 k' (n-k0)) (put h i g d') r:=by
 intro m
 induction m with
 | zero =>
  intro t k d hmm ht hG st h0
  refine qay (fun f hf=>?_) h0
  obtain rfl:t=n-k0-1:=by omega
  have c1:¬((n-k0-1:Nat):Int)+1<((n-k0:Nat):Int):=by omega
  have c2:((n-k0-1:Nat):Int)+1=((n-k0:Nat):Int):=by omega
  unfold zbd
  generalize n-k0-1=t at *
  generalize n-k0=L at *
  simp[-qaq,-qbc,qaa,exT,qae,L157_0,c1,hf.ne]
  exact⟨d,k,hG,by simp[c2,hf.ne]⟩
 | succ m ih =>
  intro t k d hmm ht hG st h0
  have hsz:=hG.sz
  have hle:=hG.le
  have c1:(t:Int)+1<((n-k0:Nat):Int):=by omega
  have c3:t+1<n-k0:=by omega
  have c4:t<n-k0:=by omega
  have m1:=hm.lt
  have m2:=hm.set
  have m3:=hm.get
  have b1:k0+t<d.size:=by omega
  have b2:k0+(t+1)<d.size:=by omega
  have b3:k<d.size:=by omega
  have p1:(0:Int)<=(t:Int)+1:=by omega
  have r1:=qal (d:=d) (k:=k0+t) b1
  have r2:=qal (d:=d) (k:=k0+(t+1)) b2
  obtain⟨z,r3⟩:=qbx d k
  have wt:=qab (n:=(t:Int)) (by omega) (by omega)
  have wt2:=qab (n:=(t:Int)+1+1) (by omega) (by omega)
  have wk:=qab (n:=(k:Int)+1) (by omega) (by omega)
  by_cases l1:d[k0+(t+1)]! = d[k0+t]!
  .have hG':=zcx h0s hG (by omega) l1
   have ih':=ih (t+1) k d (by omega) (by omega) hG'
   refine qfy (T':=zbd hl i g n k0 k (t+1+1)) (h':=put h i g d) (fun f hf=>?_) ih' h0
   have m4:=hm.cl d
   rw[l1]at r2
   unfold zbd
   generalize d[k0+t]! = y at *
   generalize n-k0=L at *
   simp[-qaq,-qbc,qaa,exT,qae,L157_0,hhl,c1,c3,c4,p1,m1,m3,m4,r1,r2,b1,b2,wt,wt2,hf.ne]
  .have hG':=zcy h0s hG (by omega) l1
   have ih':=ih (t+1) (k+1) _ (by omega) (by omega) hG'
   refine qfy (T':=zbd hl i g n k0 (k+1) (t+1+1)) (h':=put h i g (d.setIfInBounds k d[k0+(t+1)]!)) (fun f hf=>?_) ih' h0
   have m4:=hm.cl (d.setIfInBounds k d[k0+(t+1)]!)
   have hb:(d[k0+(t+1)]! == d[k0+t]!)=false:=by simpa using l1
   unfold zbd
   have hr3:∀hh,(qgc d)[k]'hh=[num z]:=r3
   generalize d[k0+t]! = y at *
   generalize d[k0+(t+1)]! = x at *
   generalize n-k0=L at *
   have b3':k<n:=by omega
   simp[-qaq,-qbc,qaa,exT,qae,L157_0,hhl,c1,c3,c4,p1,m1,m2,m3,m4,r1,r2,hr3,b1,b2,b3,b3',wt,wt2,wk,l1,hb,qbm,hf.ne]
def zbe(hl i g n k:Nat):Tm:=[some (.sl i g 1 0 n),none,some (.sl hl 0 0 0 0),some (num k)]++List.replicate 57 none
def zzn(i g k:Nat):Tm:=[none,none,some (.sl i g 1 0 k)]++List.replicate 58 none
inductive Out36 (h:H) (hl i g n:Nat) (d0:Array Int) (r:R):Prop where
 | no (hc:qav d0.toList=d0.toList) (he:qaj (.exit 0) (zbe hl i g n n) (put h i g d0) r)
 | yes (rows:List (List V)) (k:Nat) (hk:k=(qav d0.toList).length) (hl:rows.length=n) (ht:rows.take k=(qav d0.toList).map qdw) (he:qaj .ret (zzn i g k) (h.set i ⟨g,.arr 1 rows⟩) r)
theorem z1s{h:H}{i g:Nat}(hm:Mem h i g)(hl n:Nat)(hhl:hl<h.length)(hn:n<=1000000)(d0:Array Int)(h0s:d0.size=n):∀(m k:Nat),n-k=m->1<=k->k<=n->qav (d0.toList.take k)=d0.toList.take k->∀(st:St),At (zbe hl i g n k) (put h i g d0) st->∃r,ev pg (.code (.going h.length L157_1) st)=some r/\Out36 h hl i g n d0 r:=by
 subst h0s
 intro m
 induction m with
 | zero =>
  intro k hk h1 h2 hc st h0
  obtain rfl:k=d0.size:=by omega
  refine qay (fun f hf=>?_) h0
  simp[-qaq,-qbc,L157_1,zbe,hf.ne]
  refine .no ?_ (by simp[zbe,hf.ne])
  rw[kA (by simp)]at hc
  exact hc
 | succ m ih =>
  intro k hk h1 h2 hc st h0
  obtain⟨k,rfl⟩:∃q,k=q+1:=⟨k-1,by omega⟩
  have c1:(k:Int)+1<d0.size:=by omega
  have m1:=hm.lt
  have m3:=hm.get
  have b1:k<d0.size:=by omega
  have b2:k+1<d0.size:=by omega
  have p1:(0:Int)<=(k:Int)+1:=by omega
  have r1:=qal (d:=d0) (k:=k) b1
  have r2:=qal (d:=d0) (k:=k+1) b2
  have wk:=qab (n:=(k:Int)) (by omega) (by omega)
  have wk2:=qab (n:=(k:Int)+1+1) (by omega) (by omega)
  have hct:=qjz (l:=d0.toList) (m:=k+1) (by omega) (by simp;omega)
  have e1:(d0.toList[k+1]'(by simp;omega))=d0[k+1]! := by rw[getElem!_pos d0 _ b2];simp
  have e2:(d0.toList[k+1-1]'(by simp;omega))=d0[k]! := by rw[getElem!_pos d0 _ b1];simp
  rw[e1,e2]at hct
  by_cases l1:d0[k+1]! = d0[k]!
  .rw[if_pos l1,hc]at hct
   have hG:G36 d0 d0.size (k+1) 0 (k+1) d0:=⟨rfl,by omega,fun p _ _=>rfl,hct.symm⟩
   have hla:=z1r hm hl d0.size (k+1) hhl hn d0 rfl _ 0 (k+1) d0 rfl (by omega) hG
   refine qay (fun f hf=>?_) h0
   have c2:k+1<=d0.size:=h2
   unfold zbe
   rw[l1]at r2
   generalize d0[k]! = y at *
   simp[-qaq,-qbc,qaa,exT,qae,L157_1,c1,c2,p1,m1,m3,r1,r2,b1,b2,wk,qaf,hf.ne]
   generalize hr:ev pg (.code (.going _ L157_0) _)=o
   obtain⟨r,rfl,d',k',hG',f2,hf2,rfl⟩:∃r,o=some r/\_:=by rw[<-hr];exact hla _ (by simp[zbd,hhl,hf.ne])
   clear hr
   have hsz:=hG'.sz
   have hle:=hG'.le
   have hkn:k'<d0.size:=by omega
   have htk:=hG'.tk
   rw[show k+1+(d0.size-(k+1)-1)+1=d0.size by omega,kA (l:=d0.toList) (by simp)]at htk
   have hlen:k'=(qav d0.toList).length:=by rw[<-htk];simp;omega
   have q1:k'<=d0.size:=by omega
   have q2:¬d0.size-k'=0:=by omega
   have q3:k'+(d0.size-k')<=d'.size:=by omega
   simp[-qaq,-qbc,-qeh,zbd,m1,m3,hsz,q1,q2,q3,hf2.ne]
   refine .yes (List.take k' (qgc d')++(List.replicate (d0.size-k') [num 0]++List.drop d0.size (qgc d'))) k' hlen ?_ ?_ (by simp[zzn,put,hf2.ne])
   .simp[hsz]
    omega
   .rw[List.take_append_of_le_length (by simp;omega),List.take_take,Nat.min_self,<-htk]
    unfold qgc
    rw[List.map_take]
  .rw[if_neg l1,hc]at hct
   have hc':qav (d0.toList.take (k+1+1))=d0.toList.take (k+1+1):=by
    rw[hct,jK (i:=k+1) (by simp;omega),e1]
   have ih':=ih (k+1+1) (by omega) (by omega) (by omega) hc'
   refine qfy (T':=zbe hl i g d0.size (k+1+1)) (h':=put h i g d0) (fun f hf=>?_) ih' h0
   have m4:=hm.cl d0
   have hb:(d0[k+1]! == d0[k]!)=false:=by simpa using l1
   unfold zbe
   generalize d0[k]! = y at *
   generalize d0[k+1]! = x at *
   simp[-qaq,-qbc,qaa,exT,qae,L157_1,c1,p1,m1,m3,m4,r1,r2,b1,b2,wk,wk2,l1,hb,hhl,hf.ne]
theorem ev157{h:H}{i g:Nat}{l:List Int}(hg:h[i]?=some ⟨g,.arr 1 (l.map qdw)⟩)(hc:qdb h)(hn:l.length<65536):∃rows,rows.length=l.length/\rows.take (qav l).length=(qav l).map qdw/\ev pg (.call (.fn 157 [] []) [.sl i g 1 0 l.length] h)=some { v:=.sl i g 1 0 (qav l).length,st:=⟨[],h.set i ⟨g,.arr 1 rows⟩⟩ }:=by
 obtain⟨hi,_⟩:=jG.1 hg
 have hset:h.set i ⟨g,.arr 1 (l.map qdw)⟩=h:=by
  obtain⟨hi',e⟩:=jG.1 hg
  rw[<-e,List.set_getElem_self]
 have hcm:h.map (qcf h.length)=h:=hc
 by_cases h2:l.length<2
 .have hcl:qav l=l:=by
   rcases l with _ | ⟨x,_ | ⟨y,l⟩⟩
   .rfl
   .rfl
   .simp at h2;omega
  refine⟨l.map qdw,by simp,by rw[hcl,kA (by simp)],?_⟩
  rw[hset,hcl]
  have h2':(l.length:Int)<2:=by omega
  rw[qac,pg157]
  simp[-qaq,-qbc,ir157,h2',qbv,qdq,qdl,hcm,hi]
 .have h2':¬(l.length:Int)<2:=by omega
  have hi1:i<(h++[(⟨0,.arr 0 []⟩:Ob)]).length:=by simp;omega
  have hc1:qdb (h++[(⟨0,.arr 0 []⟩:Ob)]):=qfq hc (by
   intro o ho
   rw[List.mem_singleton.1 ho]
   rfl)
  have hm:=qgu hi1 hc1 g
  have hps:put (h++[(⟨0,.arr 0 []⟩:Ob)]) i g l.toArray=h++[(⟨0,.arr 0 []⟩:Ob)]:=by
   rw[<-zoe hi,q3d (by simpa[qgc]using hg)]
  have hlp:=z1s hm h.length l.length (by simp) (by omega) l.toArray (by simp) _ 1 rfl (jD _) (by omega) (by
   rcases l with _ | ⟨x,l⟩
   .simp at h2
   .simp[qav])
  rw[hps]at hlp
  simp only[jF,List.length_cons,List.length_nil,Nat.zero_add]at hlp
  have key:∃r rows,ev pg (.call (.fn 157 [] []) [.sl i g 1 0 l.length] h)=some r/\rows.length=l.length/\rows.take (qav l).length=(qav l).map qdw/\r={ v:=.sl i g 1 0 (qav l).length,st:=⟨[],h.set i ⟨g,.arr 1 rows⟩⟩ }:=by
   rw[qac,pg157]
   simp[-qaq,-qbc,ir157,h2',qaf]
   generalize hr:ev pg (.code (.going _ L157_1) _)=o
   obtain⟨r,rfl,hO⟩:∃r,o=some r/\_:=by rw[<-hr];exact hlp _ (by simp[zbe])
   clear hr
   cases hO with
   | no hcc he =>
    obtain⟨f,hf,rfl⟩:=he
    have ck2:=qgh hc [(⟨0,.arr 0 []⟩:Ob)]
    simp only at hcc
    have hcl:qav l=l:=by simpa using hcc
    rw[hps]
    simp[-qaq,-qbc,zbe,ck2,qbv,qdq,qdl,hi]
    exact⟨l.map qdw,by simp,by rw[hcl,kA (by simp)],by rw[hcl],by rw[hcm,hset]⟩
   | yes rows k hk hl ht he =>
    obtain⟨f,hf,rfl⟩:=he
    simp only at hk ht
    have hcal:qdb (h.set i ⟨g,.arr 1 rows⟩):=by
     rw[qms]at hc ⊢
     intro o ho
     rw[jU]
     rcases jT ho with h1 | h1
     .exact hc o h1
     .rw[h1];rfl
    have ck2:=qgh hcal [(⟨0,.arr 0 []⟩:Ob)]
    rw[jU]at ck2
    have hsa:(h++[(⟨0,.arr 0 []⟩:Ob)]).set i ⟨g,.arr 1 rows⟩=h.set i ⟨g,.arr 1 rows⟩++[(⟨0,.arr 0 []⟩:Ob)]:=by rw[List.set_append_left _ _ hi]
    rw[hsa]
    simp[-qaq,-qbc,zzn,ck2,qbv,qdq,qdl,hi]
    exact⟨rows,hl,by rw[<-hk];exact ht,hk,by rw[hcm]⟩
  obtain⟨r,rows,e,h1,h2,rfl⟩:=key
  exact⟨rows,h1,h2,e⟩
end Go.Proofs.YtddeacahiilikaaGreat
