/- slices.Compact of an own slice. -/
import Derived.Test.YtddeacahiilikaaGreatMSo14
import Derived.Test.YtddeacahiilikaaGreatMGb2
set_option linter.all false
namespace Go.Proofs.YtddeacahiilikaaGreat
open Go Go.Am Go.Proofs
set_option maxRecDepth 100000
theorem qrg:∀(xs:List Int) (y z:Int),qau (xs++[y,z])=if y=z then qau (xs++[y])else qau (xs++[y])++[z]
 | [],y,z=>by simp only[List.nil_append,qau];split<;>simp[*]
 | [x],y,z=>by
  simp only[List.cons_append,List.nil_append,qau]
  split<;>split<;>simp[*]
 | x :: x2 :: xs,y,z=>by
  have ih:=qrg (x2 :: xs) y z
  simp only[List.cons_append]at ih ⊢
  rw[qau,qau]
  split
  .exact ih
  .rw[ih]
   split<;>simp
theorem qka{l:List Int}{m:Nat}(h1:1<=m)(h2:m<l.length):qau (l.take (m+1))=if l[m]=l[m-1]then qau (l.take m)else qau (l.take m)++[l[m]]:=by
 obtain⟨p,rfl⟩:∃p,m=p+1:=⟨m-1,by omega⟩
 have e1:l.take (p+1)=l.take p++[l[p]]:=jK (by omega)
 have e2:l.take (p+1+1)=l.take p++[l[p],l[p+1]]:=by
  rw[jK h2,e1,List.append_assoc]
  rfl
 rw[e2,qrg,<-e1]
 simp only[Nat.add_sub_cancel]
 by_cases c:l[p]=l[p+1]
 .rw[if_pos c,if_pos c.symm]
 .rw[if_neg c,if_neg (fun e=>c e.symm)]
theorem zse{h:H}{i:Nat}(hi:i<h.length)(o:Ob)(g:Nat)(d:Array Int):put h i g d++[o]=put (h++[o]) i g d:=by
 unfold put
 rw[List.set_append_left _ _ hi]
def zeq(hl i g n k0 k t:Nat):Tm:=[some (.sl i g 1 0 n),none,some (.sl hl 0 0 0 0),some (num k),some (.sl i g 1 k0 (n-k0)),some (num t)]++List.replicate 55 none
structure G36(d0:Array Int)(n k0 t k:Nat)(d:Array Int):Prop where
 sz:d.size=n
 le:k<=k0+t
 eq:∀p,k0+t<=p->p<n->d[p]! = d0[p]!
 tk:d.toList.take k=qau (d0.toList.take (k0+t+1))
theorem zgn{d0 d:Array Int}{n k0 t k:Nat}(h0:d0.size=n)(hG:G36 d0 n k0 t k d)(ht:k0+t+1<n)(h1:d[k0+t+1]! ≠ d[k0+t]!):G36 d0 n k0 (t+1) (k+1) (d.setIfInBounds k d[k0+t+1]!):=by
 have h2:=hG.eq (k0+t+1) (by omega) ht
 have h3:=hG.eq (k0+t) (by omega) (by omega)
 have hk:k<d.size:=by have:=hG.le;have:=hG.sz;omega
 have hc:=qka (l:=d0.toList) (m:=k0+t+1) (by omega) (by simp;omega)
 refine⟨by simp[hG.sz],by have:=hG.le;omega,fun p hp hpn=>?_,?_⟩
 .rw[<-hG.eq p (by omega) hpn,getElem!_pos _ p (by simp;have:=hG.sz;omega),getElem!_pos d p (by have:=hG.sz;omega)]
  rw[Array.getElem_setIfInBounds_ne]
  have:=hG.le
  omega
 .rw[show k0+(t+1)+1=k0+t+1+1 by omega,hc]
  have e1:(d0.toList[k0+t+1]'(by simp;omega))=d[k0+t+1]! := by
   rw[h2,getElem!_pos d0 _ (by omega)];simp
  have e2:(d0.toList[k0+t+1-1]'(by simp;omega))=d[k0+t]! := by
   rw[h3,getElem!_pos d0 _ (by omega)];simp
  rw[e1,e2,if_neg h1,<-hG.tk,Array.toList_setIfInBounds,jK (by simpa using hk)]
  rw[List.take_set_of_le (jD _)]
  simp
theorem zgm{d0 d:Array Int}{n k0 t k:Nat}(h0:d0.size=n)(hG:G36 d0 n k0 t k d)(ht:k0+t+1<n)(h1:d[k0+t+1]! = d[k0+t]!):G36 d0 n k0 (t+1) k d:=by
 have h2:=hG.eq (k0+t+1) (by omega) ht
 have h3:=hG.eq (k0+t) (by omega) (by omega)
 have hc:=qka (l:=d0.toList) (m:=k0+t+1) (by omega) (by simp;omega)
 refine⟨hG.sz,by have:=hG.le;omega,fun p hp hpn=>hG.eq p (by omega) hpn,?_⟩
 rw[show k0+(t+1)+1=k0+t+1+1 by omega,hc]
 have e1:(d0.toList[k0+t+1]'(by simp;omega))=d[k0+t+1]! := by
  rw[h2,getElem!_pos d0 _ (by omega)];simp
 have e2:(d0.toList[k0+t+1-1]'(by simp;omega))=d[k0+t]! := by
  rw[h3,getElem!_pos d0 _ (by omega)];simp
 rw[e1,e2,if_pos h1]
 exact hG.tk
theorem z7e{h:H}{i g:Nat}(hm:Mem h i g)(hl n k0:Nat)(hhl:hl<h.length)(hn:n<=1000000)(d0:Array Int)(h0s:d0.size=n):∀(m t k:Nat) (d:Array Int),n-(k0+t+1)=m->k0+t+1<=n->G36 d0 n k0 t k d->∀(st:St),At (zeq hl i g n k0 k (t+1)) (put h i g d) st->∃r,ev pg (.code (.going h.length L157_0) st)=some r/\∃d' k',G36 d0 n k0 (n-k0-1) k' d'/\qai (.exit 2) (zeq hl i g n k0 k' (n-k0)) (put h i g d') r:=by
 intro m
 induction m with
 | zero =>
  intro t k d hmm ht hG st h0
  refine qaz (fun f hf=>?_) h0
  obtain rfl:t=n-k0-1:=by omega
  have c1:¬((n-k0-1:Nat):Int)+1<((n-k0:Nat):Int):=by omega
  have c2:((n-k0-1:Nat):Int)+1=((n-k0:Nat):Int):=by omega
  unfold zeq
  generalize n-k0-1=t at *
  generalize n-k0=L at *
  simp[-qan,-qay,qaa,exT,qad,L157_0,c1,hf.ne]
  exact⟨d,k,hG,by simp[c2,hf.ne]⟩
 | succ m ih =>
  intro t k d hmm ht hG st h0
  have hsz:=hG.sz
  have hle:=hG.le
  have c1:(t:Int)+1<((n-k0:Nat):Int):=by omega
  have c3:t+1<n-k0:=by omega
  have c4:t<n-k0:=by omega
  have m1:=hm.lt
  have m2:=hm.set
  have m3:=hm.get
  have b1:k0+t<d.size:=by omega
  have b2:k0+(t+1)<d.size:=by omega
  have b3:k<d.size:=by omega
  have p1:(0:Int)<=(t:Int)+1:=by omega
  have r1:=qak (d:=d) (k:=k0+t) b1
  have r2:=qak (d:=d) (k:=k0+(t+1)) b2
  obtain⟨z,r3⟩:=qbx d k
  have wt:=qab (n:=(t:Int)) (by omega) (by omega)
  have wt2:=qab (n:=(t:Int)+1+1) (by omega) (by omega)
  have wk:=qab (n:=(k:Int)+1) (by omega) (by omega)
  by_cases l1:d[k0+(t+1)]! = d[k0+t]!
  .have hG':=zgm h0s hG (by omega) l1
   have ih':=ih (t+1) k d (by omega) (by omega) hG'
   refine qgc (T':=zeq hl i g n k0 k (t+1+1)) (h':=put h i g d) (fun f hf=>?_) ih' h0
   have m4:=hm.cl d
   rw[l1]at r2
   unfold zeq
   generalize d[k0+t]! = y at *
   generalize n-k0=L at *
   simp[-qan,-qay,qaa,exT,qad,L157_0,hhl,c1,c3,c4,p1,m1,m3,m4,r1,r2,b1,b2,wt,wt2,hf.ne]
  .have hG':=zgn h0s hG (by omega) l1
   have ih':=ih (t+1) (k+1) _ (by omega) (by omega) hG'
   refine qgc (T':=zeq hl i g n k0 (k+1) (t+1+1)) (h':=put h i g (d.setIfInBounds k d[k0+(t+1)]!)) (fun f hf=>?_) ih' h0
   have m4:=hm.cl (d.setIfInBounds k d[k0+(t+1)]!)
   have hb:(d[k0+(t+1)]! == d[k0+t]!)=false:=by simpa using l1
   unfold zeq
   have hr3:∀hh,(qgh d)[k]'hh=[num z]:=r3
   generalize d[k0+t]! = y at *
   generalize d[k0+(t+1)]! = x at *
   generalize n-k0=L at *
   have b3':k<n:=by omega
   simp[-qan,-qay,qaa,exT,qad,L157_0,hhl,c1,c3,c4,p1,m1,m2,m3,m4,r1,r2,hr3,b1,b2,b3,b3',wt,wt2,wk,l1,hb,qbp,hf.ne]
def zer(hl i g n k:Nat):Tm:=[some (.sl i g 1 0 n),none,some (.sl hl 0 0 0 0),some (num k)]++List.replicate 57 none
def z4m(i g k:Nat):Tm:=[none,none,some (.sl i g 1 0 k)]++List.replicate 58 none
inductive Out36 (h:H) (hl i g n:Nat) (d0:Array Int) (r:R):Prop where
 | no (hc:qau d0.toList=d0.toList) (he:qai (.exit 0) (zer hl i g n n) (put h i g d0) r)
 | yes (rows:List (List V)) (k:Nat) (hk:k=(qau d0.toList).length) (hl:rows.length=n) (ht:rows.take k=(qau d0.toList).map qej) (he:qai .ret (z4m i g k) (h.set i ⟨g,.arr 1 rows⟩) r)
theorem z7f{h:H}{i g:Nat}(hm:Mem h i g)(hl n:Nat)(hhl:hl<h.length)(hn:n<=1000000)(d0:Array Int)(h0s:d0.size=n):∀(m k:Nat),n-k=m->1<=k->k<=n->qau (d0.toList.take k)=d0.toList.take k->∀(st:St),At (zer hl i g n k) (put h i g d0) st->∃r,ev pg (.code (.going h.length L157_1) st)=some r/\Out36 h hl i g n d0 r:=by
 subst h0s
 intro m
 induction m with
 | zero =>
  intro k hk h1 h2 hc st h0
  obtain rfl:k=d0.size:=by omega
  refine qaz (fun f hf=>?_) h0
  simp[-qan,-qay,L157_1,zer,hf.ne]
  refine .no ?_ (by simp[zer,hf.ne])
  rw[kA (by simp)]at hc
  exact hc
 | succ m ih =>
  intro k hk h1 h2 hc st h0
  obtain⟨k,rfl⟩:∃q,k=q+1:=⟨k-1,by omega⟩
  have c1:(k:Int)+1<d0.size:=by omega
  have m1:=hm.lt
  have m3:=hm.get
  have b1:k<d0.size:=by omega
  have b2:k+1<d0.size:=by omega
  have p1:(0:Int)<=(k:Int)+1:=by omega
  have r1:=qak (d:=d0) (k:=k) b1
  have r2:=qak (d:=d0) (k:=k+1) b2
  have wk:=qab (n:=(k:Int)) (by omega) (by omega)
  have wk2:=qab (n:=(k:Int)+1+1) (by omega) (by omega)
  have hct:=qka (l:=d0.toList) (m:=k+1) (by omega) (by simp;omega)
  have e1:(d0.toList[k+1]'(by simp;omega))=d0[k+1]! := by rw[getElem!_pos d0 _ b2];simp
  have e2:(d0.toList[k+1-1]'(by simp;omega))=d0[k]! := by rw[getElem!_pos d0 _ b1];simp
  rw[e1,e2]at hct
  by_cases l1:d0[k+1]! = d0[k]!
  .rw[if_pos l1,hc]at hct
   have hG:G36 d0 d0.size (k+1) 0 (k+1) d0:=⟨rfl,by omega,fun p _ _=>rfl,hct.symm⟩
   have hla:=z7e hm hl d0.size (k+1) hhl hn d0 rfl _ 0 (k+1) d0 rfl (by omega) hG
   refine qaz (fun f hf=>?_) h0
   have c2:k+1<=d0.size:=h2
   unfold zer
   rw[l1]at r2
   generalize d0[k]! = y at *
   simp[-qan,-qay,qaa,exT,qad,L157_1,c1,c2,p1,m1,m3,r1,r2,b1,b2,wk,qaf,hf.ne]
   generalize hr:ev pg (.code (.going _ L157_0) _)=o
   obtain⟨r,rfl,d',k',hG',f2,hf2,rfl⟩:∃r,o=some r/\_:=by rw[<-hr];exact hla _ (by simp[zeq,hhl,hf.ne])
   clear hr
   have hsz:=hG'.sz
   have hle:=hG'.le
   have hkn:k'<d0.size:=by omega
   have htk:=hG'.tk
   rw[show k+1+(d0.size-(k+1)-1)+1=d0.size by omega,kA (l:=d0.toList) (by simp)]at htk
   have hlen:k'=(qau d0.toList).length:=by rw[<-htk];simp;omega
   have q1:k'<=d0.size:=by omega
   have q2:¬d0.size-k'=0:=by omega
   have q3:k'+(d0.size-k')<=d'.size:=by omega
   simp[-qan,-qay,-qef,zeq,m1,m3,hsz,q1,q2,q3,hf2.ne]
   refine .yes (List.take k' (qgh d')++(List.replicate (d0.size-k') [num 0]++List.drop d0.size (qgh d'))) k' hlen ?_ ?_ (by simp[z4m,put,hf2.ne])
   .simp[hsz]
    omega
   .rw[List.take_append_of_le_length (by simp;omega),List.take_take,Nat.min_self,<-htk]
    unfold qgh
    rw[List.map_take]
  .rw[if_neg l1,hc]at hct
   have hc':qau (d0.toList.take (k+1+1))=d0.toList.take (k+1+1):=by
    rw[hct,jK (i:=k+1) (by simp;omega),e1]
   have ih':=ih (k+1+1) (by omega) (by omega) (by omega) hc'
   refine qgc (T':=zer hl i g d0.size (k+1+1)) (h':=put h i g d0) (fun f hf=>?_) ih' h0
   have m4:=hm.cl d0
   have hb:(d0[k+1]! == d0[k]!)=false:=by simpa using l1
   unfold zer
   generalize d0[k]! = y at *
   generalize d0[k+1]! = x at *
   simp[-qan,-qay,qaa,exT,qad,L157_1,c1,p1,m1,m3,m4,r1,r2,b1,b2,wk,wk2,l1,hb,hhl,hf.ne]
theorem ev157{h:H}{i g:Nat}{l:List Int}(hg:h[i]?=some ⟨g,.arr 1 (l.map qej)⟩)(hc:qcj h)(hn:l.length<65536):∃rows,rows.length=l.length/\rows.take (qau l).length=(qau l).map qej/\ev pg (.call (.fn 157 [] []) [.sl i g 1 0 l.length] h)=some { v:=.sl i g 1 0 (qau l).length,st:=⟨[],h.set i ⟨g,.arr 1 rows⟩⟩ }:=by
 obtain⟨hi,_⟩:=jG.1 hg
 have hset:h.set i ⟨g,.arr 1 (l.map qej)⟩=h:=by
  obtain⟨hi',e⟩:=jG.1 hg
  rw[<-e,List.set_getElem_self]
 have hcm:h.map (qbm h.length)=h:=hc
 by_cases h2:l.length<2
 .have hcl:qau l=l:=by
   rcases l with _ | ⟨x,_ | ⟨y,l⟩⟩
   .rfl
   .rfl
   .simp at h2;omega
  refine⟨l.map qej,by simp,by rw[hcl,kA (by simp)],?_⟩
  rw[hset,hcl]
  have h2':(l.length:Int)<2:=by omega
  rw[qac,pg157]
  simp[-qan,-qay,ir157,h2',qcf,qdw,qdt,hcm,hi]
 .have h2':¬(l.length:Int)<2:=by omega
  have hi1:i<(h++[(⟨0,.arr 0 []⟩:Ob)]).length:=by simp;omega
  have hc1:qcj (h++[(⟨0,.arr 0 []⟩:Ob)]):=qdm hc (by
   intro o ho
   rw[List.mem_singleton.1 ho]
   rfl)
  have hm:=qgz hi1 hc1 g
  have hps:put (h++[(⟨0,.arr 0 []⟩:Ob)]) i g l.toArray=h++[(⟨0,.arr 0 []⟩:Ob)]:=by
   rw[<-zse hi,q5h (by simpa[qgh]using hg)]
  have hlp:=z7f hm h.length l.length (by simp) (by omega) l.toArray (by simp) _ 1 rfl (jD _) (by omega) (by
   rcases l with _ | ⟨x,l⟩
   .simp at h2
   .simp[qau])
  rw[hps]at hlp
  simp only[jF,List.length_cons,List.length_nil,Nat.zero_add]at hlp
  have key:∃r rows,ev pg (.call (.fn 157 [] []) [.sl i g 1 0 l.length] h)=some r/\rows.length=l.length/\rows.take (qau l).length=(qau l).map qej/\r={ v:=.sl i g 1 0 (qau l).length,st:=⟨[],h.set i ⟨g,.arr 1 rows⟩⟩ }:=by
   rw[qac,pg157]
   simp[-qan,-qay,ir157,h2',qaf]
   generalize hr:ev pg (.code (.going _ L157_1) _)=o
   obtain⟨r,rfl,hO⟩:∃r,o=some r/\_:=by rw[<-hr];exact hlp _ (by simp[zer])
   clear hr
   cases hO with
   | no hcc he =>
    obtain⟨f,hf,rfl⟩:=he
    have ck2:=qdg hc [(⟨0,.arr 0 []⟩:Ob)]
    simp only at hcc
    have hcl:qau l=l:=by simpa using hcc
    rw[hps]
    simp[-qan,-qay,zer,ck2,qcf,qdw,qdt,hi]
    exact⟨l.map qej,by simp,by rw[hcl,kA (by simp)],by rw[hcl],by rw[hcm,hset]⟩
   | yes rows k hk hl ht he =>
    obtain⟨f,hf,rfl⟩:=he
    simp only at hk ht
    have hcal:qcj (h.set i ⟨g,.arr 1 rows⟩):=by
     rw[qhs]at hc ⊢
     intro o ho
     rw[jU]
     rcases jT ho with h1 | h1
     .exact hc o h1
     .rw[h1];rfl
    have ck2:=qdg hcal [(⟨0,.arr 0 []⟩:Ob)]
    rw[jU]at ck2
    have hsa:(h++[(⟨0,.arr 0 []⟩:Ob)]).set i ⟨g,.arr 1 rows⟩=h.set i ⟨g,.arr 1 rows⟩++[(⟨0,.arr 0 []⟩:Ob)]:=by rw[List.set_append_left _ _ hi]
    rw[hsa]
    simp[-qan,-qay,z4m,ck2,qcf,qdw,qdt,hi]
    exact⟨rows,hl,by rw[<-hk];exact ht,hk,by rw[hcm]⟩
  obtain⟨r,rows,e,h1,h2,rfl⟩:=key
  exact⟨rows,h1,h2,e⟩
end Go.Proofs.YtddeacahiilikaaGreat
