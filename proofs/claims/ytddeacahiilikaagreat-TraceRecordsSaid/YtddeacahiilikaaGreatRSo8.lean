/- Sorting in place: partial insertion. -/
import Derived.Test.YtddeacahiilikaaGreatRSo7
set_option linter.all false
namespace Go.Proofs.YtddeacahiilikaaGreat
open Go Go.Am Go.Proofs
set_option maxRecDepth 100000
def qjo(i g n:Nat)(a b k c:Nat):Tm:=[some (.sl i g 1 0 n),some (num a),some (num b),none,none,none,none,some (num k),some (num c)]++List.replicate 124 none
def qzx(i g n:Nat)(a b k c j:Nat):Tm:=[some (.sl i g 1 0 n),some (num a),some (num b),none,none,none,none,some (num k),some (num c),some (num j)]++List.replicate 123 none
def qzy(i g n:Nat)(a b k c j:Nat):Tm:=[some (.sl i g 1 0 n),some (num a),some (num b),none,none,none,none,some (num k),some (num c),none,some (num j)]++List.replicate 122 none
def zbb(v:Bool):Tm:=[none,none,none,none,none,none,some (.bool v)]++List.replicate 126 none
theorem qnt(d:Array Int)(b:Nat):∀(m k:Nat),b-k=m->k<=Go.Sort.scanSorted ltI d b k/\(Go.Sort.scanSorted ltI d b k<=b\/Go.Sort.scanSorted ltI d b k=k)
 | 0,k,hm=>by
  rw[Go.Sort.scanSorted,if_neg (by simp;omega)]
  exact⟨jD _,.inr rfl⟩
 | m+1,k,hm=>by
  rw[Go.Sort.scanSorted]
  split
  .have:=qnt d b m (k+1) (by omega)
   omega
  .exact⟨jD _,.inr rfl⟩
theorem zfl{h:H}{i g:Nat}(hm:Mem h i g)(n a b c:Nat)(hn:n<=1000000)(hb:b<=n)(d:Array Int)(hd:d.size=n):∀(m k:Nat),b-k=m->1<=k->k<=n->∀(st:St),At (qjo i g n a b k c) (put h i g d) st->∃r,ev pg (.code (.going h.length L248_0) st)=some r/\qaj (.exit 2) (qjo i g n a b (Go.Sort.scanSorted ltI d b k) c) (put h i g d) r
 | 0,k,hk,h1,hkn,st,h0=>by
  rw[Go.Sort.scanSorted,if_neg (by simp;omega)]
  refine qay (fun f hf=>?_) h0
  have c1:¬(k:Int)<b:=by omega
  simp[-qaq,-qbc,qaa,exT,qae,L248_0,qjo,c1,hf.ne]
 | m+1,k+1,hk,h1,hkn,st,h0=>by
  have c1:(k:Int)+1<b:=by omega
  have c2:k+1<b:=by omega
  have m1:=hm.lt
  have m3:=hm.get
  have b1:k<d.size:=by omega
  have b2:k+1<d.size:=by omega
  have p1:(0:Int)<=(k:Int)+1:=by omega
  have r1:=qal (d:=d) (k:=k) b1
  have r2:=qal (d:=d) (k:=k+1) b2
  have e:=ev249 d[k+1]! d[k]!
  have wk:=qab (n:=(k:Int)+1+1) (by omega) (by omega)
  have wk0:=qab (n:=(k:Int)) (by omega) (by omega)
  have m4:=hm.cl d
  rw[Go.Sort.scanSorted,Nat.add_sub_cancel]
  by_cases l1:ltI d[k+1]! d[k]! = true
  .rw[l1]at e
   rw[if_neg (by simp[l1])]
   refine qay (fun f hf=>?_) h0
   generalize d[k+1]! = x at *
   generalize d[k]! = y at *
   simp[-qaq,-qbc,qaa,exT,qae,L248_0,qjo,c1,p1,wk0,m1,m3,m4,r1,r2,b1,b2,e,hd.symm,hf.ne]
  .have l1':ltI d[k+1]! d[k]! = false:=by simpa using l1
   rw[l1']at e
   rw[if_pos (by simp[c2,l1'])]
   have ih:=@zfl h i g hm n a b c hn hb d hd m (k+1+1) (by omega) (by omega) (by omega)
   refine qfy (T':=qjo i g n a b (k+1+1) c) (h':=put h i g d) (fun f hf=>?_) ih h0
   generalize d[k+1]! = x at *
   generalize d[k]! = y at *
   simp[-qaq,-qbc,qaa,exT,qae,L248_0,qjo,c1,p1,wk,wk0,m1,m3,m4,r1,r2,b1,b2,e,hd.symm,hf.ne]
theorem qlu:∀(j:Nat) (d:Array Int),(Go.Sort.shiftDown ltI j d).size=d.size
 | 0,d=>rfl
 | j+1,d=>by
  rw[Go.Sort.shiftDown]
  split
  .rfl
  .rw[qlu j];exact qch _ _ _
theorem qkl(b:Nat):∀(m j:Nat) (d:Array Int),b-j=m->(Go.Sort.shiftUp ltI b j d).size=d.size
 | 0,j,d,hm=>by rw[Go.Sort.shiftUp,if_neg (by omega)]
 | m+1,j,d,hm=>by
  rw[Go.Sort.shiftUp,if_pos (by omega)]
  split
  .rfl
  .rw[qkl b m _ _ (by omega)];exact qch _ _ _
theorem zfm{h:H}{i g:Nat}(hm:Mem h i g)(n a b k c:Nat)(hn:n<=1000000):∀(j:Nat) (d:Array Int),d.size=n->j<n->∀(st:St),At (qzx i g n a b k c j) (put h i g d) st->∃r,ev pg (.code (.going h.length L248_1) st)=some r/\qaj (.exit 4) (qjo i g n a b k c) (put h i g (Go.Sort.shiftDown ltI j d)) r
 | 0,d,hd,hj,st,h0=>by
  rw[Go.Sort.shiftDown]
  refine qay (fun f hf=>?_) h0
  simp[-qaq,-qbc,qaa,exT,qae,L248_1,qjo,qzx,hf.ne]
 | j+1,d,hd,hj,st,h0=>by
  have c1:(1:Int)<=(j:Int)+1:=by omega
  have m1:=hm.lt
  have m2:=hm.set
  have m3:=hm.get
  have b1:j<d.size:=by omega
  have b2:j+1<d.size:=by omega
  have p1:(0:Int)<=(j:Int)+1:=by omega
  have r1:=qal (d:=d) (k:=j) b1
  have r2:=qal (d:=d) (k:=j+1) b2
  have e:=ev249 d[j+1]! d[j]!
  have wk:=qab (n:=(j:Int)) (by omega) (by omega)
  rw[Go.Sort.shiftDown]
  by_cases l1:ltI d[j+1]! d[j]! = true
  .rw[l1]at e
   rw[if_neg (by simp[l1]),qsu]
   have hsw:(d.setIfInBounds (j+1) d[j]!).setIfInBounds j d[j+1]! = swI d (j+1) j:=rfl
   obtain⟨z,r3⟩:=qbx (d.setIfInBounds (j+1) d[j]!) j
   have m4:=hm.cl (swI d (j+1) j)
   have ih:=@zfm h i g hm n a b k c hn j (swI d (j+1) j) (by rw[qch];exact hd) (by omega)
   refine qfy (T':=qzx i g n a b k c j) (h':=put h i g (swI d (j+1) j)) (fun f hf=>?_) ih h0
   generalize swI d (j+1) j=d' at *
   generalize d[j+1]! = x at *
   generalize d[j]! = y at *
   simp[-qaq,-qbc,qaa,exT,qae,L248_1,qzx,c1,p1,wk,m1,m2,m3,m4,r1,r2,r3,b1,b2,e,qbm,hsw,hd.symm,hf.ne]
  .have l1':ltI d[j+1]! d[j]! = false:=by simpa using l1
   rw[l1']at e
   rw[if_pos (by simp[l1'])]
   refine qay (fun f hf=>?_) h0
   generalize d[j+1]! = x at *
   generalize d[j]! = y at *
   simp[-qaq,-qbc,qaa,exT,qae,L248_1,qzx,qjo,c1,p1,wk,m1,m3,r1,r2,b1,b2,e,hd.symm,hf.ne]
theorem q9c{h:H}{i g:Nat}(hm:Mem h i g)(n a b k c:Nat)(hn:n<=1000000)(hb:b<=n):∀(m j:Nat) (d:Array Int),b-j=m->1<=j->j<=n->d.size=n->∀(st:St),At (qzy i g n a b k c j) (put h i g d) st->∃r,ev pg (.code (.going h.length L248_2) st)=some r/\qaj (.exit 6) (qjo i g n a b k c) (put h i g (Go.Sort.shiftUp ltI b j d)) r
 | 0,j,d,hj,h1,hjn,hd,st,h0=>by
  rw[Go.Sort.shiftUp,if_neg (by omega)]
  refine qay (fun f hf=>?_) h0
  have c1:¬(j:Int)<b:=by omega
  simp[-qaq,-qbc,qaa,exT,qae,L248_2,qjo,qzy,c1,hf.ne]
 | m+1,j+1,d,hj,h1,hjn,hd,st,h0=>by
  have c1:(j:Int)+1<b:=by omega
  have m1:=hm.lt
  have m2:=hm.set
  have m3:=hm.get
  have b1:j<d.size:=by omega
  have b2:j+1<d.size:=by omega
  have p1:(0:Int)<=(j:Int)+1:=by omega
  have r1:=qal (d:=d) (k:=j) b1
  have r2:=qal (d:=d) (k:=j+1) b2
  have e:=ev249 d[j+1]! d[j]!
  have wk:=qab (n:=(j:Int)) (by omega) (by omega)
  have wk2:=qab (n:=(j:Int)+1+1) (by omega) (by omega)
  rw[Go.Sort.shiftUp,if_pos (by omega),Nat.add_sub_cancel]
  by_cases l1:ltI d[j+1]! d[j]! = true
  .rw[l1]at e
   rw[if_neg (by simp[l1]),qsu]
   have hsw:(d.setIfInBounds (j+1) d[j]!).setIfInBounds j d[j+1]! = swI d (j+1) j:=rfl
   obtain⟨z,r3⟩:=qbx (d.setIfInBounds (j+1) d[j]!) j
   have m4:=hm.cl (swI d (j+1) j)
   have ih:=@q9c h i g hm n a b k c hn hb m (j+1+1) (swI d (j+1) j) (by omega) (by omega) (by omega) (by rw[qch];exact hd)
   refine qfy (T':=qzy i g n a b k c (j+1+1)) (h':=put h i g (swI d (j+1) j)) (fun f hf=>?_) ih h0
   generalize swI d (j+1) j=d' at *
   generalize d[j+1]! = x at *
   generalize d[j]! = y at *
   simp[-qaq,-qbc,qaa,exT,qae,L248_2,qzy,c1,p1,wk,wk2,m1,m2,m3,m4,r1,r2,r3,b1,b2,e,qbm,hsw,hd.symm,hf.ne]
  .have l1':ltI d[j+1]! d[j]! = false:=by simpa using l1
   rw[l1']at e
   rw[if_pos (by simp[l1'])]
   refine qay (fun f hf=>?_) h0
   generalize d[j+1]! = x at *
   generalize d[j]! = y at *
   simp[-qaq,-qbc,qaa,exT,qae,L248_2,qzy,qjo,c1,p1,wk,m1,m3,r1,r2,b1,b2,e,hd.symm,hf.ne]
def zpq(h:H)(i g:Nat)(D:Array Int×Bool)(r:R):Prop:=qaj .ret (zbb D.2) (put h i g D.1) r\/(D.2=false/\qaj (.exit 0) (List.replicate 133 none) (put h i g D.1) r)
set_option maxHeartbeats 2000000 in
theorem zdl{h:H}{i g:Nat}(hm:Mem h i g)(n a b:Nat)(hn:n<=1000000)(hb:b<=n)(hab:a<b):∀(s c k:Nat) (d:Array Int),s+c=5->a+1<=k->k<=b->d.size=n->∀(st:St),At (qjo i g n a b k c) (put h i g d) st->∃r,ev pg (.code (.going h.length L248_3) st)=some r/\zpq h i g (Go.Sort.partialIns ltI a b s k d) r
 | 0,c,k,d,hs,hk1,hk2,hd,st,h0=>by
  rw[Go.Sort.partialIns]
  refine qay (fun f hf=>?_) h0
  obtain rfl:c=5:=by omega
  simp[-qaq,-qbc,qaa,exT,qae,L248_3,qjo,hf.ne]
  exact .inr ⟨rfl,by simp[hf.ne]⟩
 | s+1,c,k,d,hs,hk1,hk2,hd,st,h0=>by
  have hla:=zfl hm n a b c hn hb d hd _ k rfl (by omega) (by omega)
  obtain⟨u1,u2⟩:=qnt d b _ k rfl
  rw[Go.Sort.partialIns]
  simp only[qsu]
  generalize Go.Sort.scanSorted ltI d b k=k2 at *
  have cc:(c:Int)<5:=by omega
  have wc:=qab (n:=(c:Int)+1) (by omega) (by omega)
  have m1:=hm.lt
  have m4:=hm.cl
  by_cases hkb:k2=b
  .subst hkb
   simp only[if_true]
   refine qay (fun f hf=>?_) h0
   simp[-qaq,-qbc,qaa,exT,qae,L248_3,qjo,cc,qaf,hf.ne]
   generalize hr:ev pg (.code (.going _ L248_0) _)=o
   obtain⟨r,rfl,f2,hf2,rfl⟩:∃r,o=some r/\_:=by rw[<-hr];exact hla _ (by simp[qjo,hf.ne])
   clear hr
   simp[-qaq,-qbc,qjo,hf2.ne]
   exact .inl (by simp[zbb,hf2.ne])
  .have hkb':((k2:Int)==b)=false:=by simp;omega
   simp only[hkb,if_false]
   have wba:=qab (n:=(b:Int)-a) (by omega) (by omega)
   by_cases h50:b-a<50
   .have h50':(b:Int)-a<50:=by omega
    simp only[h50,if_true]
    refine qay (fun f hf=>?_) h0
    simp[-qaq,-qbc,qaa,exT,qae,L248_3,qjo,cc,qaf,hf.ne]
    generalize hr:ev pg (.code (.going _ L248_0) _)=o
    obtain⟨r,rfl,f2,hf2,rfl⟩:∃r,o=some r/\_:=by rw[<-hr];exact hla _ (by simp[qjo,hf.ne])
    clear hr
    simp[-qaq,-qbc,qjo,hkb,hkb',wba,h50',hf2.ne]
    exact .inl (by simp[zbb,hf2.ne])
   .have h50':¬(b:Int)-a<50:=by omega
    simp only[h50,if_false]
    obtain⟨q,rfl⟩:∃q,k2=q+1:=⟨k2-1,by omega⟩
    simp only[Nat.add_sub_cancel]
    have hkb2:¬(q:Int)+1=b:=by omega
    have m2:=hm.set
    have m3:=hm.get
    have b1:q<d.size:=by omega
    have b2:q+1<d.size:=by omega
    have p1:(0:Int)<=(q:Int)+1:=by omega
    have r1:=qal (d:=d) (k:=q) b1
    have r2:=qal (d:=d) (k:=q+1) b2
    have wq:=qab (n:=(q:Int)) (by omega) (by omega)
    have wq2:=qab (n:=(q:Int)+1+1) (by omega) (by omega)
    have wqa:=qab (n:=(q:Int)+1-a) (by omega) (by omega)
    have wbq:=qab (n:=(b:Int)-((q:Int)+1)) (by omega) (by omega)
    have hsw:(d.setIfInBounds (q+1) d[q]!).setIfInBounds q d[q+1]! = swI d (q+1) q:=rfl
    obtain⟨z,r3⟩:=qbx (d.setIfInBounds (q+1) d[q]!) q
    have hd1:(swI d (q+1) q).size=n:=by rw[qch];exact hd
    generalize swI d (q+1) q=d1 at *
    generalize d[q+1]! = x at *
    generalize d[q]! = y at *
    have hlb:=zfm hm n a b (q+1) c hn q d1 hd1 (by omega)
    have hsz2:=qlu q d1
    by_cases g1:q+1-a≥2
    .have g1':(2:Int)<=(q:Int)+1-a:=by omega
     simp only[g1,if_true]
     generalize Go.Sort.shiftDown ltI q d1=d2 at *
     have hlc:=q9c hm n a b (q+1) c hn hb _ (q+1+1) d2 rfl (by omega) (by omega) (by omega)
     have hsz3:=qkl b _ (q+1+1) d2 rfl
     by_cases g2:b-(q+1)≥2
     .have g2':(2:Int)<=(b:Int)-((q:Int)+1):=by omega
      simp only[g2,if_true]
      generalize Go.Sort.shiftUp ltI b (q+1+1) d2=d3 at *
      have ih:=@zdl h i g hm n a b hn hb hab s (c+1) (q+1) d3 (by omega) (by omega) (by omega) (by omega)
      refine qfy (T':=qjo i g n a b (q+1) (c+1)) (h':=put h i g d3) (fun f hf=>?_) ih h0
      simp[-qaq,-qbc,qaa,exT,qae,L248_3,qjo,cc,qaf,hf.ne]
      generalize hr:ev pg (.code (.going _ L248_0) _)=o
      obtain⟨r,rfl,f2,hf2,rfl⟩:∃r,o=some r/\_:=by rw[<-hr];exact hla _ (by simp[qjo,hf.ne])
      clear hr
      simp[-qaq,-qbc,qaa,exT,qae,qjo,hkb2,wba,h50',wq,p1,m1,m2,m3,m4,r1,r2,r3,b1,b2,qbm,hsw,hd.symm,wqa,g1',hf2.ne]
      generalize hr:ev pg (.code (.going _ L248_1) _)=o
      obtain⟨r,rfl,f3,hf3,rfl⟩:∃r,o=some r/\_:=by rw[<-hr];exact hlb _ (by simp[qzx,hd,hf2.ne])
      clear hr
      simp[-qaq,-qbc,qjo,wbq,g2',wq2,m1,hf3.ne]
      generalize hr:ev pg (.code (.going _ L248_2) _)=o
      obtain⟨r,rfl,f4,hf4,rfl⟩:∃r,o=some r/\_:=by rw[<-hr];exact hlc _ (by simp[qzy,hf3.ne])
      clear hr
      simp[-qaq,-qbc,qjo,wc,m1,m4,hd,hf4.ne]
     .have g2':¬(2:Int)<=(b:Int)-((q:Int)+1):=by omega
      simp only[g2,if_false]
      have ih:=@zdl h i g hm n a b hn hb hab s (c+1) (q+1) d2 (by omega) (by omega) (by omega) (by omega)
      refine qfy (T':=qjo i g n a b (q+1) (c+1)) (h':=put h i g d2) (fun f hf=>?_) ih h0
      simp[-qaq,-qbc,qaa,exT,qae,L248_3,qjo,cc,qaf,hf.ne]
      generalize hr:ev pg (.code (.going _ L248_0) _)=o
      obtain⟨r,rfl,f2,hf2,rfl⟩:∃r,o=some r/\_:=by rw[<-hr];exact hla _ (by simp[qjo,hf.ne])
      clear hr
      simp[-qaq,-qbc,qaa,exT,qae,qjo,hkb2,wba,h50',wq,p1,m1,m2,m3,m4,r1,r2,r3,b1,b2,qbm,hsw,hd.symm,wqa,g1',hf2.ne]
      generalize hr:ev pg (.code (.going _ L248_1) _)=o
      obtain⟨r,rfl,f3,hf3,rfl⟩:∃r,o=some r/\_:=by rw[<-hr];exact hlb _ (by simp[qzx,hd,hf2.ne])
      clear hr
      simp[-qaq,-qbc,qjo,wbq,g2',wc,m1,m4,hd,hf3.ne]
    .have g1':¬(2:Int)<=(q:Int)+1-a:=by omega
     simp only[g1,if_false]
     have hlc:=q9c hm n a b (q+1) c hn hb _ (q+1+1) d1 rfl (by omega) (by omega) (by omega)
     have hsz3:=qkl b _ (q+1+1) d1 rfl
     by_cases g2:b-(q+1)≥2
     .have g2':(2:Int)<=(b:Int)-((q:Int)+1):=by omega
      simp only[g2,if_true]
      generalize Go.Sort.shiftUp ltI b (q+1+1) d1=d3 at *
      have ih:=@zdl h i g hm n a b hn hb hab s (c+1) (q+1) d3 (by omega) (by omega) (by omega) (by omega)
      refine qfy (T':=qjo i g n a b (q+1) (c+1)) (h':=put h i g d3) (fun f hf=>?_) ih h0
      simp[-qaq,-qbc,qaa,exT,qae,L248_3,qjo,cc,qaf,hf.ne]
      generalize hr:ev pg (.code (.going _ L248_0) _)=o
      obtain⟨r,rfl,f2,hf2,rfl⟩:∃r,o=some r/\_:=by rw[<-hr];exact hla _ (by simp[qjo,hf.ne])
      clear hr
      simp[-qaq,-qbc,qaa,exT,qae,qjo,hkb2,wba,h50',wq,p1,m1,m2,m3,m4,r1,r2,r3,b1,b2,qbm,hsw,hd.symm,wqa,g1',wbq,g2',wq2,hf2.ne]
      generalize hr:ev pg (.code (.going _ L248_2) _)=o
      obtain⟨r,rfl,f4,hf4,rfl⟩:∃r,o=some r/\_:=by rw[<-hr];exact hlc _ (by simp[qzy,hd,hf2.ne])
      clear hr
      simp[-qaq,-qbc,qjo,wc,m1,m4,hd,hf4.ne]
     .have g2':¬(2:Int)<=(b:Int)-((q:Int)+1):=by omega
      omega
theorem ev248{h:H}{i:Nat}(hi:i<h.length)(hc:qdb h)(g:Nat)(d:Array Int)(a b:Nat)(hb:b<=d.size)(hab:a<b)(hn:d.size<=1000000):ev pg (.call (.fn 248 [] []) [.sl i g 1 0 d.size,num a,num b] (put h i g d))=some { v:=.bool (Go.Sort.partialInsertionSort ltI d a b).2,st:=⟨[],put h i g (Go.Sort.partialInsertionSort ltI d a b).1⟩ }:=by
 have hm:=qgu hi hc g
 have m4:=hm.ck
 have wa:=qab (n:=(a:Int)+1) (by omega) (by omega)
 have hlp:=zdl hm d.size a b hn hb hab 5 0 (a+1) d rfl (jD _) hab rfl
 unfold Go.Sort.partialInsertionSort
 generalize Go.Sort.partialIns ltI a b 5 (a+1) d=D at *
 rw[qac,pg248]
 simp[-qaq,-qbc,ir248,wa,qaf]
 generalize hr:ev pg (.code (.going _ L248_3) _)=o
 obtain⟨r,rfl,hor⟩:∃r,o=some r/\_:=by rw[<-hr];exact hlp _ (by simp[qjo])
 clear hr
 rcases hor with⟨f,hf,rfl⟩ | ⟨hD,f,hf,rfl⟩
 .simp[-qaq,-qbc,zbb,m4,hm.lt]
 .simp[-qaq,-qbc,m4,hm.lt,hD]
end Go.Proofs.YtddeacahiilikaaGreat
