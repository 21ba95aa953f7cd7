/- Sorting in place: the heap, reversing. Sorting in place: the heap and reversing. -/
import Derived.Test.YtddeacahiilikaaGreatRSo2
set_option linter.all false
namespace Go.Proofs.YtddeacahiilikaaGreat
open Go Go.Am Go.Proofs
set_option maxRecDepth 100000
def q4c(i g n:Nat)(hi first root:Nat):Tm:=[some (.sl i g 1 0 n),none,some (num hi),some (num first),none,none,none,none,some (num root),none]++List.replicate 66 none
def q5z(h:H)(r:R):Prop:=∃f,Junk f/\((r={ x:=.exit 0,st:=⟨fill f 0 (List.replicate 76 none),h⟩ })\/r={ x:=.ret,st:=⟨fill f 0 (List.replicate 76 none),h⟩ })
theorem qry{h:H}{st:St}(hA:At (List.replicate 76 none) h st):q5z h { x:=.exit 0,st:=st }:=by
 obtain⟨f,hf,rfl⟩:=hA.eq
 exact⟨f,hf,.inl rfl⟩
theorem qos{h:H}{st:St}(hA:At (List.replicate 76 none) h st):q5z h { x:=.ret,st:=st }:=by
 obtain⟨f,hf,rfl⟩:=hA.eq
 exact⟨f,hf,.inr rfl⟩
theorem qkm(lt:Int->Int->Bool)(hi F:Nat):∀(m root:Nat) (d:Array Int),hi-root<=m->(Go.Sort.siftDown lt hi F root d).size=d.size
 | 0,root,d,hm=>by
  rw[Go.Sort.siftDown,dif_pos (by omega)]
 | m+1,root,d,hm=>by
  rw[Go.Sort.siftDown]
  split
  .rfl
  .split
   .split
    .rfl
    .split
     .rw[qkm lt hi F m _ _ (by omega)];exact qch _ _ _
     .rfl
   .split
    .rfl
    .rw[qkm lt hi F m _ _ (by omega)];exact qch _ _ _
set_option maxHeartbeats 1000000 in
theorem z1k{h:H}{i g:Nat}(hm:Mem h i g)(n hi F:Nat)(hn:n<=1000000)(hF:F+hi<=n):∀(m root:Nat) (d:Array Int),hi-root<=m->root<=n->d.size=n->∀(st:St),At (q4c i g n hi F root) (put h i g d) st->∃r,ev pg (.code (.going h.length L280_0) st)=some r/\q5z (put h i g (Go.Sort.siftDown ltI hi F root d)) r:=by
 intro m
 induction m with
 | zero =>
  intro root d hmm hr hd st h0
  rw[Go.Sort.siftDown,dif_pos (by omega)]
  refine qay (fun f hf=>?_) h0
  have w1:=qab (n:=2*(root:Int)) (by omega) (by omega)
  have w2:=qab (n:=2*(root:Int)+1) (by omega) (by omega)
  have c1:(hi:Int)<=2*(root:Int)+1:=by omega
  simp[-qaq,-qbc,qaa,exT,qae,L280_0,q4c,w1,w2,c1,hf.ne]
  exact qry (by simp[hf.ne])
 | succ m ih =>
  intro root d hmm hr hd st h0
  have w1:=qab (n:=2*(root:Int)) (by omega) (by omega)
  have w2:=qab (n:=2*(root:Int)+1) (by omega) (by omega)
  by_cases c1:2*root+1≥hi
  .rw[Go.Sort.siftDown,dif_pos c1]
   refine qay (fun f hf=>?_) h0
   have c1':(hi:Int)<=2*(root:Int)+1:=by omega
   simp[-qaq,-qbc,qaa,exT,qae,L280_0,q4c,w1,w2,c1',hf.ne]
   exact qry (by simp[hf.ne])
  .have c1':¬(hi:Int)<=2*(root:Int)+1:=by omega
   have m1:=hm.lt
   have m2:=hm.set
   have m3:=hm.get
   have b0:F+root<d.size:=by omega
   have b1:F+(2*root+1)<d.size:=by omega
   have r0:=qal (d:=d) (k:=F+root) b0
   have r1:=qal (d:=d) (k:=F+(2*root+1)) b1
   have w3:=qab (n:=2*(root:Int)+1+1) (by omega) (by omega)
   have w4:=qab (n:=(F:Int)+root) (by omega) (by omega)
   have w5:=qab (n:=(F:Int)+(2*(root:Int)+1)) (by omega) (by omega)
   have w6:=qab (n:=(F:Int)+(2*(root:Int)+1)+1) (by omega) (by omega)
   have w7:=qab (n:=(F:Int)+(2*(root:Int)+1+1)) (by omega) (by omega)
   have p0:(0:Int)<=(F:Int)+root:=by omega
   have p1:(0:Int)<=(F:Int)+(2*(root:Int)+1):=by omega
   have p2:(0:Int)<=(F:Int)+(2*(root:Int)+1)+1:=by omega
   have p3:(0:Int)<=(F:Int)+(2*(root:Int)+1+1):=by omega
   have t0:((F:Int)+root).toNat=F+root:=by omega
   have t1:((F:Int)+(2*(root:Int)+1)).toNat=F+(2*root+1):=by omega
   have t2:((F:Int)+(2*(root:Int)+1)+1).toNat=F+(2*root+2):=by omega
   have t3:((F:Int)+(2*(root:Int)+1+1)).toNat=F+(2*root+2):=by omega
   rw[Go.Sort.siftDown,dif_neg c1]
   have key:∀(c:Nat) (b:Bool),(c=2*root+1\/c=2*root+2)->True:=fun _ _ _=>trivial
   by_cases c2:2*root+2<hi
   .have c2':2*(root:Int)+1+1<hi:=by omega
    have b2:F+(2*root+2)<d.size:=by omega
    have r2:=qal (d:=d) (k:=F+(2*root+2)) b2
    have e1:=ev249 d[F+(2*root+1)]! d[F+(2*root+2)]!
    by_cases l1:ltI d[F+(2*root+1)]! d[F+(2*root+2)]! = true
    .rw[l1]at e1
     rw[if_pos (by rw[show F+(2*root+1)+1=F+(2*root+2)by omega];simp[l1];omega)]
     have e2:=ev249 d[F+root]! d[F+(2*root+2)]!
     by_cases l2:ltI d[F+root]! d[F+(2*root+2)]! = true
     .rw[l2]at e2
      rw[if_neg (by simp[l2]),dif_pos c2]
      have hsw:(d.setIfInBounds (F+root) d[F+(2*root+2)]!).setIfInBounds (F+(2*root+2)) d[F+root]! = swI d (F+root) (F+(2*root+2)):=rfl
      have ih':=ih (2*root+2) (swI d (F+root) (F+(2*root+2))) (by omega) (by omega) (by rw[qch];exact hd)
      refine qfy (T':=q4c i g n hi F (2*root+2)) (h':=put h i g (swI d (F+root) (F+(2*root+2)))) (fun f hf=>?_) ih' h0
      have m4:=hm.cl (swI d (F+root) (F+(2*root+2)))
      have z4:((2*root+2:Nat):Int)=2*(root:Int)+1+1:=by omega
      obtain⟨z,r3⟩:=qbx (d.setIfInBounds (F+root) d[F+(2*root+2)]!) (F+(2*root+2))
      unfold q4c
      rw[z4]
      generalize d[F+(2*root+1)]! = x1 at *
      generalize d[F+(2*root+2)]! = x2 at *
      generalize d[F+root]! = x0 at *
      generalize swI d (F+root) (F+(2*root+2))=d' at *
      simp[-qaq,-qbc,qaa,exT,qae,L280_0,w1,w2,w3,w4,w5,w6,w7,p0,p1,p2,p3,t0,t1,t2,t3,c1',c2',m1,m2,m3,m4,r0,r1,r2,r3,e1,e2,b0,b1,b2,qbm,hsw,hd.symm,hf.ne]
     .have l2':ltI d[F+root]! d[F+(2*root+2)]! = false:=by simpa using l2
      rw[l2']at e2
      rw[if_pos (by simp[l2])]
      refine qay (fun f hf=>?_) h0
      generalize d[F+(2*root+1)]! = x1 at *
      generalize d[F+(2*root+2)]! = x2 at *
      generalize d[F+root]! = x0 at *
      simp[-qaq,-qbc,qaa,exT,qae,L280_0,q4c,w1,w2,w3,w4,w5,w6,w7,p0,p1,p2,p3,t0,t1,t2,t3,c1',c2',m1,m2,m3,r0,r1,r2,e1,e2,b0,b1,b2,hd.symm,hf.ne]
      exact qos (by simp[hf.ne])
    .have l1':ltI d[F+(2*root+1)]! d[F+(2*root+2)]! = false:=by simpa using l1
     rw[l1']at e1
     rw[if_neg (by rw[show F+(2*root+1)+1=F+(2*root+2)by omega];simp[l1])]
     have e2:=ev249 d[F+root]! d[F+(2*root+1)]!
     by_cases l2:ltI d[F+root]! d[F+(2*root+1)]! = true
     .rw[l2]at e2
      rw[if_neg (by simp[l2])]
      have hsw:(d.setIfInBounds (F+root) d[F+(2*root+1)]!).setIfInBounds (F+(2*root+1)) d[F+root]! = swI d (F+root) (F+(2*root+1)):=rfl
      have ih':=ih (2*root+1) (swI d (F+root) (F+(2*root+1))) (by omega) (by omega) (by rw[qch];exact hd)
      refine qfy (T':=q4c i g n hi F (2*root+1)) (h':=put h i g (swI d (F+root) (F+(2*root+1)))) (fun f hf=>?_) ih' h0
      have m4:=hm.cl (swI d (F+root) (F+(2*root+1)))
      obtain⟨z,r3⟩:=qbx (d.setIfInBounds (F+root) d[F+(2*root+1)]!) (F+(2*root+1))
      generalize d[F+(2*root+1)]! = x1 at *
      generalize d[F+(2*root+2)]! = x2 at *
      generalize d[F+root]! = x0 at *
      generalize swI d (F+root) (F+(2*root+1))=d' at *
      simp[-qaq,-qbc,qaa,exT,qae,L280_0,q4c,w1,w2,w3,w4,w5,w6,w7,p0,p1,p2,p3,t0,t1,t2,t3,c1',c2',m1,m2,m3,m4,r0,r1,r2,r3,e1,e2,b0,b1,b2,qbm,hsw,hd.symm,hf.ne]
     .have l2':ltI d[F+root]! d[F+(2*root+1)]! = false:=by simpa using l2
      rw[l2']at e2
      rw[if_pos (by simp[l2])]
      refine qay (fun f hf=>?_) h0
      generalize d[F+(2*root+1)]! = x1 at *
      generalize d[F+(2*root+2)]! = x2 at *
      generalize d[F+root]! = x0 at *
      simp[-qaq,-qbc,qaa,exT,qae,L280_0,q4c,w1,w2,w3,w4,w5,w6,w7,p0,p1,p2,p3,t0,t1,t2,t3,c1',c2',m1,m2,m3,r0,r1,r2,e1,e2,b0,b1,b2,hd.symm,hf.ne]
      exact qos (by simp[hf.ne])
   .have c2':¬2*(root:Int)+1+1<hi:=by omega
    rw[if_neg (by simp;omega)]
    have e2:=ev249 d[F+root]! d[F+(2*root+1)]!
    by_cases l2:ltI d[F+root]! d[F+(2*root+1)]! = true
    .rw[l2]at e2
     rw[if_neg (by simp[l2])]
     have hsw:(d.setIfInBounds (F+root) d[F+(2*root+1)]!).setIfInBounds (F+(2*root+1)) d[F+root]! = swI d (F+root) (F+(2*root+1)):=rfl
     have ih':=ih (2*root+1) (swI d (F+root) (F+(2*root+1))) (by omega) (by omega) (by rw[qch];exact hd)
     refine qfy (T':=q4c i g n hi F (2*root+1)) (h':=put h i g (swI d (F+root) (F+(2*root+1)))) (fun f hf=>?_) ih' h0
     have m4:=hm.cl (swI d (F+root) (F+(2*root+1)))
     obtain⟨z,r3⟩:=qbx (d.setIfInBounds (F+root) d[F+(2*root+1)]!) (F+(2*root+1))
     generalize d[F+(2*root+1)]! = x1 at *
     generalize d[F+root]! = x0 at *
     generalize swI d (F+root) (F+(2*root+1))=d' at *
     simp[-qaq,-qbc,qaa,exT,qae,L280_0,q4c,w1,w2,w3,w4,w5,w6,w7,p0,p1,p2,p3,t0,t1,t2,t3,c1',c2',m1,m2,m3,m4,r0,r1,r3,e2,b0,b1,qbm,hsw,hd.symm,hf.ne]
    .have l2':ltI d[F+root]! d[F+(2*root+1)]! = false:=by simpa using l2
     rw[l2']at e2
     rw[if_pos (by simp[l2])]
     refine qay (fun f hf=>?_) h0
     generalize d[F+(2*root+1)]! = x1 at *
     generalize d[F+root]! = x0 at *
     simp[-qaq,-qbc,qaa,exT,qae,L280_0,q4c,w1,w2,w3,w4,w5,w6,w7,p0,p1,p2,p3,t0,t1,t2,t3,c1',c2',m1,m2,m3,r0,r1,e2,b0,b1,hd.symm,hf.ne]
     exact qos (by simp[hf.ne])
theorem ev280{h:H}{i:Nat}(hi:i<h.length)(hc:qdb h)(g:Nat)(d:Array Int)(lo top F:Nat)(hF:F+top<=d.size)(hl:lo<=d.size)(hn:d.size<=1000000):ev pg (.call (.fn 280 [] []) [.sl i g 1 0 d.size,num lo,num top,num F] (put h i g d))=some { v:=.tup [],st:=⟨[],put h i g (Go.Sort.siftDown ltI top F lo d)⟩ }:=by
 have hm:=qgu hi hc g
 have m4:=hm.ck
 have hlp:=@z1k h i g hm d.size top F hn hF _ lo d (jD _) hl rfl
 generalize Go.Sort.siftDown ltI top F lo d=d' at *
 rw[qac,pg280]
 simp[-qaq,-qbc,ir280,qaf]
 generalize hr:ev pg (.code (.going _ L280_0) _)=o
 obtain⟨r,rfl,f,hf,hor⟩:∃r,o=some r/\_:=by rw[<-hr];exact hlp _ (by simp[q4c])
 clear hr
 rcases hor with rfl | rfl<;>simp[-qaq,-qbc,m4,hm.lt]
def qzv(i g n:Nat)(F hi k:Nat):Tm:=[some (.sl i g 1 0 n),none,none,none,none,none,some (num F),some (num 0),some (num hi),some (num ((k:Int)-1))]++List.replicate 46 none
def qzw(i g n:Nat)(F k:Nat):Tm:=[some (.sl i g 1 0 n),none,none,none,none,none,some (num F),some (num 0),none,none,some (num ((k:Int)-1))]++List.replicate 45 none
theorem qtk(lt:Int->Int->Bool)(hi F:Nat):∀(k:Nat) (d:Array Int),(Go.Sort.heapBuild lt hi F k d).size=d.size
 | 0,d=>rfl
 | k+1,d=>by rw[Go.Sort.heapBuild,qtk lt hi F k,qkm lt hi F _ _ _ (jD _)]
theorem zfj{h:H}{i g:Nat}(hi:i<h.length)(hc:qdb h)(n F top:Nat)(hn:n<=1000000)(hF:F+top<=n):∀(k:Nat) (d:Array Int),d.size=n->k<=n->∀(st:St),At (qzv i g n F top k) (put h i g d) st->∃r,ev pg (.code (.going h.length L244_0) st)=some r/\qaj (.exit 0) (qzv i g n F top 0) (put h i g (Go.Sort.heapBuild ltI top F k d)) r
 | 0,d,hd,hk,st,h0=>by
  refine qay (fun f hf=>?_) h0
  simp[-qaq,-qbc,L244_0,qzv,Go.Sort.heapBuild,hf.ne]
 | k+1,d,hd,hk,st,h0=>by
  have hm:=qgu hi hc g
  have e:=ev280 hi hc g d k top F (by omega) (by omega) (by omega)
  have hsz:=qkm ltI top F _ k d (jD _)
  rw[Go.Sort.heapBuild]
  have ih:=@zfj h i g hi hc n F top hn hF k (Go.Sort.siftDown ltI top F k d) (by omega) (by omega)
  refine qfy (T':=qzv i g n F top k) (h':=put h i g (Go.Sort.siftDown ltI top F k d)) (fun f hf=>?_) ih h0
  have wk:=qab (n:=(k:Int)-1) (by omega) (by omega)
  have m4:=hm.cl (Go.Sort.siftDown ltI top F k d)
  generalize Go.Sort.siftDown ltI top F k d=d' at *
  rw[hd]at e
  simp[-qaq,-qbc,L244_0,qzv,e,wk,m4,hm.lt,hf.ne]
theorem zfk{h:H}{i g:Nat}(hi:i<h.length)(hc:qdb h)(n F:Nat)(hn:n<=1000000):∀(k:Nat) (d:Array Int),d.size=n->F+k<=n->∀(st:St),At (qzw i g n F k) (put h i g d) st->∃r,ev pg (.code (.going h.length L244_1) st)=some r/\qaj (.exit 2) (qzw i g n F 0) (put h i g (Go.Sort.heapPop ltI F k d)) r
 | 0,d,hd,hk,st,h0=>by
  refine qay (fun f hf=>?_) h0
  simp[-qaq,-qbc,L244_1,qzw,Go.Sort.heapPop,hf.ne]
 | k+1,d,hd,hk,st,h0=>by
  have hm:=qgu hi hc g
  have hss:(swI d F (F+k)).size=n:=by rw[qch];exact hd
  have e:=ev280 hi hc g (swI d F (F+k)) 0 k F (by omega) (by omega) (by omega)
  have hsz:=qkm ltI k F _ 0 (swI d F (F+k)) (jD _)
  rw[Go.Sort.heapPop]
  change ∃r,_/\qaj _ _ (put h i g (Go.Sort.heapPop ltI F k (Go.Sort.siftDown ltI k F 0 (swI d F (F+k))))) r
  have ih:=@zfk h i g hi hc n F hn k (Go.Sort.siftDown ltI k F 0 (swI d F (F+k))) (by omega) (by omega)
  refine qfy (T':=qzw i g n F k) (h':=put h i g (Go.Sort.siftDown ltI k F 0 (swI d F (F+k)))) (fun f hf=>?_) ih h0
  have wk:=qab (n:=(k:Int)-1) (by omega) (by omega)
  have w2:=qab (n:=(F:Int)+k) (by omega) (by omega)
  have p2:(0:Int)<=(F:Int)+k:=by omega
  have t2:((F:Int)+k).toNat=F+k:=by omega
  have m2:=hm.set
  have m3:=hm.get
  have b1:F<d.size:=by omega
  have b2:F+k<d.size:=by omega
  have r1:=qal (d:=d) (k:=F) b1
  have r2:=qal (d:=d) (k:=F+k) b2
  have hsw:(d.setIfInBounds F d[F+k]!).setIfInBounds (F+k) d[F]! = swI d F (F+k):=rfl
  obtain⟨z,r3⟩:=qbx (d.setIfInBounds F d[F+k]!) (F+k)
  have m4:=hm.cl (Go.Sort.siftDown ltI k F 0 (swI d F (F+k)))
  generalize Go.Sort.siftDown ltI k F 0 (swI d F (F+k))=d' at *
  rw[hss,<-hd]at e
  change ev pg (.call (.fn 280 [] []) [.sl i g 1 0 d.size,num 0,num k,num F] _)=_ at e
  generalize swI d F (F+k)=d2 at *
  generalize d[F]! = x at *
  generalize d[F+k]! = y at *
  simp[-qaq,-qbc,qaa,exT,qae,L244_1,qzw,e,wk,w2,p2,t2,m2,m3,m4,r1,r2,r3,b1,b2,hm.lt,qbm,hsw,hd.symm,hf.ne]
theorem ev244{h:H}{i:Nat}(hi:i<h.length)(hc:qdb h)(g:Nat)(d:Array Int)(a m:Nat)(hb:a+m<=d.size)(h1:1<=m)(hn:d.size<=1000000):ev pg (.call (.fn 244 [] []) [.sl i g 1 0 d.size,num a,num (a+m:Nat)] (put h i g d))=some { v:=.tup [],st:=⟨[],put h i g (Go.Sort.heapSort ltI d a (a+m))⟩ }:=by
 have hm:=qgu hi hc g
 have m4:=hm.ck
 have hq:Int.tdiv ((m:Int)-1) 2=(((m-1) / 2:Nat):Int):=by
  rw[show(m:Int)-1=((m-1:Nat):Int)by omega,show(2:Int)=((2:Nat):Int)by rfl,<-Int.ofNat_tdiv]
 have wm:IntKind.i64.wrap ((a:Int)+m-a)=(m:Int):=by
  rw[qab (by omega) (by omega)]
  omega
 have wm1:=qab (n:=(m:Int)-1) (by omega) (by omega)
 unfold Go.Sort.heapSort
 rw[Nat.add_sub_cancel_left]
 have hqm:(m-1) / 2+1<=d.size:=by omega
 generalize (m-1) / 2=q at *
 have wq:=qab (n:=(q:Int)) (by omega) (by omega)
 have hl1:=zfj (g:=g) hi hc d.size a m hn hb (q+1) d rfl hqm
 have hsz:=qtk ltI m a (q+1) d
 generalize Go.Sort.heapBuild ltI m a (q+1) d=d1 at *
 have hl2:=zfk (g:=g) hi hc d.size a hn m d1 hsz hb
 generalize Go.Sort.heapPop ltI a m d1=d2 at *
 rw[qac,pg244]
 simp[-qaq,-qbc,ir244,wm,wm1,hq,wq,qaf]
 generalize hr:ev pg (.code (.going _ L244_0) _)=o
 obtain⟨r,rfl,f,hf,rfl⟩:∃r,o=some r/\_:=by rw[<-hr];exact hl1 _ (by simp[qzv])
 clear hr
 simp[-qaq,-qbc,qzv,wm1,hf.ne]
 generalize hr:ev pg (.code (.going _ L244_1) _)=o
 obtain⟨r,rfl,f2,hf2,rfl⟩:∃r,o=some r/\_:=by rw[<-hr];exact hl2 _ (by simp[qzw,hf.ne])
 clear hr
 simp[-qaq,-qbc,qzw,m4,hm.lt]
def zox(i g n:Nat)(a b:Nat):Tm:=[some (.sl i g 1 0 n),none,none,none,none,none,some (num a),some (num b)]++List.replicate 24 none
theorem z1g{h:H}{i g:Nat}(hm:Mem h i g)(n:Nat)(hn:n<=1000000):∀(m a b:Nat) (d:Array Int),b-a<=m->b<n->d.size=n->∀(st:St),At (zox i g n a b) (put h i g d) st->∃r,ev pg (.code (.going h.length L247_0) st)=some r/\qaj (.exit 0) (List.replicate 32 none) (put h i g (Go.Sort.reverseLoop a b d)) r:=by
 intro m
 induction m with
 | zero =>
  intro a b d hmm hb hd st h0
  rw[Go.Sort.reverseLoop,if_neg (by omega)]
  refine qay (fun f hf=>?_) h0
  have c1:¬(a:Int)<b:=by omega
  simp[-qaq,-qbc,L247_0,zox,c1,hf.ne]
 | succ m ih =>
  intro a b d hmm hb hd st h0
  rw[Go.Sort.reverseLoop]
  by_cases c:a<b
  .rw[if_pos c]
   obtain⟨b,rfl⟩:∃b',b=b'+1:=⟨b-1,by omega⟩
   have c1:(a:Int)<(b:Int)+1:=by omega
   have m1:=hm.lt
   have m2:=hm.set
   have m3:=hm.get
   have b1:a<d.size:=by omega
   have b2:b+1<d.size:=by omega
   have p1:(0:Int)<=(b:Int)+1:=by omega
   have r1:=qal (d:=d) (k:=a) b1
   have r2:=qal (d:=d) (k:=b+1) b2
   have wa:=qab (n:=(a:Int)+1) (by omega) (by omega)
   have wb:=qab (n:=(b:Int)) (by omega) (by omega)
   have hsw:(d.setIfInBounds a d[b+1]!).setIfInBounds (b+1) d[a]! = swI d a (b+1):=rfl
   obtain⟨z,r3⟩:=qbx (d.setIfInBounds a d[b+1]!) (b+1)
   have m4:=hm.cl (swI d a (b+1))
   rw[Nat.add_sub_cancel]
   have ih':=ih (a+1) b (swI d a (b+1)) (by omega) (by omega) (by rw[qch];exact hd)
   refine qfy (T':=zox i g n (a+1) b) (h':=put h i g (swI d a (b+1))) (fun f hf=>?_) ih' h0
   generalize swI d a (b+1)=d' at *
   generalize d[a]! = x at *
   generalize d[b+1]! = y at *
   simp[-qaq,-qbc,qaa,exT,qae,L247_0,zox,c1,p1,wa,wb,m1,m2,m3,m4,r1,r2,r3,b1,b2,qbm,hsw,hd.symm,hf.ne]
  .rw[if_neg c]
   refine qay (fun f hf=>?_) h0
   have c1:¬(a:Int)<b:=by omega
   simp[-qaq,-qbc,L247_0,zox,c1,hf.ne]
theorem ev247{h:H}{i:Nat}(hi:i<h.length)(hc:qdb h)(g:Nat)(d:Array Int)(a b:Nat)(hb:b<=d.size)(h1:1<=b)(hn:d.size<=1000000):ev pg (.call (.fn 247 [] []) [.sl i g 1 0 d.size,num a,num b] (put h i g d))=some { v:=.tup [],st:=⟨[],put h i g (Go.Sort.reverseRange d a b)⟩ }:=by
 have hm:=qgu hi hc g
 have m4:=hm.ck
 unfold Go.Sort.reverseRange
 obtain⟨b,rfl⟩:∃b',b=b'+1:=⟨b-1,by omega⟩
 rw[Nat.add_sub_cancel]
 have hlp:=@z1g h i g hm d.size hn _ a b d (jD _) (by omega) rfl
 have wb:=qab (n:=(b:Int)) (by omega) (by omega)
 generalize Go.Sort.reverseLoop a b d=d' at *
 rw[qac,pg247]
 simp[-qaq,-qbc,ir247,wb,qaf]
 generalize hr:ev pg (.code (.going _ L247_0) _)=o
 obtain⟨r,rfl,f,hf,rfl⟩:∃r,o=some r/\_:=by rw[<-hr];exact hlp _ (by simp[zox])
 clear hr
 simp[-qaq,-qbc,m4,hm.lt]
end Go.Proofs.YtddeacahiilikaaGreat
