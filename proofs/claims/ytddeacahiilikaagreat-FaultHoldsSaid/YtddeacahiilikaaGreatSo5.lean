/- Sorting in place: the heap, reversing. Sorting in place: the heap and reversing. Sorting in place: the scans of the partitions. -/
import Derived.Test.YtddeacahiilikaaGreatSo2
set_option linter.all false
namespace Go.Proofs.YtddeacahiilikaaGreat
open Go Go.Am Go.Proofs
set_option maxRecDepth 100000
def zak(i g n:Nat)(hi first root:Nat):Tm:=[some (.sl i g 1 0 n),none,some (num hi),some (num first),none,none,none,none,some (num root),none]++List.replicate 66 none
def zdo(h:H)(r:R):Prop:=∃f,Junk f/\((r={ x:=.exit 0,st:=⟨fill f 0 (List.replicate 76 none),h⟩ })\/r={ x:=.ret,st:=⟨fill f 0 (List.replicate 76 none),h⟩ })
theorem quw{h:H}{st:St}(hA:At (List.replicate 76 none) h st):zdo h { x:=.exit 0,st:=st }:=by
 obtain⟨f,hf,rfl⟩:=hA.eq
 exact⟨f,hf,.inl rfl⟩
theorem qqf{h:H}{st:St}(hA:At (List.replicate 76 none) h st):zdo h { x:=.ret,st:=st }:=by
 obtain⟨f,hf,rfl⟩:=hA.eq
 exact⟨f,hf,.inr rfl⟩
theorem qlu(lt:Int->Int->Bool)(hi F:Nat):∀(m root:Nat) (d:Array Int),hi-root<=m->(Go.Sort.siftDown lt hi F root d).size=d.size
 | 0,root,d,hm=>by
  rw[Go.Sort.siftDown,dif_pos (by omega)]
 | m+1,root,d,hm=>by
  rw[Go.Sort.siftDown]
  split
  .rfl
  .split
   .split
    .rfl
    .split
     .rw[qlu lt hi F m _ _ (by omega)];exact qcv _ _ _
     .rfl
   .split
    .rfl
    .rw[qlu lt hi F m _ _ (by omega)];exact qcv _ _ _
set_option maxHeartbeats 1000000 in
theorem jfg{h:H}{i g:Nat}(hm:Mem h i g)(n hi F:Nat)(hn:n<=1000000)(hF:F+hi<=n):∀(m root:Nat) (d:Array Int),hi-root<=m->root<=n->d.size=n->∀(st:St),At (zak i g n hi F root) (put h i g d) st->∃r,ev pg (.code (.going h.length L280_0) st)=some r/\zdo (put h i g (Go.Sort.siftDown ltI hi F root d)) r:=by
 intro m
 induction m with
 | zero =>
  intro root d hmm hr hd st h0
  rw[Go.Sort.siftDown,dif_pos (by omega)]
  refine qbf (fun f hf=>?_) h0
  have w1:=qab (n:=2*(root:Int)) (by omega) (by omega)
  have w2:=qab (n:=2*(root:Int)+1) (by omega) (by omega)
  have c1:(hi:Int)<=2*(root:Int)+1:=by omega
  simp[-qap,-qbb,qaa,exT,qaf,L280_0,zak,w1,w2,c1,hf.ne]
  exact quw (by simp[hf.ne])
 | succ m ih =>
  intro root d hmm hr hd st h0
  have w1:=qab (n:=2*(root:Int)) (by omega) (by omega)
  have w2:=qab (n:=2*(root:Int)+1) (by omega) (by omega)
  by_cases c1:2*root+1≥hi
  .rw[Go.Sort.siftDown,dif_pos c1]
   refine qbf (fun f hf=>?_) h0
   have c1':(hi:Int)<=2*(root:Int)+1:=by omega
   simp[-qap,-qbb,qaa,exT,qaf,L280_0,zak,w1,w2,c1',hf.ne]
   exact quw (by simp[hf.ne])
  .have c1':¬(hi:Int)<=2*(root:Int)+1:=by omega
   have m1:=hm.lt
   have m2:=hm.set
   have m3:=hm.get
   have b0:F+root<d.size:=by omega
   have b1:F+(2*root+1)<d.size:=by omega
   have r0:=qao (d:=d) (k:=F+root) b0
   have r1:=qao (d:=d) (k:=F+(2*root+1)) b1
   have w3:=qab (n:=2*(root:Int)+1+1) (by omega) (by omega)
   have w4:=qab (n:=(F:Int)+root) (by omega) (by omega)
   have w5:=qab (n:=(F:Int)+(2*(root:Int)+1)) (by omega) (by omega)
   have w6:=qab (n:=(F:Int)+(2*(root:Int)+1)+1) (by omega) (by omega)
   have w7:=qab (n:=(F:Int)+(2*(root:Int)+1+1)) (by omega) (by omega)
   have p0:(0:Int)<=(F:Int)+root:=by omega
   have p1:(0:Int)<=(F:Int)+(2*(root:Int)+1):=by omega
   have p2:(0:Int)<=(F:Int)+(2*(root:Int)+1)+1:=by omega
   have p3:(0:Int)<=(F:Int)+(2*(root:Int)+1+1):=by omega
   have t0:((F:Int)+root).toNat=F+root:=by omega
   have t1:((F:Int)+(2*(root:Int)+1)).toNat=F+(2*root+1):=by omega
   have t2:((F:Int)+(2*(root:Int)+1)+1).toNat=F+(2*root+2):=by omega
   have t3:((F:Int)+(2*(root:Int)+1+1)).toNat=F+(2*root+2):=by omega
   rw[Go.Sort.siftDown,dif_neg c1]
   have key:∀(c:Nat) (b:Bool),(c=2*root+1\/c=2*root+2)->True:=fun _ _ _=>trivial
   by_cases c2:2*root+2<hi
   .have c2':2*(root:Int)+1+1<hi:=by omega
    have b2:F+(2*root+2)<d.size:=by omega
    have r2:=qao (d:=d) (k:=F+(2*root+2)) b2
    have e1:=ev249 d[F+(2*root+1)]! d[F+(2*root+2)]!
    by_cases l1:ltI d[F+(2*root+1)]! d[F+(2*root+2)]! = true
    .rw[l1]at e1
     rw[if_pos (by rw[show F+(2*root+1)+1=F+(2*root+2)by omega];simp[l1];omega)]
     have e2:=ev249 d[F+root]! d[F+(2*root+2)]!
     by_cases l2:ltI d[F+root]! d[F+(2*root+2)]! = true
     .rw[l2]at e2
      rw[if_neg (by simp[l2]),dif_pos c2]
      have hsw:(d.setIfInBounds (F+root) d[F+(2*root+2)]!).setIfInBounds (F+(2*root+2)) d[F+root]! = swI d (F+root) (F+(2*root+2)):=rfl
      have ih':=ih (2*root+2) (swI d (F+root) (F+(2*root+2))) (by omega) (by omega) (by rw[qcv];exact hd)
      refine qgw (T':=zak i g n hi F (2*root+2)) (h':=put h i g (swI d (F+root) (F+(2*root+2)))) (fun f hf=>?_) ih' h0
      have m4:=hm.cl (swI d (F+root) (F+(2*root+2)))
      have z4:((2*root+2:Nat):Int)=2*(root:Int)+1+1:=by omega
      obtain⟨z,r3⟩:=qci (d.setIfInBounds (F+root) d[F+(2*root+2)]!) (F+(2*root+2))
      unfold zak
      rw[z4]
      generalize d[F+(2*root+1)]! = x1 at *
      generalize d[F+(2*root+2)]! = x2 at *
      generalize d[F+root]! = x0 at *
      generalize swI d (F+root) (F+(2*root+2))=d' at *
      simp[-qap,-qbb,qaa,exT,qaf,L280_0,w1,w2,w3,w4,w5,w6,w7,p0,p1,p2,p3,t0,t1,t2,t3,c1',c2',m1,m2,m3,m4,r0,r1,r2,r3,e1,e2,b0,b1,b2,qbw,hsw,hd.symm,hf.ne]
     .have l2':ltI d[F+root]! d[F+(2*root+2)]! = false:=by simpa using l2
      rw[l2']at e2
      rw[if_pos (by simp[l2])]
      refine qbf (fun f hf=>?_) h0
      generalize d[F+(2*root+1)]! = x1 at *
      generalize d[F+(2*root+2)]! = x2 at *
      generalize d[F+root]! = x0 at *
      simp[-qap,-qbb,qaa,exT,qaf,L280_0,zak,w1,w2,w3,w4,w5,w6,w7,p0,p1,p2,p3,t0,t1,t2,t3,c1',c2',m1,m2,m3,r0,r1,r2,e1,e2,b0,b1,b2,hd.symm,hf.ne]
      exact qqf (by simp[hf.ne])
    .have l1':ltI d[F+(2*root+1)]! d[F+(2*root+2)]! = false:=by simpa using l1
     rw[l1']at e1
     rw[if_neg (by rw[show F+(2*root+1)+1=F+(2*root+2)by omega];simp[l1])]
     have e2:=ev249 d[F+root]! d[F+(2*root+1)]!
     by_cases l2:ltI d[F+root]! d[F+(2*root+1)]! = true
     .rw[l2]at e2
      rw[if_neg (by simp[l2])]
      have hsw:(d.setIfInBounds (F+root) d[F+(2*root+1)]!).setIfInBounds (F+(2*root+1)) d[F+root]! = swI d (F+root) (F+(2*root+1)):=rfl
      have ih':=ih (2*root+1) (swI d (F+root) (F+(2*root+1))) (by omega) (by omega) (by rw[qcv];exact hd)
      refine qgw (T':=zak i g n hi F (2*root+1)) (h':=put h i g (swI d (F+root) (F+(2*root+1)))) (fun f hf=>?_) ih' h0
      have m4:=hm.cl (swI d (F+root) (F+(2*root+1)))
      obtain⟨z,r3⟩:=qci (d.setIfInBounds (F+root) d[F+(2*root+1)]!) (F+(2*root+1))
      generalize d[F+(2*root+1)]! = x1 at *
      generalize d[F+(2*root+2)]! = x2 at *
      generalize d[F+root]! = x0 at *
      generalize swI d (F+root) (F+(2*root+1))=d' at *
      simp[-qap,-qbb,qaa,exT,qaf,L280_0,zak,w1,w2,w3,w4,w5,w6,w7,p0,p1,p2,p3,t0,t1,t2,t3,c1',c2',m1,m2,m3,m4,r0,r1,r2,r3,e1,e2,b0,b1,b2,qbw,hsw,hd.symm,hf.ne]
     .have l2':ltI d[F+root]! d[F+(2*root+1)]! = false:=by simpa using l2
      rw[l2']at e2
      rw[if_pos (by simp[l2])]
      refine qbf (fun f hf=>?_) h0
      generalize d[F+(2*root+1)]! = x1 at *
      generalize d[F+(2*root+2)]! = x2 at *
      generalize d[F+root]! = x0 at *
      simp[-qap,-qbb,qaa,exT,qaf,L280_0,zak,w1,w2,w3,w4,w5,w6,w7,p0,p1,p2,p3,t0,t1,t2,t3,c1',c2',m1,m2,m3,r0,r1,r2,e1,e2,b0,b1,b2,hd.symm,hf.ne]
      exact qqf (by simp[hf.ne])
   .have c2':¬2*(root:Int)+1+1<hi:=by omega
    rw[if_neg (by simp;omega)]
    have e2:=ev249 d[F+root]! d[F+(2*root+1)]!
    by_cases l2:ltI d[F+root]! d[F+(2*root+1)]! = true
    .rw[l2]at e2
     rw[if_neg (by simp[l2])]
     have hsw:(d.setIfInBounds (F+root) d[F+(2*root+1)]!).setIfInBounds (F+(2*root+1)) d[F+root]! = swI d (F+root) (F+(2*root+1)):=rfl
     have ih':=ih (2*root+1) (swI d (F+root) (F+(2*root+1))) (by omega) (by omega) (by rw[qcv];exact hd)
     refine qgw (T':=zak i g n hi F (2*root+1)) (h':=put h i g (swI d (F+root) (F+(2*root+1)))) (fun f hf=>?_) ih' h0
     have m4:=hm.cl (swI d (F+root) (F+(2*root+1)))
     obtain⟨z,r3⟩:=qci (d.setIfInBounds (F+root) d[F+(2*root+1)]!) (F+(2*root+1))
     generalize d[F+(2*root+1)]! = x1 at *
     generalize d[F+root]! = x0 at *
     generalize swI d (F+root) (F+(2*root+1))=d' at *
     simp[-qap,-qbb,qaa,exT,qaf,L280_0,zak,w1,w2,w3,w4,w5,w6,w7,p0,p1,p2,p3,t0,t1,t2,t3,c1',c2',m1,m2,m3,m4,r0,r1,r3,e2,b0,b1,qbw,hsw,hd.symm,hf.ne]
    .have l2':ltI d[F+root]! d[F+(2*root+1)]! = false:=by simpa using l2
     rw[l2']at e2
     rw[if_pos (by simp[l2])]
     refine qbf (fun f hf=>?_) h0
     generalize d[F+(2*root+1)]! = x1 at *
     generalize d[F+root]! = x0 at *
     simp[-qap,-qbb,qaa,exT,qaf,L280_0,zak,w1,w2,w3,w4,w5,w6,w7,p0,p1,p2,p3,t0,t1,t2,t3,c1',c2',m1,m2,m3,r0,r1,e2,b0,b1,hd.symm,hf.ne]
     exact qqf (by simp[hf.ne])
theorem ev280{h:H}{i:Nat}(hi:i<h.length)(hc:qce h)(g:Nat)(d:Array Int)(lo top F:Nat)(hF:F+top<=d.size)(hl:lo<=d.size)(hn:d.size<=1000000):ev pg (.call (.fn 280 [] []) [.sl i g 1 0 d.size,num lo,num top,num F] (put h i g d))=some { v:=.tup [],st:=⟨[],put h i g (Go.Sort.siftDown ltI top F lo d)⟩ }:=by
 have hm:=qhz hi hc g
 have m4:=hm.ck
 have hlp:=@jfg h i g hm d.size top F hn hF _ lo d (jD _) hl rfl
 generalize Go.Sort.siftDown ltI top F lo d=d' at *
 rw[qac,pg280]
 simp[-qap,-qbb,ir280,qag]
 generalize hr:ev pg (.code (.going _ L280_0) _)=o
 obtain⟨r,rfl,f,hf,hor⟩:∃r,o=some r/\_:=by rw[<-hr];exact hlp _ (by simp[zak])
 clear hr
 rcases hor with rfl | rfl<;>simp[-qap,-qbb,m4,hm.lt]
def q6l(i g n:Nat)(F hi k:Nat):Tm:=[some (.sl i g 1 0 n),none,none,none,none,none,some (num F),some (num 0),some (num hi),some (num ((k:Int)-1))]++List.replicate 46 none
def q5q(i g n:Nat)(F k:Nat):Tm:=[some (.sl i g 1 0 n),none,none,none,none,none,some (num F),some (num 0),none,none,some (num ((k:Int)-1))]++List.replicate 45 none
theorem qys(lt:Int->Int->Bool)(hi F:Nat):∀(k:Nat) (d:Array Int),(Go.Sort.heapBuild lt hi F k d).size=d.size
 | 0,d=>rfl
 | k+1,d=>by rw[Go.Sort.heapBuild,qys lt hi F k,qlu lt hi F _ _ _ (jD _)]
theorem zoo{h:H}{i g:Nat}(hi:i<h.length)(hc:qce h)(n F top:Nat)(hn:n<=1000000)(hF:F+top<=n):∀(k:Nat) (d:Array Int),d.size=n->k<=n->∀(st:St),At (q6l i g n F top k) (put h i g d) st->∃r,ev pg (.code (.going h.length L244_0) st)=some r/\qam (.exit 0) (q6l i g n F top 0) (put h i g (Go.Sort.heapBuild ltI top F k d)) r
 | 0,d,hd,hk,st,h0=>by
  refine qbf (fun f hf=>?_) h0
  simp[-qap,-qbb,L244_0,q6l,Go.Sort.heapBuild,hf.ne]
 | k+1,d,hd,hk,st,h0=>by
  have hm:=qhz hi hc g
  have e:=ev280 hi hc g d k top F (by omega) (by omega) (by omega)
  have hsz:=qlu ltI top F _ k d (jD _)
  rw[Go.Sort.heapBuild]
  have ih:=@zoo h i g hi hc n F top hn hF k (Go.Sort.siftDown ltI top F k d) (by omega) (by omega)
  refine qgw (T':=q6l i g n F top k) (h':=put h i g (Go.Sort.siftDown ltI top F k d)) (fun f hf=>?_) ih h0
  have wk:=qab (n:=(k:Int)-1) (by omega) (by omega)
  have m4:=hm.cl (Go.Sort.siftDown ltI top F k d)
  generalize Go.Sort.siftDown ltI top F k d=d' at *
  rw[hd]at e
  simp[-qap,-qbb,L244_0,q6l,e,wk,m4,hm.lt,hf.ne]
theorem zov{h:H}{i g:Nat}(hi:i<h.length)(hc:qce h)(n F:Nat)(hn:n<=1000000):∀(k:Nat) (d:Array Int),d.size=n->F+k<=n->∀(st:St),At (q5q i g n F k) (put h i g d) st->∃r,ev pg (.code (.going h.length L244_1) st)=some r/\qam (.exit 2) (q5q i g n F 0) (put h i g (Go.Sort.heapPop ltI F k d)) r
 | 0,d,hd,hk,st,h0=>by
  refine qbf (fun f hf=>?_) h0
  simp[-qap,-qbb,L244_1,q5q,Go.Sort.heapPop,hf.ne]
 | k+1,d,hd,hk,st,h0=>by
  have hm:=qhz hi hc g
  have hss:(swI d F (F+k)).size=n:=by rw[qcv];exact hd
  have e:=ev280 hi hc g (swI d F (F+k)) 0 k F (by omega) (by omega) (by omega)
  have hsz:=qlu ltI k F _ 0 (swI d F (F+k)) (jD _)
  rw[Go.Sort.heapPop]
  change ∃r,_/\qam _ _ (put h i g (Go.Sort.heapPop ltI F k (Go.Sort.siftDown ltI k F 0 (swI d F (F+k))))) r
  have ih:=@zov h i g hi hc n F hn k (Go.Sort.siftDown ltI k F 0 (swI d F (F+k))) (by omega) (by omega)
  refine qgw (T':=q5q i g n F k) (h':=put h i g (Go.Sort.siftDown ltI k F 0 (swI d F (F+k)))) (fun f hf=>?_) ih h0
  have wk:=qab (n:=(k:Int)-1) (by omega) (by omega)
  have w2:=qab (n:=(F:Int)+k) (by omega) (by omega)
  have p2:(0:Int)<=(F:Int)+k:=by omega
  have t2:((F:Int)+k).toNat=F+k:=by omega
  have m2:=hm.set
  have m3:=hm.get
  have b1:F<d.size:=by omega
  have b2:F+k<d.size:=by omega
  have r1:=qao (d:=d) (k:=F) b1
  have r2:=qao (d:=d) (k:=F+k) b2
  have hsw:(d.setIfInBounds F d[F+k]!).setIfInBounds (F+k) d[F]! = swI d F (F+k):=rfl
  obtain⟨z,r3⟩:=qci (d.setIfInBounds F d[F+k]!) (F+k)
  have m4:=hm.cl (Go.Sort.siftDown ltI k F 0 (swI d F (F+k)))
  generalize Go.Sort.siftDown ltI k F 0 (swI d F (F+k))=d' at *
  rw[hss,<-hd]at e
  change ev pg (.call (.fn 280 [] []) [.sl i g 1 0 d.size,num 0,num k,num F] _)=_ at e
  generalize swI d F (F+k)=d2 at *
  generalize d[F]! = x at *
  generalize d[F+k]! = y at *
  simp[-qap,-qbb,qaa,exT,qaf,L244_1,q5q,e,wk,w2,p2,t2,m2,m3,m4,r1,r2,r3,b1,b2,hm.lt,qbw,hsw,hd.symm,hf.ne]
theorem ev244{h:H}{i:Nat}(hi:i<h.length)(hc:qce h)(g:Nat)(d:Array Int)(a m:Nat)(hb:a+m<=d.size)(h1:1<=m)(hn:d.size<=1000000):ev pg (.call (.fn 244 [] []) [.sl i g 1 0 d.size,num a,num (a+m:Nat)] (put h i g d))=some { v:=.tup [],st:=⟨[],put h i g (Go.Sort.heapSort ltI d a (a+m))⟩ }:=by
 have hm:=qhz hi hc g
 have m4:=hm.ck
 have hq:Int.tdiv ((m:Int)-1) 2=(((m-1) / 2:Nat):Int):=by
  rw[show(m:Int)-1=((m-1:Nat):Int)by omega,show(2:Int)=((2:Nat):Int)by rfl,<-Int.ofNat_tdiv]
 have wm:IntKind.i64.wrap ((a:Int)+m-a)=(m:Int):=by
  rw[qab (by omega) (by omega)]
  omega
 have wm1:=qab (n:=(m:Int)-1) (by omega) (by omega)
 unfold Go.Sort.heapSort
 rw[Nat.add_sub_cancel_left]
 have hqm:(m-1) / 2+1<=d.size:=by omega
 generalize (m-1) / 2=q at *
 have wq:=qab (n:=(q:Int)) (by omega) (by omega)
 have hl1:=zoo (g:=g) hi hc d.size a m hn hb (q+1) d rfl hqm
 have hsz:=qys ltI m a (q+1) d
 generalize Go.Sort.heapBuild ltI m a (q+1) d=d1 at *
 have hl2:=zov (g:=g) hi hc d.size a hn m d1 hsz hb
 generalize Go.Sort.heapPop ltI a m d1=d2 at *
 rw[qac,pg244]
 simp[-qap,-qbb,ir244,wm,wm1,hq,wq,qag]
 generalize hr:ev pg (.code (.going _ L244_0) _)=o
 obtain⟨r,rfl,f,hf,rfl⟩:∃r,o=some r/\_:=by rw[<-hr];exact hl1 _ (by simp[q6l])
 clear hr
 simp[-qap,-qbb,q6l,wm1,hf.ne]
 generalize hr:ev pg (.code (.going _ L244_1) _)=o
 obtain⟨r,rfl,f2,hf2,rfl⟩:∃r,o=some r/\_:=by rw[<-hr];exact hl2 _ (by simp[q5q,hf.ne])
 clear hr
 simp[-qap,-qbb,q5q,m4,hm.lt]
def zzy(i g n:Nat)(a b:Nat):Tm:=[some (.sl i g 1 0 n),none,none,none,none,none,some (num a),some (num b)]++List.replicate 24 none
theorem jhb{h:H}{i g:Nat}(hm:Mem h i g)(n:Nat)(hn:n<=1000000):∀(m a b:Nat) (d:Array Int),b-a<=m->b<n->d.size=n->∀(st:St),At (zzy i g n a b) (put h i g d) st->∃r,ev pg (.code (.going h.length L247_0) st)=some r/\qam (.exit 0) (List.replicate 32 none) (put h i g (Go.Sort.reverseLoop a b d)) r:=by
 intro m
 induction m with
 | zero =>
  intro a b d hmm hb hd st h0
  rw[Go.Sort.reverseLoop,if_neg (by omega)]
  refine qbf (fun f hf=>?_) h0
  have c1:¬(a:Int)<b:=by omega
  simp[-qap,-qbb,L247_0,zzy,c1,hf.ne]
 | succ m ih =>
  intro a b d hmm hb hd st h0
  rw[Go.Sort.reverseLoop]
  by_cases c:a<b
  .rw[if_pos c]
   obtain⟨b,rfl⟩:∃b',b=b'+1:=⟨b-1,by omega⟩
   have c1:(a:Int)<(b:Int)+1:=by omega
   have m1:=hm.lt
   have m2:=hm.set
   have m3:=hm.get
   have b1:a<d.size:=by omega
   have b2:b+1<d.size:=by omega
   have p1:(0:Int)<=(b:Int)+1:=by omega
   have r1:=qao (d:=d) (k:=a) b1
   have r2:=qao (d:=d) (k:=b+1) b2
   have wa:=qab (n:=(a:Int)+1) (by omega) (by omega)
   have wb:=qab (n:=(b:Int)) (by omega) (by omega)
   have hsw:(d.setIfInBounds a d[b+1]!).setIfInBounds (b+1) d[a]! = swI d a (b+1):=rfl
   obtain⟨z,r3⟩:=qci (d.setIfInBounds a d[b+1]!) (b+1)
   have m4:=hm.cl (swI d a (b+1))
   rw[Nat.add_sub_cancel]
   have ih':=ih (a+1) b (swI d a (b+1)) (by omega) (by omega) (by rw[qcv];exact hd)
   refine qgw (T':=zzy i g n (a+1) b) (h':=put h i g (swI d a (b+1))) (fun f hf=>?_) ih' h0
   generalize swI d a (b+1)=d' at *
   generalize d[a]! = x at *
   generalize d[b+1]! = y at *
   simp[-qap,-qbb,qaa,exT,qaf,L247_0,zzy,c1,p1,wa,wb,m1,m2,m3,m4,r1,r2,r3,b1,b2,qbw,hsw,hd.symm,hf.ne]
  .rw[if_neg c]
   refine qbf (fun f hf=>?_) h0
   have c1:¬(a:Int)<b:=by omega
   simp[-qap,-qbb,L247_0,zzy,c1,hf.ne]
theorem ev247{h:H}{i:Nat}(hi:i<h.length)(hc:qce h)(g:Nat)(d:Array Int)(a b:Nat)(hb:b<=d.size)(h1:1<=b)(hn:d.size<=1000000):ev pg (.call (.fn 247 [] []) [.sl i g 1 0 d.size,num a,num b] (put h i g d))=some { v:=.tup [],st:=⟨[],put h i g (Go.Sort.reverseRange d a b)⟩ }:=by
 have hm:=qhz hi hc g
 have m4:=hm.ck
 unfold Go.Sort.reverseRange
 obtain⟨b,rfl⟩:∃b',b=b'+1:=⟨b-1,by omega⟩
 rw[Nat.add_sub_cancel]
 have hlp:=@jhb h i g hm d.size hn _ a b d (jD _) (by omega) rfl
 have wb:=qab (n:=(b:Int)) (by omega) (by omega)
 generalize Go.Sort.reverseLoop a b d=d' at *
 rw[qac,pg247]
 simp[-qap,-qbb,ir247,wb,qag]
 generalize hr:ev pg (.code (.going _ L247_0) _)=o
 obtain⟨r,rfl,f,hf,rfl⟩:∃r,o=some r/\_:=by rw[<-hr];exact hlp _ (by simp[zzy])
 clear hr
 simp[-qap,-qbb,m4,hm.lt]
def qha(i g n:Nat)(a k j:Nat):Tm:=[some (.sl i g 1 0 n),some (num a),none,none,none,none,none,none,none,none,some (num k),some (num j)]++List.replicate 156 none
def qoa(i g n:Nat)(a k j:Nat):Tm:=[some (.sl i g 1 0 n),some (num a),none,none,none,none,none,none,none,some (num k),some (num j)]++List.replicate 73 none
theorem zoq{h:H}{i g:Nat}(hm:Mem h i g)(n a:Nat)(hn:n<=1000000)(ha:a<n)(d:Array Int)(hd:d.size=n)(jj:Nat)(hj:jj<n):∀(m k:Nat),jj+1-k=m->k<=n->∀(st:St),At (qha i g n a k jj) (put h i g d) st->∃r,ev pg (.code (.going h.length L251_0) st)=some r/\qam (.exit 0) (qha i g n a (Go.Sort.scanUp (fun x=>ltI x d[a]!) d jj k) jj) (put h i g d) r
 | 0,k,hk,hkn,st,h0=>by
  rw[Go.Sort.scanUp,if_neg (by simp;omega)]
  refine qbf (fun f hf=>?_) h0
  have c1:¬(k:Int)<=jj:=by omega
  simp[-qap,-qbb,qaa,exT,qaf,L251_0,qha,c1,hf.ne]
 | m+1,k,hk,hkn,st,h0=>by
  have c1:(k:Int)<=jj:=by omega
  have c2:k<=jj:=by omega
  have m1:=hm.lt
  have m3:=hm.get
  have b1:a<d.size:=by omega
  have b2:k<d.size:=by omega
  have r1:=qao (d:=d) (k:=a) b1
  have r2:=qao (d:=d) (k:=k) b2
  have e:=ev249 d[k]! d[a]!
  have wk:=qab (n:=(k:Int)+1) (by omega) (by omega)
  have m4:=hm.cl d
  rw[Go.Sort.scanUp]
  by_cases l1:ltI d[k]! d[a]! = true
  .rw[l1]at e
   rw[if_pos (by simp[c2,l1])]
   have ih:=@zoq h i g hm n a hn ha d hd jj hj m (k+1) (by omega) (by omega)
   refine qgw (T':=qha i g n a (k+1) jj) (h':=put h i g d) (fun f hf=>?_) ih h0
   generalize d[a]! = y at *
   generalize d[k]! = x at *
   simp[-qap,-qbb,qaa,exT,qaf,L251_0,qha,c1,wk,m1,m3,m4,r1,r2,b1,b2,e,hd.symm,hf.ne]
  .have l1':ltI d[k]! d[a]! = false:=by simpa using l1
   rw[l1']at e
   rw[if_neg (by simp[c2,l1'])]
   refine qbf (fun f hf=>?_) h0
   generalize d[a]! = y at *
   generalize d[k]! = x at *
   simp[-qap,-qbb,qaa,exT,qaf,L251_0,qha,c1,wk,m1,m3,m4,r1,r2,b1,b2,e,hd.symm,hf.ne]
theorem zjb{h:H}{i g:Nat}(hm:Mem h i g)(n a:Nat)(hn:n<=1000000)(ha:a<n)(d:Array Int)(hd:d.size=n)(jj:Nat)(hj:jj<n):∀(m k:Nat),jj+1-k=m->k<=n->∀(st:St),At (qha i g n a k jj) (put h i g d) st->∃r,ev pg (.code (.going h.length L251_2) st)=some r/\qam (.exit 6) (qha i g n a (Go.Sort.scanUp (fun x=>ltI x d[a]!) d jj k) jj) (put h i g d) r
 | 0,k,hk,hkn,st,h0=>by
  rw[Go.Sort.scanUp,if_neg (by simp;omega)]
  refine qbf (fun f hf=>?_) h0
  have c1:¬(k:Int)<=jj:=by omega
  simp[-qap,-qbb,qaa,exT,qaf,L251_2,qha,c1,hf.ne]
 | m+1,k,hk,hkn,st,h0=>by
  have c1:(k:Int)<=jj:=by omega
  have c2:k<=jj:=by omega
  have m1:=hm.lt
  have m3:=hm.get
  have b1:a<d.size:=by omega
  have b2:k<d.size:=by omega
  have r1:=qao (d:=d) (k:=a) b1
  have r2:=qao (d:=d) (k:=k) b2
  have e:=ev249 d[k]! d[a]!
  have wk:=qab (n:=(k:Int)+1) (by omega) (by omega)
  have m4:=hm.cl d
  rw[Go.Sort.scanUp]
  by_cases l1:ltI d[k]! d[a]! = true
  .rw[l1]at e
   rw[if_pos (by simp[c2,l1])]
   have ih:=@zjb h i g hm n a hn ha d hd jj hj m (k+1) (by omega) (by omega)
   refine qgw (T':=qha i g n a (k+1) jj) (h':=put h i g d) (fun f hf=>?_) ih h0
   generalize d[a]! = y at *
   generalize d[k]! = x at *
   simp[-qap,-qbb,qaa,exT,qaf,L251_2,qha,c1,wk,m1,m3,m4,r1,r2,b1,b2,e,hd.symm,hf.ne]
  .have l1':ltI d[k]! d[a]! = false:=by simpa using l1
   rw[l1']at e
   rw[if_neg (by simp[c2,l1'])]
   refine qbf (fun f hf=>?_) h0
   generalize d[a]! = y at *
   generalize d[k]! = x at *
   simp[-qap,-qbb,qaa,exT,qaf,L251_2,qha,c1,wk,m1,m3,m4,r1,r2,b1,b2,e,hd.symm,hf.ne]
theorem zpi{h:H}{i g:Nat}(hm:Mem h i g)(n a:Nat)(hn:n<=1000000)(ha:a<n)(d:Array Int)(hd:d.size=n)(kk:Nat)(hkk:1<=kk):∀(j:Nat),j<n->∀(st:St),At (qha i g n a kk j) (put h i g d) st->∃r,ev pg (.code (.going h.length L251_1) st)=some r/\qam (.exit 2) (qha i g n a kk (Go.Sort.scanDown (fun x=>!ltI x d[a]!) d kk j)) (put h i g d) r
 | 0,hj,st,h0=>by
  rw[Go.Sort.scanDown]
  refine qbf (fun f hf=>?_) h0
  have c1:¬kk=0:=by omega
  simp[-qap,-qbb,qaa,exT,qaf,L251_1,qha,c1,hf.ne]
 | j+1,hj,st,h0=>by
  rw[Go.Sort.scanDown]
  by_cases c2:kk<=j+1
  .have c1:(kk:Int)<=(j:Int)+1:=by omega
   have m1:=hm.lt
   have m3:=hm.get
   have b1:a<d.size:=by omega
   have b2:j+1<d.size:=by omega
   have p1:(0:Int)<=(j:Int)+1:=by omega
   have r1:=qao (d:=d) (k:=a) b1
   have r2:=qao (d:=d) (k:=j+1) b2
   have e:=ev249 d[j+1]! d[a]!
   have wk:=qab (n:=(j:Int)) (by omega) (by omega)
   have m4:=hm.cl d
   by_cases l1:ltI d[j+1]! d[a]! = true
   .rw[l1]at e
    rw[if_neg (by simp[c2,l1])]
    refine qbf (fun f hf=>?_) h0
    generalize d[a]! = y at *
    generalize d[j+1]! = x at *
    simp[-qap,-qbb,qaa,exT,qaf,L251_1,qha,c1,p1,wk,m1,m3,m4,r1,r2,b1,b2,e,hd.symm,hf.ne]
   .have l1':ltI d[j+1]! d[a]! = false:=by simpa using l1
    rw[l1']at e
    rw[if_pos (by simp[c2,l1'])]
    have ih:=@zpi h i g hm n a hn ha d hd kk hkk j (by omega)
    refine qgw (T':=qha i g n a kk j) (h':=put h i g d) (fun f hf=>?_) ih h0
    generalize d[a]! = y at *
    generalize d[j+1]! = x at *
    simp[-qap,-qbb,qaa,exT,qaf,L251_1,qha,c1,p1,wk,m1,m3,m4,r1,r2,b1,b2,e,hd.symm,hf.ne]
  .rw[if_neg (by simp[c2])]
   refine qbf (fun f hf=>?_) h0
   have c1:¬(kk:Int)<=(j:Int)+1:=by omega
   simp[-qap,-qbb,qaa,exT,qaf,L251_1,qha,c1,hf.ne]
theorem zgq{h:H}{i g:Nat}(hm:Mem h i g)(n a:Nat)(hn:n<=1000000)(ha:a<n)(d:Array Int)(hd:d.size=n)(kk:Nat)(hkk:1<=kk):∀(j:Nat),j<n->∀(st:St),At (qha i g n a kk j) (put h i g d) st->∃r,ev pg (.code (.going h.length L251_3) st)=some r/\qam (.exit 8) (qha i g n a kk (Go.Sort.scanDown (fun x=>!ltI x d[a]!) d kk j)) (put h i g d) r
 | 0,hj,st,h0=>by
  rw[Go.Sort.scanDown]
  refine qbf (fun f hf=>?_) h0
  have c1:¬kk=0:=by omega
  simp[-qap,-qbb,qaa,exT,qaf,L251_3,qha,c1,hf.ne]
 | j+1,hj,st,h0=>by
  rw[Go.Sort.scanDown]
  by_cases c2:kk<=j+1
  .have c1:(kk:Int)<=(j:Int)+1:=by omega
   have m1:=hm.lt
   have m3:=hm.get
   have b1:a<d.size:=by omega
   have b2:j+1<d.size:=by omega
   have p1:(0:Int)<=(j:Int)+1:=by omega
   have r1:=qao (d:=d) (k:=a) b1
   have r2:=qao (d:=d) (k:=j+1) b2
   have e:=ev249 d[j+1]! d[a]!
   have wk:=qab (n:=(j:Int)) (by omega) (by omega)
   have m4:=hm.cl d
   by_cases l1:ltI d[j+1]! d[a]! = true
   .rw[l1]at e
    rw[if_neg (by simp[c2,l1])]
    refine qbf (fun f hf=>?_) h0
    generalize d[a]! = y at *
    generalize d[j+1]! = x at *
    simp[-qap,-qbb,qaa,exT,qaf,L251_3,qha,c1,p1,wk,m1,m3,m4,r1,r2,b1,b2,e,hd.symm,hf.ne]
   .have l1':ltI d[j+1]! d[a]! = false:=by simpa using l1
    rw[l1']at e
    rw[if_pos (by simp[c2,l1'])]
    have ih:=@zgq h i g hm n a hn ha d hd kk hkk j (by omega)
    refine qgw (T':=qha i g n a kk j) (h':=put h i g d) (fun f hf=>?_) ih h0
    generalize d[a]! = y at *
    generalize d[j+1]! = x at *
    simp[-qap,-qbb,qaa,exT,qaf,L251_3,qha,c1,p1,wk,m1,m3,m4,r1,r2,b1,b2,e,hd.symm,hf.ne]
  .rw[if_neg (by simp[c2])]
   refine qbf (fun f hf=>?_) h0
   have c1:¬(kk:Int)<=(j:Int)+1:=by omega
   simp[-qap,-qbb,qaa,exT,qaf,L251_3,qha,c1,hf.ne]
theorem zfx{h:H}{i g:Nat}(hm:Mem h i g)(n a:Nat)(hn:n<=1000000)(ha:a<n)(d:Array Int)(hd:d.size=n)(jj:Nat)(hj:jj<n):∀(m k:Nat),jj+1-k=m->k<=n->∀(st:St),At (qoa i g n a k jj) (put h i g d) st->∃r,ev pg (.code (.going h.length L250_0) st)=some r/\qam (.exit 2) (qoa i g n a (Go.Sort.scanUp (fun x=>!ltI d[a]! x) d jj k) jj) (put h i g d) r
 | 0,k,hk,hkn,st,h0=>by
  rw[Go.Sort.scanUp,if_neg (by simp;omega)]
  refine qbf (fun f hf=>?_) h0
  have c1:¬(k:Int)<=jj:=by omega
  simp[-qap,-qbb,qaa,exT,qaf,L250_0,qoa,c1,hf.ne]
 | m+1,k,hk,hkn,st,h0=>by
  have c1:(k:Int)<=jj:=by omega
  have c2:k<=jj:=by omega
  have m1:=hm.lt
  have m3:=hm.get
  have b1:a<d.size:=by omega
  have b2:k<d.size:=by omega
  have r1:=qao (d:=d) (k:=a) b1
  have r2:=qao (d:=d) (k:=k) b2
  have e:=ev249 d[a]! d[k]!
  have wk:=qab (n:=(k:Int)+1) (by omega) (by omega)
  have m4:=hm.cl d
  rw[Go.Sort.scanUp]
  by_cases l1:ltI d[a]! d[k]! = true
  .rw[l1]at e
   rw[if_neg (by simp[c2,l1])]
   refine qbf (fun f hf=>?_) h0
   generalize d[a]! = y at *
   generalize d[k]! = x at *
   simp[-qap,-qbb,qaa,exT,qaf,L250_0,qoa,c1,wk,m1,m3,m4,r1,r2,b1,b2,e,hd.symm,hf.ne]
  .have l1':ltI d[a]! d[k]! = false:=by simpa using l1
   rw[l1']at e
   rw[if_pos (by simp[c2,l1'])]
   have ih:=@zfx h i g hm n a hn ha d hd jj hj m (k+1) (by omega) (by omega)
   refine qgw (T':=qoa i g n a (k+1) jj) (h':=put h i g d) (fun f hf=>?_) ih h0
   generalize d[a]! = y at *
   generalize d[k]! = x at *
   simp[-qap,-qbb,qaa,exT,qaf,L250_0,qoa,c1,wk,m1,m3,m4,r1,r2,b1,b2,e,hd.symm,hf.ne]
theorem zes{h:H}{i g:Nat}(hm:Mem h i g)(n a:Nat)(hn:n<=1000000)(ha:a<n)(d:Array Int)(hd:d.size=n)(kk:Nat)(hkk:1<=kk):∀(j:Nat),j<n->∀(st:St),At (qoa i g n a kk j) (put h i g d) st->∃r,ev pg (.code (.going h.length L250_1) st)=some r/\qam (.exit 4) (qoa i g n a kk (Go.Sort.scanDown (fun x=>ltI d[a]! x) d kk j)) (put h i g d) r
 | 0,hj,st,h0=>by
  rw[Go.Sort.scanDown]
  refine qbf (fun f hf=>?_) h0
  have c1:¬kk=0:=by omega
  simp[-qap,-qbb,qaa,exT,qaf,L250_1,qoa,c1,hf.ne]
 | j+1,hj,st,h0=>by
  rw[Go.Sort.scanDown]
  by_cases c2:kk<=j+1
  .have c1:(kk:Int)<=(j:Int)+1:=by omega
   have m1:=hm.lt
   have m3:=hm.get
   have b1:a<d.size:=by omega
   have b2:j+1<d.size:=by omega
   have p1:(0:Int)<=(j:Int)+1:=by omega
   have r1:=qao (d:=d) (k:=a) b1
   have r2:=qao (d:=d) (k:=j+1) b2
   have e:=ev249 d[a]! d[j+1]!
   have wk:=qab (n:=(j:Int)) (by omega) (by omega)
   have m4:=hm.cl d
   by_cases l1:ltI d[a]! d[j+1]! = true
   .rw[l1]at e
    rw[if_pos (by simp[c2,l1])]
    have ih:=@zes h i g hm n a hn ha d hd kk hkk j (by omega)
    refine qgw (T':=qoa i g n a kk j) (h':=put h i g d) (fun f hf=>?_) ih h0
    generalize d[a]! = y at *
    generalize d[j+1]! = x at *
    simp[-qap,-qbb,qaa,exT,qaf,L250_1,qoa,c1,p1,wk,m1,m3,m4,r1,r2,b1,b2,e,hd.symm,hf.ne]
   .have l1':ltI d[a]! d[j+1]! = false:=by simpa using l1
    rw[l1']at e
    rw[if_neg (by simp[c2,l1'])]
    refine qbf (fun f hf=>?_) h0
    generalize d[a]! = y at *
    generalize d[j+1]! = x at *
    simp[-qap,-qbb,qaa,exT,qaf,L250_1,qoa,c1,p1,wk,m1,m3,m4,r1,r2,b1,b2,e,hd.symm,hf.ne]
  .rw[if_neg (by simp[c2])]
   refine qbf (fun f hf=>?_) h0
   have c1:¬(kk:Int)<=(j:Int)+1:=by omega
   simp[-qap,-qbb,qaa,exT,qaf,L250_1,qoa,c1,hf.ne]
end Go.Proofs.YtddeacahiilikaaGreat
