/- Sorting in place: the partitions. Sorting in place: the partitions, as functions. -/
import Derived.Test.YtddeacahiilikaaGreatRSo5
set_option linter.all false
namespace Go.Proofs.YtddeacahiilikaaGreat
open Go Go.Am Go.Proofs
set_option maxRecDepth 100000
theorem qnu(p:Int->Bool)(d:Array Int)(j:Nat):∀(m i:Nat),j+1-i=m->i<=Go.Sort.scanUp p d j i/\(Go.Sort.scanUp p d j i<=j+1\/Go.Sort.scanUp p d j i=i)
 | 0,i,hm=>by
  rw[Go.Sort.scanUp,if_neg (by simp;omega)]
  exact⟨jD _,.inr rfl⟩
 | m+1,i,hm=>by
  rw[Go.Sort.scanUp]
  split
  .have:=qnu p d j m (i+1) (by omega)
   omega
  .exact⟨jD _,.inr rfl⟩
theorem qji(p:Int->Bool)(d:Array Int)(i:Nat):∀(j:Nat),Go.Sort.scanDown p d i j<=j
 | 0=>by rw[Go.Sort.scanDown];exact jD _
 | j+1=>by
  rw[Go.Sort.scanDown]
  split
  .have:=qji p d i j
   omega
  .exact jD _
def q3y(i g n a k:Nat):Tm:=[some (.sl i g 1 0 n),some (num a),none,none,none,none,none,none,none,none,none,some (num k)]++List.replicate 156 none
theorem qnh(a:Nat):∀(m k j:Nat) (d:Array Int),j+1-k<=m->(Go.Sort.partLoop ltI a k j d).2.size=d.size
 | 0,k,j,d,hm=>by
  rw[Go.Sort.partLoop]
  split
  .rfl
  .rw[dif_neg (by omega)]
 | m+1,k,j,d,hm=>by
  rw[Go.Sort.partLoop]
  split
  .rfl
  .split
   .rw[qnh a m _ _ _ (by omega)];exact qch _ _ _
   .rfl
set_option maxHeartbeats 1000000 in
theorem zsc{h:H}{i g:Nat}(hm:Mem h i g)(n a:Nat)(hn:n<=1000000):∀(m k j:Nat) (d:Array Int),j+1-k<=m->a<k->k<=n->j<n->d.size=n->∀(st:St),At (qfv i g n a k j) (put h i g d) st->∃r,ev pg (.code (.going h.length L251_4) st)=some r/\qaj (.exit 4) (q3y i g n a (Go.Sort.partLoop ltI a k j d).1) (put h i g (Go.Sort.partLoop ltI a k j d).2) r/\(Go.Sort.partLoop ltI a k j d).1<=j:=by
 intro m
 induction m with
 | zero =>
  intro k j d hmm hak hk hj hd st h0
  have hk1:j<k:=by omega
  have eu:Go.Sort.scanUp (fun x=>ltI x d[a]!) d j k=k:=by rw[Go.Sort.scanUp,if_neg (by simp;omega)]
  have ed:∀(jj:Nat),jj<k->Go.Sort.scanDown (fun x=>!ltI x d[a]!) d k jj=jj:=by
   intro jj hjj
   cases jj with
   | zero=>rfl
   | succ jj=>rw[Go.Sort.scanDown,if_neg (by simp;omega)]
  have hu:=q9f hm n a hn (by omega) d hd j hj _ k rfl hk
  have hdn:=q9g hm n a hn (by omega) d hd k (by omega) j hj
  rw[eu]at hu
  rw[ed j hk1]at hdn
  rw[Go.Sort.partLoop]
  rw[eu,ed j hk1,if_pos (by omega)]
  refine qay (fun f hf=>?_) h0
  have c1:(j:Int)<k:=by omega
  have m4:=hm.cl d
  simp[-qaq,-qbc,qaa,exT,qae,L251_4,qfv,qaf,hf.ne]
  generalize hr:ev pg (.code (.going _ L251_2) _)=o
  obtain⟨r,rfl,f2,hf2,rfl⟩:∃r,o=some r/\_:=by rw[<-hr];exact hu _ (by simp[qfv,hf.ne])
  clear hr
  simp[-qaq,-qbc,qfv,hf2.ne]
  generalize hr:ev pg (.code (.going _ L251_3) _)=o
  obtain⟨r,rfl,f3,hf3,rfl⟩:∃r,o=some r/\_:=by rw[<-hr];exact hdn _ (by simp[qfv,hf2.ne])
  clear hr
  simp[-qaq,-qbc,qfv,q3y,c1,hm.lt,hf3.ne]
 | succ m ih =>
  intro k j d hmm hak hk hj hd st h0
  have hu:=q9f hm n a hn (by omega) d hd j hj _ k rfl hk
  obtain⟨u1,u2⟩:=qnu (fun x=>ltI x d[a]!) d j _ k rfl
  rw[Go.Sort.partLoop]
  generalize Go.Sort.scanUp (fun x=>ltI x d[a]!) d j k=i2 at *
  have hdn:=q9g hm n a hn (by omega) d hd i2 (by omega) j hj
  have d1:=qji (fun x=>!ltI x d[a]!) d i2 j
  generalize Go.Sort.scanDown (fun x=>!ltI x d[a]!) d i2 j=j2 at *
  have m4:=hm.cl
  by_cases c:i2>j2
  .rw[if_pos c]
   refine qay (fun f hf=>?_) h0
   have c1:(j2:Int)<i2:=by omega
   have hin:j2<=j:=by omega
   simp[-qaq,-qbc,qaa,exT,qae,L251_4,qfv,qaf,hf.ne]
   generalize hr:ev pg (.code (.going _ L251_2) _)=o
   obtain⟨r,rfl,f2,hf2,rfl⟩:∃r,o=some r/\_:=by rw[<-hr];exact hu _ (by simp[qfv,hf.ne])
   clear hr
   simp[-qaq,-qbc,qfv,hf2.ne]
   generalize hr:ev pg (.code (.going _ L251_3) _)=o
   obtain⟨r,rfl,f3,hf3,rfl⟩:∃r,o=some r/\_:=by rw[<-hr];exact hdn _ (by simp[qfv,hf2.ne])
   clear hr
   simp[-qaq,-qbc,qfv,q3y,c1,hm.lt,hin,hf3.ne]
  .rw[if_neg c,dif_pos (by omega)]
   obtain⟨jp,rfl⟩:∃jp,j2=jp+1:=⟨j2-1,by omega⟩
   rw[Nat.add_sub_cancel]
   change ∃r,_/\qaj _ (q3y i g n a (Go.Sort.partLoop ltI a (i2+1) jp (swI d i2 (jp+1))).1) (put h i g (Go.Sort.partLoop ltI a (i2+1) jp (swI d i2 (jp+1))).2) r/\(Go.Sort.partLoop ltI a (i2+1) jp (swI d i2 (jp+1))).1<=_
   have c1:¬(jp:Int)+1<i2:=by omega
   have m1:=hm.lt
   have m2:=hm.set
   have m3:=hm.get
   have b1:i2<d.size:=by omega
   have b2:jp+1<d.size:=by omega
   have p1:(0:Int)<=(jp:Int)+1:=by omega
   have r1:=qal (d:=d) (k:=i2) b1
   have r2:=qal (d:=d) (k:=jp+1) b2
   have wa:=qab (n:=(i2:Int)+1) (by omega) (by omega)
   have wb:=qab (n:=(jp:Int)) (by omega) (by omega)
   have hsw:(d.setIfInBounds i2 d[jp+1]!).setIfInBounds (jp+1) d[i2]! = swI d i2 (jp+1):=rfl
   obtain⟨z,r3⟩:=qbx (d.setIfInBounds i2 d[jp+1]!) (jp+1)
   have ih':=ih (i2+1) jp (swI d i2 (jp+1)) (by omega) (by omega) (by omega) (by omega) (by rw[qch];exact hd)
   have ih'':∀st,At (qfv i g n a (i2+1) jp) (put h i g (swI d i2 (jp+1))) st->∃r,ev pg (.code (.going h.length L251_4) st)=some r/\qaj (.exit 4) (q3y i g n a (Go.Sort.partLoop ltI a (i2+1) jp (swI d i2 (jp+1))).1) (put h i g (Go.Sort.partLoop ltI a (i2+1) jp (swI d i2 (jp+1))).2) r/\(Go.Sort.partLoop ltI a (i2+1) jp (swI d i2 (jp+1))).1<=j:=fun st hst=>by
    obtain⟨r,e1,e2,e3⟩:=ih' st hst
    exact⟨r,e1,e2,by omega⟩
   refine qfy (T':=qfv i g n a (i2+1) jp) (h':=put h i g (swI d i2 (jp+1))) (fun f hf=>?_) ih'' h0
   generalize swI d i2 (jp+1)=d' at *
   generalize d[jp+1]! = y at *
   generalize d[i2]! = x at *
   simp[-qaq,-qbc,qaa,exT,qae,L251_4,qfv,qaf,hf.ne]
   generalize hr:ev pg (.code (.going _ L251_2) _)=o
   obtain⟨r,rfl,f2,hf2,rfl⟩:∃r,o=some r/\_:=by rw[<-hr];exact hu _ (by simp[qfv,hf.ne])
   clear hr
   simp[-qaq,-qbc,qfv,hf2.ne]
   generalize hr:ev pg (.code (.going _ L251_3) _)=o
   obtain⟨r,rfl,f3,hf3,rfl⟩:∃r,o=some r/\_:=by rw[<-hr];exact hdn _ (by simp[qfv,hf2.ne])
   clear hr
   simp[-qaq,-qbc,qaa,exT,qae,qfv,c1,p1,wa,wb,m1,m2,m3,m4,r1,r2,r3,b1,b2,qbm,hsw,hd.symm,hf3.ne]
def q6c(k:Nat):Tm:=[none,none,none,none,none,none,none,none,none,some (num k)]++List.replicate 74 none
set_option maxHeartbeats 1000000 in
theorem zsb{h:H}{i g:Nat}(hm:Mem h i g)(n a:Nat)(hn:n<=1000000):∀(m k j:Nat) (d:Array Int),j+1-k<=m->a<k->k<=n->j<n->d.size=n->∀(st:St),At (qlw i g n a k j) (put h i g d) st->∃r,ev pg (.code (.going h.length L250_2) st)=some r/\qaj (.exit 0) (q6c (Go.Sort.partEqLoop ltI a k j d).1) (put h i g (Go.Sort.partEqLoop ltI a k j d).2) r/\(Go.Sort.partEqLoop ltI a k j d).1<=n:=by
 intro m
 induction m with
 | zero =>
  intro k j d hmm hak hk hj hd st h0
  have hk1:j<k:=by omega
  have eu:Go.Sort.scanUp (fun x=>!ltI d[a]! x) d j k=k:=by rw[Go.Sort.scanUp,if_neg (by simp;omega)]
  have ed:∀(jj:Nat),jj<k->Go.Sort.scanDown (fun x=>ltI d[a]! x) d k jj=jj:=by
   intro jj hjj
   cases jj with
   | zero=>rfl
   | succ jj=>rw[Go.Sort.scanDown,if_neg (by simp;omega)]
  have hu:=q9d hm n a hn (by omega) d hd j hj _ k rfl hk
  have hdn:=q9e hm n a hn (by omega) d hd k (by omega) j hj
  rw[eu]at hu
  rw[ed j hk1]at hdn
  rw[Go.Sort.partEqLoop]
  rw[eu,ed j hk1,if_pos (by omega)]
  refine qay (fun f hf=>?_) h0
  have c1:(j:Int)<k:=by omega
  have m4:=hm.cl d
  simp[-qaq,-qbc,qaa,exT,qae,L250_2,qlw,qaf,hf.ne]
  generalize hr:ev pg (.code (.going _ L250_0) _)=o
  obtain⟨r,rfl,f2,hf2,rfl⟩:∃r,o=some r/\_:=by rw[<-hr];exact hu _ (by simp[qlw,hf.ne])
  clear hr
  simp[-qaq,-qbc,qlw,hf2.ne]
  generalize hr:ev pg (.code (.going _ L250_1) _)=o
  obtain⟨r,rfl,f3,hf3,rfl⟩:∃r,o=some r/\_:=by rw[<-hr];exact hdn _ (by simp[qlw,hf2.ne])
  clear hr
  simp[-qaq,-qbc,qlw,q6c,c1,hm.lt,hk,hf3.ne]
 | succ m ih =>
  intro k j d hmm hak hk hj hd st h0
  have hu:=q9d hm n a hn (by omega) d hd j hj _ k rfl hk
  obtain⟨u1,u2⟩:=qnu (fun x=>!ltI d[a]! x) d j _ k rfl
  rw[Go.Sort.partEqLoop]
  generalize Go.Sort.scanUp (fun x=>!ltI d[a]! x) d j k=i2 at *
  have hdn:=q9e hm n a hn (by omega) d hd i2 (by omega) j hj
  have d1:=qji (fun x=>ltI d[a]! x) d i2 j
  generalize Go.Sort.scanDown (fun x=>ltI d[a]! x) d i2 j=j2 at *
  have m4:=hm.cl
  by_cases c:i2>j2
  .rw[if_pos c]
   refine qay (fun f hf=>?_) h0
   have c1:(j2:Int)<i2:=by omega
   have hin:i2<=n:=by omega
   simp[-qaq,-qbc,qaa,exT,qae,L250_2,qlw,qaf,hf.ne]
   generalize hr:ev pg (.code (.going _ L250_0) _)=o
   obtain⟨r,rfl,f2,hf2,rfl⟩:∃r,o=some r/\_:=by rw[<-hr];exact hu _ (by simp[qlw,hf.ne])
   clear hr
   simp[-qaq,-qbc,qlw,hf2.ne]
   generalize hr:ev pg (.code (.going _ L250_1) _)=o
   obtain⟨r,rfl,f3,hf3,rfl⟩:∃r,o=some r/\_:=by rw[<-hr];exact hdn _ (by simp[qlw,hf2.ne])
   clear hr
   simp[-qaq,-qbc,qlw,q6c,c1,hm.lt,hin,hf3.ne]
  .rw[if_neg c,dif_pos (by omega)]
   obtain⟨jp,rfl⟩:∃jp,j2=jp+1:=⟨j2-1,by omega⟩
   rw[Nat.add_sub_cancel]
   change ∃r,_/\qaj _ (q6c (Go.Sort.partEqLoop ltI a (i2+1) jp (swI d i2 (jp+1))).1) (put h i g (Go.Sort.partEqLoop ltI a (i2+1) jp (swI d i2 (jp+1))).2) r/\(Go.Sort.partEqLoop ltI a (i2+1) jp (swI d i2 (jp+1))).1<=_
   have c1:¬(jp:Int)+1<i2:=by omega
   have m1:=hm.lt
   have m2:=hm.set
   have m3:=hm.get
   have b1:i2<d.size:=by omega
   have b2:jp+1<d.size:=by omega
   have p1:(0:Int)<=(jp:Int)+1:=by omega
   have r1:=qal (d:=d) (k:=i2) b1
   have r2:=qal (d:=d) (k:=jp+1) b2
   have wa:=qab (n:=(i2:Int)+1) (by omega) (by omega)
   have wb:=qab (n:=(jp:Int)) (by omega) (by omega)
   have hsw:(d.setIfInBounds i2 d[jp+1]!).setIfInBounds (jp+1) d[i2]! = swI d i2 (jp+1):=rfl
   obtain⟨z,r3⟩:=qbx (d.setIfInBounds i2 d[jp+1]!) (jp+1)
   have ih':=ih (i2+1) jp (swI d i2 (jp+1)) (by omega) (by omega) (by omega) (by omega) (by rw[qch];exact hd)
   refine qfy (T':=qlw i g n a (i2+1) jp) (h':=put h i g (swI d i2 (jp+1))) (fun f hf=>?_) ih' h0
   generalize swI d i2 (jp+1)=d' at *
   generalize d[jp+1]! = y at *
   generalize d[i2]! = x at *
   simp[-qaq,-qbc,qaa,exT,qae,L250_2,qlw,qaf,hf.ne]
   generalize hr:ev pg (.code (.going _ L250_0) _)=o
   obtain⟨r,rfl,f2,hf2,rfl⟩:∃r,o=some r/\_:=by rw[<-hr];exact hu _ (by simp[qlw,hf.ne])
   clear hr
   simp[-qaq,-qbc,qlw,hf2.ne]
   generalize hr:ev pg (.code (.going _ L250_1) _)=o
   obtain⟨r,rfl,f3,hf3,rfl⟩:∃r,o=some r/\_:=by rw[<-hr];exact hdn _ (by simp[qlw,hf2.ne])
   clear hr
   simp[-qaq,-qbc,qaa,exT,qae,qlw,c1,p1,wa,wb,m1,m2,m3,m4,r1,r2,r3,b1,b2,qbm,hsw,hd.symm,hf3.ne]
theorem qsu:@Go.Sort.swp Int _=swI:=rfl
set_option maxHeartbeats 1000000 in
theorem ev251{h:H}{i:Nat}(hi:i<h.length)(hc:qdb h)(g:Nat)(d:Array Int)(a b pv:Nat)(hb:b<=d.size)(hab:a<b)(hp:pv<d.size)(hn:d.size<=1000000):ev pg (.call (.fn 251 [] []) [.sl i g 1 0 d.size,num a,num b,num pv] (put h i g d))=some { v:=.tup [num (Go.Sort.partition ltI d a b pv).1,.bool (Go.Sort.partition ltI d a b pv).2.1],st:=⟨[],put h i g (Go.Sort.partition ltI d a b pv).2.2⟩ }:=by
 have hm:=qgu hi hc g
 have m1:=hm.lt
 have m2:=hm.set
 have m3:=hm.get
 have m4:=hm.cl
 have m5:=hm.ck
 have b1:a<d.size:=by omega
 have r1:=qal (d:=d) (k:=a) b1
 have r2:=qal (d:=d) (k:=pv) hp
 have hsw:(d.setIfInBounds a d[pv]!).setIfInBounds pv d[a]! = swI d a pv:=rfl
 obtain⟨z,r3⟩:=qbx (d.setIfInBounds a d[pv]!) pv
 obtain⟨b,rfl⟩:∃b',b=b'+1:=⟨b-1,by omega⟩
 have wa:=qab (n:=(a:Int)+1) (by omega) (by omega)
 have wb:=qab (n:=(b:Int)) (by omega) (by omega)
 unfold Go.Sort.partition
 simp only[Nat.add_sub_cancel,qsu]
 have hs1:(swI d a pv).size=d.size:=qch _ _ _
 generalize hd1:swI d a pv=d1 at *
 have hu:=zfn hm d.size a hn b1 d1 hs1 b (by omega) _ (a+1) rfl (by omega)
 obtain⟨u1,u2⟩:=qnu (fun x=>ltI x d1[a]!) d1 b _ (a+1) rfl
 generalize Go.Sort.scanUp (fun x=>ltI x d1[a]!) d1 b (a+1)=i2 at *
 have hdn:=zfo hm d.size a hn b1 d1 hs1 i2 (by omega) b (by omega)
 have e1:=qji (fun x=>!ltI x d1[a]!) d1 i2 b
 generalize Go.Sort.scanDown (fun x=>!ltI x d1[a]!) d1 i2 b=j2 at *
 by_cases c:i2>j2
 .simp only[if_pos c]
  have c1:(j2:Int)<i2:=by omega
  have hsj:(d1.setIfInBounds j2 d1[a]!).setIfInBounds a d1[j2]! = swI d1 j2 a:=rfl
  change _=(some { v:=.tup [num j2,.bool true],st:=⟨[],put h i g (swI d1 j2 a)⟩ }:Option Am.R)
  have b2:a<d1.size:=by omega
  have b3:j2<d1.size:=by omega
  have b2':a<d.size:=by omega
  have b3':j2<d.size:=by omega
  have q1:=qal (d:=d1) (k:=a) b2
  have q2:=qal (d:=d1) (k:=j2) b3
  obtain⟨z2,q3⟩:=qbx (d1.setIfInBounds j2 d1[a]!) a
  generalize swI d1 j2 a=d2 at *
  generalize d[a]! = x at *
  generalize d[pv]! = y at *
  generalize d1[a]! = x1 at *
  generalize d1[j2]! = y1 at *
  rw[qac,pg251]
  simp[-qaq,-qbc,qaa,exT,qae,ir251,wa,wb,m1,m2,m3,m4,r1,r2,r3,b1,hp,qbm,hsw,qaf]
  generalize hr:ev pg (.code (.going _ L251_0) _)=o
  obtain⟨r,rfl,f2,hf2,rfl⟩:∃r,o=some r/\_:=by rw[<-hr];exact hu _ (by simp[qfv])
  clear hr
  simp[-qaq,-qbc,qfv,hf2.ne]
  generalize hr:ev pg (.code (.going _ L251_1) _)=o
  obtain⟨r,rfl,f3,hf3,rfl⟩:∃r,o=some r/\_:=by rw[<-hr];exact hdn _ (by simp[qfv,hf2.ne])
  clear hr
  simp[-qaq,-qbc,qaa,exT,qae,qfv,c1,m1,m2,m3,m4,m5,q1,q2,q3,b2,b3,b2',b3',qbm,hsj,hs1]
 .simp only[if_neg c]
  obtain⟨jp,rfl⟩:∃jp,j2=jp+1:=⟨j2-1,by omega⟩
  have c1:¬(jp:Int)+1<i2:=by omega
  have hsj:(d1.setIfInBounds i2 d1[jp+1]!).setIfInBounds (jp+1) d1[i2]! = swI d1 i2 (jp+1):=rfl
  simp only[Nat.add_sub_cancel]
  change _=(some { v:=.tup [num (Go.Sort.partLoop ltI a (i2+1) jp (swI d1 i2 (jp+1))).1,.bool false],st:=⟨[],put h i g (swI (Go.Sort.partLoop ltI a (i2+1) jp (swI d1 i2 (jp+1))).2 (Go.Sort.partLoop ltI a (i2+1) jp (swI d1 i2 (jp+1))).1 a)⟩ }:Option Am.R)
  have b2:i2<d1.size:=by omega
  have b3:jp+1<d1.size:=by omega
  have b2':i2<d.size:=by omega
  have b3':jp+1<d.size:=by omega
  have p1:(0:Int)<=(jp:Int)+1:=by omega
  have wi:=qab (n:=(i2:Int)+1) (by omega) (by omega)
  have wj:=qab (n:=(jp:Int)) (by omega) (by omega)
  have q1:=qal (d:=d1) (k:=i2) b2
  have q2:=qal (d:=d1) (k:=jp+1) b3
  obtain⟨z2,q3⟩:=qbx (d1.setIfInBounds i2 d1[jp+1]!) (jp+1)
  have hs2:(swI d1 i2 (jp+1)).size=d.size:=by rw[qch];exact hs1
  generalize swI d1 i2 (jp+1)=d2 at *
  have hlp:=zsc hm d.size a hn _ (i2+1) jp d2 (jD _) (by omega) (by omega) (by omega) hs2
  have hs3:=qnh a _ (i2+1) jp d2 (jD _)
  generalize Go.Sort.partLoop ltI a (i2+1) jp d2=t at *
  obtain⟨k,d3⟩:=t
  simp only at hlp hs3 ⊢
  generalize d[a]! = x at *
  generalize d[pv]! = y at *
  generalize d1[i2]! = x1 at *
  generalize d1[jp+1]! = y1 at *
  rw[qac,pg251]
  simp[-qaq,-qbc,qaa,exT,qae,ir251,wa,wb,m1,m2,m3,m4,r1,r2,r3,b1,hp,qbm,hsw,qaf]
  generalize hr:ev pg (.code (.going _ L251_0) _)=o
  obtain⟨r,rfl,f2,hf2,rfl⟩:∃r,o=some r/\_:=by rw[<-hr];exact hu _ (by simp[qfv])
  clear hr
  simp[-qaq,-qbc,qfv,hf2.ne]
  generalize hr:ev pg (.code (.going _ L251_1) _)=o
  obtain⟨r,rfl,f3,hf3,rfl⟩:∃r,o=some r/\_:=by rw[<-hr];exact hdn _ (by simp[qfv,hf2.ne])
  clear hr
  simp[-qaq,-qbc,qaa,exT,qae,qfv,c1,p1,wi,wj,m1,m2,m3,m4,q1,q2,q3,b2,b3,b2',b3',qbm,hsj,hs1,hf3.ne]
  generalize hr:ev pg (.code (.going _ L251_4) _)=o
  obtain⟨r,rfl,⟨f4,hf4,rfl⟩,hk⟩:∃r,o=some r/\_:=by rw[<-hr];exact hlp _ (by simp[qfv,hf3.ne])
  clear hr
  have v1:k<d3.size:=by omega
  have v2:a<d3.size:=by omega
  have v1':k<d.size:=by omega
  have hs4:d3.size=d.size:=by omega
  have s1:=qal (d:=d3) (k:=a) v2
  have s2:=qal (d:=d3) (k:=k) v1
  have hsk:(d3.setIfInBounds k d3[a]!).setIfInBounds a d3[k]! = swI d3 k a:=rfl
  obtain⟨z3,s3⟩:=qbx (d3.setIfInBounds k d3[a]!) a
  generalize swI d3 k a=d4 at *
  generalize d3[a]! = x2 at *
  generalize d3[k]! = y2 at *
  simp[-qaq,-qbc,qaa,exT,qae,q3y,m1,m2,m3,m4,m5,s1,s2,s3,v1,v2,v1',b1,hs4,qbm,hsk]
set_option maxHeartbeats 1000000 in
theorem ev250{h:H}{i:Nat}(hi:i<h.length)(hc:qdb h)(g:Nat)(d:Array Int)(a b pv:Nat)(hb:b<=d.size)(hab:a<b)(hp:pv<d.size)(hn:d.size<=1000000):ev pg (.call (.fn 250 [] []) [.sl i g 1 0 d.size,num a,num b,num pv] (put h i g d))=some { v:=num (Go.Sort.partitionEqual ltI d a b pv).1,st:=⟨[],put h i g (Go.Sort.partitionEqual ltI d a b pv).2⟩ }:=by
 have hm:=qgu hi hc g
 have m1:=hm.lt
 have m2:=hm.set
 have m3:=hm.get
 have m4:=hm.cl
 have m5:=hm.ck
 have b1:a<d.size:=by omega
 have r1:=qal (d:=d) (k:=a) b1
 have r2:=qal (d:=d) (k:=pv) hp
 have hsw:(d.setIfInBounds a d[pv]!).setIfInBounds pv d[a]! = swI d a pv:=rfl
 obtain⟨z,r3⟩:=qbx (d.setIfInBounds a d[pv]!) pv
 obtain⟨b,rfl⟩:∃b',b=b'+1:=⟨b-1,by omega⟩
 have wa:=qab (n:=(a:Int)+1) (by omega) (by omega)
 have wb:=qab (n:=(b:Int)) (by omega) (by omega)
 unfold Go.Sort.partitionEqual
 rw[Nat.add_sub_cancel]
 change _=(some { v:=num (Go.Sort.partEqLoop ltI a (a+1) b (swI d a pv)).1,st:=⟨[],put h i g (Go.Sort.partEqLoop ltI a (a+1) b (swI d a pv)).2⟩ }:Option Am.R)
 have hs1:(swI d a pv).size=d.size:=qch _ _ _
 generalize hd1:swI d a pv=d1 at *
 have hlp:=zsb hm d.size a hn _ (a+1) b d1 (jD _) (by omega) (by omega) (by omega) hs1
 generalize Go.Sort.partEqLoop ltI a (a+1) b d1=t at *
 obtain⟨k,d3⟩:=t
 simp only at hlp ⊢
 generalize d[a]! = x at *
 generalize d[pv]! = y at *
 rw[qac,pg250]
 simp[-qaq,-qbc,qaa,exT,qae,ir250,wa,wb,m1,m2,m3,m4,r1,r2,r3,b1,hp,qbm,hsw,qaf]
 generalize hr:ev pg (.code (.going _ L250_2) _)=o
 obtain⟨r,rfl,⟨f4,hf4,rfl⟩,hk⟩:∃r,o=some r/\_:=by rw[<-hr];exact hlp _ (by simp[qlw])
 clear hr
 simp[-qaq,-qbc,q6c,m1,m5]
end Go.Proofs.YtddeacahiilikaaGreat
