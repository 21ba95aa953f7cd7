/- Sorting in place: the partitions. Sorting in place: the partitions, as functions. Sorting in place: partial insertion. -/
import Derived.Test.YtlhciedghbmjjaaGreatSo5
set_option linter.all false
namespace Go.Proofs.YtlhciedghbmjjaaGreat
open Go Go.Am Go.Proofs
set_option maxRecDepth 100000
theorem qoo(p:Int->Bool)(d:Array Int)(j:Nat):∀(m i:Nat),j+1-i=m->i<=Go.Sort.scanUp p d j i/\(Go.Sort.scanUp p d j i<=j+1\/Go.Sort.scanUp p d j i=i)
 | 0,i,hm=>by
  rw[Go.Sort.scanUp,if_neg (by simp;omega)]
  exact⟨jD _,.inr rfl⟩
 | m+1,i,hm=>by
  rw[Go.Sort.scanUp]
  split
  .have:=qoo p d j m (i+1) (by omega)
   omega
  .exact⟨jD _,.inr rfl⟩
theorem qjn(p:Int->Bool)(d:Array Int)(i:Nat):∀(j:Nat),Go.Sort.scanDown p d i j<=j
 | 0=>by rw[Go.Sort.scanDown];exact jD _
 | j+1=>by
  rw[Go.Sort.scanDown]
  split
  .have:=qjn p d i j
   omega
  .exact jD _
def q8l(i g n a k:Nat):Tm:=[some (.sl i g 1 0 n),some (num a),none,none,none,none,none,none,none,none,none,some (num k)]++List.replicate 156 none
theorem qow(a:Nat):∀(m k j:Nat) (d:Array Int),j+1-k<=m->(Go.Sort.partLoop ltI a k j d).2.size=d.size
 | 0,k,j,d,hm=>by
  rw[Go.Sort.partLoop]
  split
  .rfl
  .rw[dif_neg (by omega)]
 | m+1,k,j,d,hm=>by
  rw[Go.Sort.partLoop]
  split
  .rfl
  .split
   .rw[qow a m _ _ _ (by omega)];exact qcs _ _ _
   .rfl
set_option maxHeartbeats 1000000 in
theorem zzq{h:H}{i g:Nat}(hm:Mem h i g)(n a:Nat)(hn:n<=1000000):∀(m k j:Nat) (d:Array Int),j+1-k<=m->a<k->k<=n->j<n->d.size=n->∀(st:St),At (qgu i g n a k j) (put h i g d) st->∃r,ev pg (.code (.going h.length L141_4) st)=some r/\qag (.exit 4) (q8l i g n a (Go.Sort.partLoop ltI a k j d).1) (put h i g (Go.Sort.partLoop ltI a k j d).2) r/\(Go.Sort.partLoop ltI a k j d).1<=j:=by
 intro m
 induction m with
 | zero =>
  intro k j d hmm hak hk hj hd st h0
  have hk1:j<k:=by omega
  have eu:Go.Sort.scanUp (fun x=>ltI x d[a]!) d j k=k:=by rw[Go.Sort.scanUp,if_neg (by simp;omega)]
  have ed:∀(jj:Nat),jj<k->Go.Sort.scanDown (fun x=>!ltI x d[a]!) d k jj=jj:=by
   intro jj hjj
   cases jj with
   | zero=>rfl
   | succ jj=>rw[Go.Sort.scanDown,if_neg (by simp;omega)]
  have hu:=zfd hm n a hn (by omega) d hd j hj _ k rfl hk
  have hdn:=zcp hm n a hn (by omega) d hd k (by omega) j hj
  rw[eu]at hu
  rw[ed j hk1]at hdn
  rw[Go.Sort.partLoop]
  rw[eu,ed j hk1,if_pos (by omega)]
  refine qbe (fun f hf=>?_) h0
  have c1:(j:Int)<k:=by omega
  have m4:=hm.cl d
  simp[-qaq,-qav,qaa,exT,qae,L141_4,qgu,qaf,hf.ne]
  generalize hr:ev pg (.code (.going _ L141_2) _)=o
  obtain⟨r,rfl,f2,hf2,rfl⟩:∃r,o=some r/\_:=by rw[<-hr];exact hu _ (by simp[qgu,hf.ne])
  clear hr
  simp[-qaq,-qav,qgu,hf2.ne]
  generalize hr:ev pg (.code (.going _ L141_3) _)=o
  obtain⟨r,rfl,f3,hf3,rfl⟩:∃r,o=some r/\_:=by rw[<-hr];exact hdn _ (by simp[qgu,hf2.ne])
  clear hr
  simp[-qaq,-qav,qgu,q8l,c1,hm.lt,hf3.ne]
 | succ m ih =>
  intro k j d hmm hak hk hj hd st h0
  have hu:=zfd hm n a hn (by omega) d hd j hj _ k rfl hk
  obtain⟨u1,u2⟩:=qoo (fun x=>ltI x d[a]!) d j _ k rfl
  rw[Go.Sort.partLoop]
  generalize Go.Sort.scanUp (fun x=>ltI x d[a]!) d j k=i2 at *
  have hdn:=zcp hm n a hn (by omega) d hd i2 (by omega) j hj
  have d1:=qjn (fun x=>!ltI x d[a]!) d i2 j
  generalize Go.Sort.scanDown (fun x=>!ltI x d[a]!) d i2 j=j2 at *
  have m4:=hm.cl
  by_cases c:i2>j2
  .rw[if_pos c]
   refine qbe (fun f hf=>?_) h0
   have c1:(j2:Int)<i2:=by omega
   have hin:j2<=j:=by omega
   simp[-qaq,-qav,qaa,exT,qae,L141_4,qgu,qaf,hf.ne]
   generalize hr:ev pg (.code (.going _ L141_2) _)=o
   obtain⟨r,rfl,f2,hf2,rfl⟩:∃r,o=some r/\_:=by rw[<-hr];exact hu _ (by simp[qgu,hf.ne])
   clear hr
   simp[-qaq,-qav,qgu,hf2.ne]
   generalize hr:ev pg (.code (.going _ L141_3) _)=o
   obtain⟨r,rfl,f3,hf3,rfl⟩:∃r,o=some r/\_:=by rw[<-hr];exact hdn _ (by simp[qgu,hf2.ne])
   clear hr
   simp[-qaq,-qav,qgu,q8l,c1,hm.lt,hin,hf3.ne]
  .rw[if_neg c,dif_pos (by omega)]
   obtain⟨jp,rfl⟩:∃jp,j2=jp+1:=⟨j2-1,by omega⟩
   rw[Nat.add_sub_cancel]
   change ∃r,_/\qag _ (q8l i g n a (Go.Sort.partLoop ltI a (i2+1) jp (swI d i2 (jp+1))).1) (put h i g (Go.Sort.partLoop ltI a (i2+1) jp (swI d i2 (jp+1))).2) r/\(Go.Sort.partLoop ltI a (i2+1) jp (swI d i2 (jp+1))).1<=_
   have c1:¬(jp:Int)+1<i2:=by omega
   have m1:=hm.lt
   have m2:=hm.set
   have m3:=hm.get
   have b1:i2<d.size:=by omega
   have b2:jp+1<d.size:=by omega
   have p1:(0:Int)<=(jp:Int)+1:=by omega
   have r1:=qan (d:=d) (k:=i2) b1
   have r2:=qan (d:=d) (k:=jp+1) b2
   have wa:=qab (n:=(i2:Int)+1) (by omega) (by omega)
   have wb:=qab (n:=(jp:Int)) (by omega) (by omega)
   have hsw:(d.setIfInBounds i2 d[jp+1]!).setIfInBounds (jp+1) d[i2]! = swI d i2 (jp+1):=rfl
   obtain⟨z,r3⟩:=qch (d.setIfInBounds i2 d[jp+1]!) (jp+1)
   have ih':=ih (i2+1) jp (swI d i2 (jp+1)) (by omega) (by omega) (by omega) (by omega) (by rw[qcs];exact hd)
   have ih'':∀st,At (qgu i g n a (i2+1) jp) (put h i g (swI d i2 (jp+1))) st->∃r,ev pg (.code (.going h.length L141_4) st)=some r/\qag (.exit 4) (q8l i g n a (Go.Sort.partLoop ltI a (i2+1) jp (swI d i2 (jp+1))).1) (put h i g (Go.Sort.partLoop ltI a (i2+1) jp (swI d i2 (jp+1))).2) r/\(Go.Sort.partLoop ltI a (i2+1) jp (swI d i2 (jp+1))).1<=j:=fun st hst=>by
    obtain⟨r,e1,e2,e3⟩:=ih' st hst
    exact⟨r,e1,e2,by omega⟩
   refine qgs (T':=qgu i g n a (i2+1) jp) (h':=put h i g (swI d i2 (jp+1))) (fun f hf=>?_) ih'' h0
   generalize swI d i2 (jp+1)=d' at *
   generalize d[jp+1]! = y at *
   generalize d[i2]! = x at *
   simp[-qaq,-qav,qaa,exT,qae,L141_4,qgu,qaf,hf.ne]
   generalize hr:ev pg (.code (.going _ L141_2) _)=o
   obtain⟨r,rfl,f2,hf2,rfl⟩:∃r,o=some r/\_:=by rw[<-hr];exact hu _ (by simp[qgu,hf.ne])
   clear hr
   simp[-qaq,-qav,qgu,hf2.ne]
   generalize hr:ev pg (.code (.going _ L141_3) _)=o
   obtain⟨r,rfl,f3,hf3,rfl⟩:∃r,o=some r/\_:=by rw[<-hr];exact hdn _ (by simp[qgu,hf2.ne])
   clear hr
   simp[-qaq,-qav,qaa,exT,qae,qgu,c1,p1,wa,wb,m1,m2,m3,m4,r1,r2,r3,b1,b2,qbu,hsw,hd.symm,hf3.ne]
def zga(k:Nat):Tm:=[none,none,none,none,none,none,none,none,none,some (num k)]++List.replicate 74 none
set_option maxHeartbeats 1000000 in
theorem zxa{h:H}{i g:Nat}(hm:Mem h i g)(n a:Nat)(hn:n<=1000000):∀(m k j:Nat) (d:Array Int),j+1-k<=m->a<k->k<=n->j<n->d.size=n->∀(st:St),At (qnx i g n a k j) (put h i g d) st->∃r,ev pg (.code (.going h.length L140_2) st)=some r/\qag (.exit 0) (zga (Go.Sort.partEqLoop ltI a k j d).1) (put h i g (Go.Sort.partEqLoop ltI a k j d).2) r/\(Go.Sort.partEqLoop ltI a k j d).1<=n:=by
 intro m
 induction m with
 | zero =>
  intro k j d hmm hak hk hj hd st h0
  have hk1:j<k:=by omega
  have eu:Go.Sort.scanUp (fun x=>!ltI d[a]! x) d j k=k:=by rw[Go.Sort.scanUp,if_neg (by simp;omega)]
  have ed:∀(jj:Nat),jj<k->Go.Sort.scanDown (fun x=>ltI d[a]! x) d k jj=jj:=by
   intro jj hjj
   cases jj with
   | zero=>rfl
   | succ jj=>rw[Go.Sort.scanDown,if_neg (by simp;omega)]
  have hu:=zfh hm n a hn (by omega) d hd j hj _ k rfl hk
  have hdn:=zbd hm n a hn (by omega) d hd k (by omega) j hj
  rw[eu]at hu
  rw[ed j hk1]at hdn
  rw[Go.Sort.partEqLoop]
  rw[eu,ed j hk1,if_pos (by omega)]
  refine qbe (fun f hf=>?_) h0
  have c1:(j:Int)<k:=by omega
  have m4:=hm.cl d
  simp[-qaq,-qav,qaa,exT,qae,L140_2,qnx,qaf,hf.ne]
  generalize hr:ev pg (.code (.going _ L140_0) _)=o
  obtain⟨r,rfl,f2,hf2,rfl⟩:∃r,o=some r/\_:=by rw[<-hr];exact hu _ (by simp[qnx,hf.ne])
  clear hr
  simp[-qaq,-qav,qnx,hf2.ne]
  generalize hr:ev pg (.code (.going _ L140_1) _)=o
  obtain⟨r,rfl,f3,hf3,rfl⟩:∃r,o=some r/\_:=by rw[<-hr];exact hdn _ (by simp[qnx,hf2.ne])
  clear hr
  simp[-qaq,-qav,qnx,zga,c1,hm.lt,hk,hf3.ne]
 | succ m ih =>
  intro k j d hmm hak hk hj hd st h0
  have hu:=zfh hm n a hn (by omega) d hd j hj _ k rfl hk
  obtain⟨u1,u2⟩:=qoo (fun x=>!ltI d[a]! x) d j _ k rfl
  rw[Go.Sort.partEqLoop]
  generalize Go.Sort.scanUp (fun x=>!ltI d[a]! x) d j k=i2 at *
  have hdn:=zbd hm n a hn (by omega) d hd i2 (by omega) j hj
  have d1:=qjn (fun x=>ltI d[a]! x) d i2 j
  generalize Go.Sort.scanDown (fun x=>ltI d[a]! x) d i2 j=j2 at *
  have m4:=hm.cl
  by_cases c:i2>j2
  .rw[if_pos c]
   refine qbe (fun f hf=>?_) h0
   have c1:(j2:Int)<i2:=by omega
   have hin:i2<=n:=by omega
   simp[-qaq,-qav,qaa,exT,qae,L140_2,qnx,qaf,hf.ne]
   generalize hr:ev pg (.code (.going _ L140_0) _)=o
   obtain⟨r,rfl,f2,hf2,rfl⟩:∃r,o=some r/\_:=by rw[<-hr];exact hu _ (by simp[qnx,hf.ne])
   clear hr
   simp[-qaq,-qav,qnx,hf2.ne]
   generalize hr:ev pg (.code (.going _ L140_1) _)=o
   obtain⟨r,rfl,f3,hf3,rfl⟩:∃r,o=some r/\_:=by rw[<-hr];exact hdn _ (by simp[qnx,hf2.ne])
   clear hr
   simp[-qaq,-qav,qnx,zga,c1,hm.lt,hin,hf3.ne]
  .rw[if_neg c,dif_pos (by omega)]
   obtain⟨jp,rfl⟩:∃jp,j2=jp+1:=⟨j2-1,by omega⟩
   rw[Nat.add_sub_cancel]
   change ∃r,_/\qag _ (zga (Go.Sort.partEqLoop ltI a (i2+1) jp (swI d i2 (jp+1))).1) (put h i g (Go.Sort.partEqLoop ltI a (i2+1) jp (swI d i2 (jp+1))).2) r/\(Go.Sort.partEqLoop ltI a (i2+1) jp (swI d i2 (jp+1))).1<=_
   have c1:¬(jp:Int)+1<i2:=by omega
   have m1:=hm.lt
   have m2:=hm.set
   have m3:=hm.get
   have b1:i2<d.size:=by omega
   have b2:jp+1<d.size:=by omega
   have p1:(0:Int)<=(jp:Int)+1:=by omega
   have r1:=qan (d:=d) (k:=i2) b1
   have r2:=qan (d:=d) (k:=jp+1) b2
   have wa:=qab (n:=(i2:Int)+1) (by omega) (by omega)
   have wb:=qab (n:=(jp:Int)) (by omega) (by omega)
   have hsw:(d.setIfInBounds i2 d[jp+1]!).setIfInBounds (jp+1) d[i2]! = swI d i2 (jp+1):=rfl
   obtain⟨z,r3⟩:=qch (d.setIfInBounds i2 d[jp+1]!) (jp+1)
   have ih':=ih (i2+1) jp (swI d i2 (jp+1)) (by omega) (by omega) (by omega) (by omega) (by rw[qcs];exact hd)
   refine qgs (T':=qnx i g n a (i2+1) jp) (h':=put h i g (swI d i2 (jp+1))) (fun f hf=>?_) ih' h0
   generalize swI d i2 (jp+1)=d' at *
   generalize d[jp+1]! = y at *
   generalize d[i2]! = x at *
   simp[-qaq,-qav,qaa,exT,qae,L140_2,qnx,qaf,hf.ne]
   generalize hr:ev pg (.code (.going _ L140_0) _)=o
   obtain⟨r,rfl,f2,hf2,rfl⟩:∃r,o=some r/\_:=by rw[<-hr];exact hu _ (by simp[qnx,hf.ne])
   clear hr
   simp[-qaq,-qav,qnx,hf2.ne]
   generalize hr:ev pg (.code (.going _ L140_1) _)=o
   obtain⟨r,rfl,f3,hf3,rfl⟩:∃r,o=some r/\_:=by rw[<-hr];exact hdn _ (by simp[qnx,hf2.ne])
   clear hr
   simp[-qaq,-qav,qaa,exT,qae,qnx,c1,p1,wa,wb,m1,m2,m3,m4,r1,r2,r3,b1,b2,qbu,hsw,hd.symm,hf3.ne]
theorem qtl:@Go.Sort.swp Int _=swI:=rfl
set_option maxHeartbeats 1000000 in
theorem ev141{h:H}{i:Nat}(hi:i<h.length)(hc:qck h)(g:Nat)(d:Array Int)(a b pv:Nat)(hb:b<=d.size)(hab:a<b)(hp:pv<d.size)(hn:d.size<=1000000):ev pg (.call (.fn 141 [] []) [.sl i g 1 0 d.size,num a,num b,num pv] (put h i g d))=some { v:=.tup [num (Go.Sort.partition ltI d a b pv).1,.bool (Go.Sort.partition ltI d a b pv).2.1],st:=⟨[],put h i g (Go.Sort.partition ltI d a b pv).2.2⟩ }:=by
 have hm:=qii hi hc g
 have m1:=hm.lt
 have m2:=hm.set
 have m3:=hm.get
 have m4:=hm.cl
 have m5:=hm.ck
 have b1:a<d.size:=by omega
 have r1:=qan (d:=d) (k:=a) b1
 have r2:=qan (d:=d) (k:=pv) hp
 have hsw:(d.setIfInBounds a d[pv]!).setIfInBounds pv d[a]! = swI d a pv:=rfl
 obtain⟨z,r3⟩:=qch (d.setIfInBounds a d[pv]!) pv
 obtain⟨b,rfl⟩:∃b',b=b'+1:=⟨b-1,by omega⟩
 have wa:=qab (n:=(a:Int)+1) (by omega) (by omega)
 have wb:=qab (n:=(b:Int)) (by omega) (by omega)
 unfold Go.Sort.partition
 simp only[Nat.add_sub_cancel,qtl]
 have hs1:(swI d a pv).size=d.size:=qcs _ _ _
 generalize hd1:swI d a pv=d1 at *
 have hu:=zmf hm d.size a hn b1 d1 hs1 b (by omega) _ (a+1) rfl (by omega)
 obtain⟨u1,u2⟩:=qoo (fun x=>ltI x d1[a]!) d1 b _ (a+1) rfl
 generalize Go.Sort.scanUp (fun x=>ltI x d1[a]!) d1 b (a+1)=i2 at *
 have hdn:=zmn hm d.size a hn b1 d1 hs1 i2 (by omega) b (by omega)
 have e1:=qjn (fun x=>!ltI x d1[a]!) d1 i2 b
 generalize Go.Sort.scanDown (fun x=>!ltI x d1[a]!) d1 i2 b=j2 at *
 by_cases c:i2>j2
 .simp only[if_pos c]
  have c1:(j2:Int)<i2:=by omega
  have hsj:(d1.setIfInBounds j2 d1[a]!).setIfInBounds a d1[j2]! = swI d1 j2 a:=rfl
  change _=(some { v:=.tup [num j2,.bool true],st:=⟨[],put h i g (swI d1 j2 a)⟩ }:Option Am.R)
  have b2:a<d1.size:=by omega
  have b3:j2<d1.size:=by omega
  have b2':a<d.size:=by omega
  have b3':j2<d.size:=by omega
  have q1:=qan (d:=d1) (k:=a) b2
  have q2:=qan (d:=d1) (k:=j2) b3
  obtain⟨z2,q3⟩:=qch (d1.setIfInBounds j2 d1[a]!) a
  generalize swI d1 j2 a=d2 at *
  generalize d[a]! = x at *
  generalize d[pv]! = y at *
  generalize d1[a]! = x1 at *
  generalize d1[j2]! = y1 at *
  rw[qac,pg141]
  simp[-qaq,-qav,qaa,exT,qae,ir141,wa,wb,m1,m2,m3,m4,r1,r2,r3,b1,hp,qbu,hsw,qaf]
  generalize hr:ev pg (.code (.going _ L141_0) _)=o
  obtain⟨r,rfl,f2,hf2,rfl⟩:∃r,o=some r/\_:=by rw[<-hr];exact hu _ (by simp[qgu])
  clear hr
  simp[-qaq,-qav,qgu,hf2.ne]
  generalize hr:ev pg (.code (.going _ L141_1) _)=o
  obtain⟨r,rfl,f3,hf3,rfl⟩:∃r,o=some r/\_:=by rw[<-hr];exact hdn _ (by simp[qgu,hf2.ne])
  clear hr
  simp[-qaq,-qav,qaa,exT,qae,qgu,c1,m1,m2,m3,m4,m5,q1,q2,q3,b2,b3,b2',b3',qbu,hsj,hs1]
 .simp only[if_neg c]
  obtain⟨jp,rfl⟩:∃jp,j2=jp+1:=⟨j2-1,by omega⟩
  have c1:¬(jp:Int)+1<i2:=by omega
  have hsj:(d1.setIfInBounds i2 d1[jp+1]!).setIfInBounds (jp+1) d1[i2]! = swI d1 i2 (jp+1):=rfl
  simp only[Nat.add_sub_cancel]
  change _=(some { v:=.tup [num (Go.Sort.partLoop ltI a (i2+1) jp (swI d1 i2 (jp+1))).1,.bool false],st:=⟨[],put h i g (swI (Go.Sort.partLoop ltI a (i2+1) jp (swI d1 i2 (jp+1))).2 (Go.Sort.partLoop ltI a (i2+1) jp (swI d1 i2 (jp+1))).1 a)⟩ }:Option Am.R)
  have b2:i2<d1.size:=by omega
  have b3:jp+1<d1.size:=by omega
  have b2':i2<d.size:=by omega
  have b3':jp+1<d.size:=by omega
  have p1:(0:Int)<=(jp:Int)+1:=by omega
  have wi:=qab (n:=(i2:Int)+1) (by omega) (by omega)
  have wj:=qab (n:=(jp:Int)) (by omega) (by omega)
  have q1:=qan (d:=d1) (k:=i2) b2
  have q2:=qan (d:=d1) (k:=jp+1) b3
  obtain⟨z2,q3⟩:=qch (d1.setIfInBounds i2 d1[jp+1]!) (jp+1)
  have hs2:(swI d1 i2 (jp+1)).size=d.size:=by rw[qcs];exact hs1
  generalize swI d1 i2 (jp+1)=d2 at *
  have hlp:=zzq hm d.size a hn _ (i2+1) jp d2 (jD _) (by omega) (by omega) (by omega) hs2
  have hs3:=qow a _ (i2+1) jp d2 (jD _)
  generalize Go.Sort.partLoop ltI a (i2+1) jp d2=t at *
  obtain⟨k,d3⟩:=t
  simp only at hlp hs3 ⊢
  generalize d[a]! = x at *
  generalize d[pv]! = y at *
  generalize d1[i2]! = x1 at *
  generalize d1[jp+1]! = y1 at *
  rw[qac,pg141]
  simp[-qaq,-qav,qaa,exT,qae,ir141,wa,wb,m1,m2,m3,m4,r1,r2,r3,b1,hp,qbu,hsw,qaf]
  generalize hr:ev pg (.code (.going _ L141_0) _)=o
  obtain⟨r,rfl,f2,hf2,rfl⟩:∃r,o=some r/\_:=by rw[<-hr];exact hu _ (by simp[qgu])
  clear hr
  simp[-qaq,-qav,qgu,hf2.ne]
  generalize hr:ev pg (.code (.going _ L141_1) _)=o
  obtain⟨r,rfl,f3,hf3,rfl⟩:∃r,o=some r/\_:=by rw[<-hr];exact hdn _ (by simp[qgu,hf2.ne])
  clear hr
  simp[-qaq,-qav,qaa,exT,qae,qgu,c1,p1,wi,wj,m1,m2,m3,m4,q1,q2,q3,b2,b3,b2',b3',qbu,hsj,hs1,hf3.ne]
  generalize hr:ev pg (.code (.going _ L141_4) _)=o
  obtain⟨r,rfl,⟨f4,hf4,rfl⟩,hk⟩:∃r,o=some r/\_:=by rw[<-hr];exact hlp _ (by simp[qgu,hf3.ne])
  clear hr
  have v1:k<d3.size:=by omega
  have v2:a<d3.size:=by omega
  have v1':k<d.size:=by omega
  have hs4:d3.size=d.size:=by omega
  have s1:=qan (d:=d3) (k:=a) v2
  have s2:=qan (d:=d3) (k:=k) v1
  have hsk:(d3.setIfInBounds k d3[a]!).setIfInBounds a d3[k]! = swI d3 k a:=rfl
  obtain⟨z3,s3⟩:=qch (d3.setIfInBounds k d3[a]!) a
  generalize swI d3 k a=d4 at *
  generalize d3[a]! = x2 at *
  generalize d3[k]! = y2 at *
  simp[-qaq,-qav,qaa,exT,qae,q8l,m1,m2,m3,m4,m5,s1,s2,s3,v1,v2,v1',b1,hs4,qbu,hsk]
set_option maxHeartbeats 1000000 in
theorem ev140{h:H}{i:Nat}(hi:i<h.length)(hc:qck h)(g:Nat)(d:Array Int)(a b pv:Nat)(hb:b<=d.size)(hab:a<b)(hp:pv<d.size)(hn:d.size<=1000000):ev pg (.call (.fn 140 [] []) [.sl i g 1 0 d.size,num a,num b,num pv] (put h i g d))=some { v:=num (Go.Sort.partitionEqual ltI d a b pv).1,st:=⟨[],put h i g (Go.Sort.partitionEqual ltI d a b pv).2⟩ }:=by
 have hm:=qii hi hc g
 have m1:=hm.lt
 have m2:=hm.set
 have m3:=hm.get
 have m4:=hm.cl
 have m5:=hm.ck
 have b1:a<d.size:=by omega
 have r1:=qan (d:=d) (k:=a) b1
 have r2:=qan (d:=d) (k:=pv) hp
 have hsw:(d.setIfInBounds a d[pv]!).setIfInBounds pv d[a]! = swI d a pv:=rfl
 obtain⟨z,r3⟩:=qch (d.setIfInBounds a d[pv]!) pv
 obtain⟨b,rfl⟩:∃b',b=b'+1:=⟨b-1,by omega⟩
 have wa:=qab (n:=(a:Int)+1) (by omega) (by omega)
 have wb:=qab (n:=(b:Int)) (by omega) (by omega)
 unfold Go.Sort.partitionEqual
 rw[Nat.add_sub_cancel]
 change _=(some { v:=num (Go.Sort.partEqLoop ltI a (a+1) b (swI d a pv)).1,st:=⟨[],put h i g (Go.Sort.partEqLoop ltI a (a+1) b (swI d a pv)).2⟩ }:Option Am.R)
 have hs1:(swI d a pv).size=d.size:=qcs _ _ _
 generalize hd1:swI d a pv=d1 at *
 have hlp:=zxa hm d.size a hn _ (a+1) b d1 (jD _) (by omega) (by omega) (by omega) hs1
 generalize Go.Sort.partEqLoop ltI a (a+1) b d1=t at *
 obtain⟨k,d3⟩:=t
 simp only at hlp ⊢
 generalize d[a]! = x at *
 generalize d[pv]! = y at *
 rw[qac,pg140]
 simp[-qaq,-qav,qaa,exT,qae,ir140,wa,wb,m1,m2,m3,m4,r1,r2,r3,b1,hp,qbu,hsw,qaf]
 generalize hr:ev pg (.code (.going _ L140_2) _)=o
 obtain⟨r,rfl,⟨f4,hf4,rfl⟩,hk⟩:∃r,o=some r/\_:=by rw[<-hr];exact hlp _ (by simp[qnx])
 clear hr
 simp[-qaq,-qav,zga,m1,m5]
def qkw(i g n:Nat)(a b k c:Nat):Tm:=[some (.sl i g 1 0 n),some (num a),some (num b),none,none,none,none,some (num k),some (num c)]++List.replicate 124 none
def q5m(i g n:Nat)(a b k c j:Nat):Tm:=[some (.sl i g 1 0 n),some (num a),some (num b),none,none,none,none,some (num k),some (num c),some (num j)]++List.replicate 123 none
def q5a(i g n:Nat)(a b k c j:Nat):Tm:=[some (.sl i g 1 0 n),some (num a),some (num b),none,none,none,none,some (num k),some (num c),none,some (num j)]++List.replicate 122 none
def zhz(v:Bool):Tm:=[none,none,none,none,none,none,some (.bool v)]++List.replicate 126 none
theorem qpb(d:Array Int)(b:Nat):∀(m k:Nat),b-k=m->k<=Go.Sort.scanSorted ltI d b k/\(Go.Sort.scanSorted ltI d b k<=b\/Go.Sort.scanSorted ltI d b k=k)
 | 0,k,hm=>by
  rw[Go.Sort.scanSorted,if_neg (by simp;omega)]
  exact⟨jD _,.inr rfl⟩
 | m+1,k,hm=>by
  rw[Go.Sort.scanSorted]
  split
  .have:=qpb d b m (k+1) (by omega)
   omega
  .exact⟨jD _,.inr rfl⟩
theorem zlz{h:H}{i g:Nat}(hm:Mem h i g)(n a b c:Nat)(hn:n<=1000000)(hb:b<=n)(d:Array Int)(hd:d.size=n):∀(m k:Nat),b-k=m->1<=k->k<=n->∀(st:St),At (qkw i g n a b k c) (put h i g d) st->∃r,ev pg (.code (.going h.length L138_0) st)=some r/\qag (.exit 2) (qkw i g n a b (Go.Sort.scanSorted ltI d b k) c) (put h i g d) r
 | 0,k,hk,h1,hkn,st,h0=>by
  rw[Go.Sort.scanSorted,if_neg (by simp;omega)]
  refine qbe (fun f hf=>?_) h0
  have c1:¬(k:Int)<b:=by omega
  simp[-qaq,-qav,qaa,exT,qae,L138_0,qkw,c1,hf.ne]
 | m+1,k+1,hk,h1,hkn,st,h0=>by
  have c1:(k:Int)+1<b:=by omega
  have c2:k+1<b:=by omega
  have m1:=hm.lt
  have m3:=hm.get
  have b1:k<d.size:=by omega
  have b2:k+1<d.size:=by omega
  have p1:(0:Int)<=(k:Int)+1:=by omega
  have r1:=qan (d:=d) (k:=k) b1
  have r2:=qan (d:=d) (k:=k+1) b2
  have e:=ev139 d[k+1]! d[k]!
  have wk:=qab (n:=(k:Int)+1+1) (by omega) (by omega)
  have wk0:=qab (n:=(k:Int)) (by omega) (by omega)
  have m4:=hm.cl d
  rw[Go.Sort.scanSorted,Nat.add_sub_cancel]
  by_cases l1:ltI d[k+1]! d[k]! = true
  .rw[l1]at e
   rw[if_neg (by simp[l1])]
   refine qbe (fun f hf=>?_) h0
   generalize d[k+1]! = x at *
   generalize d[k]! = y at *
   simp[-qaq,-qav,qaa,exT,qae,L138_0,qkw,c1,p1,wk0,m1,m3,m4,r1,r2,b1,b2,e,hd.symm,hf.ne]
  .have l1':ltI d[k+1]! d[k]! = false:=by simpa using l1
   rw[l1']at e
   rw[if_pos (by simp[c2,l1'])]
   have ih:=@zlz h i g hm n a b c hn hb d hd m (k+1+1) (by omega) (by omega) (by omega)
   refine qgs (T':=qkw i g n a b (k+1+1) c) (h':=put h i g d) (fun f hf=>?_) ih h0
   generalize d[k+1]! = x at *
   generalize d[k]! = y at *
   simp[-qaq,-qav,qaa,exT,qae,L138_0,qkw,c1,p1,wk,wk0,m1,m3,m4,r1,r2,b1,b2,e,hd.symm,hf.ne]
theorem qmx:∀(j:Nat) (d:Array Int),(Go.Sort.shiftDown ltI j d).size=d.size
 | 0,d=>rfl
 | j+1,d=>by
  rw[Go.Sort.shiftDown]
  split
  .rfl
  .rw[qmx j];exact qcs _ _ _
theorem qlm(b:Nat):∀(m j:Nat) (d:Array Int),b-j=m->(Go.Sort.shiftUp ltI b j d).size=d.size
 | 0,j,d,hm=>by rw[Go.Sort.shiftUp,if_neg (by omega)]
 | m+1,j,d,hm=>by
  rw[Go.Sort.shiftUp,if_pos (by omega)]
  split
  .rfl
  .rw[qlm b m _ _ (by omega)];exact qcs _ _ _
theorem zky{h:H}{i g:Nat}(hm:Mem h i g)(n a b k c:Nat)(hn:n<=1000000):∀(j:Nat) (d:Array Int),d.size=n->j<n->∀(st:St),At (q5m i g n a b k c j) (put h i g d) st->∃r,ev pg (.code (.going h.length L138_1) st)=some r/\qag (.exit 4) (qkw i g n a b k c) (put h i g (Go.Sort.shiftDown ltI j d)) r
 | 0,d,hd,hj,st,h0=>by
  rw[Go.Sort.shiftDown]
  refine qbe (fun f hf=>?_) h0
  simp[-qaq,-qav,qaa,exT,qae,L138_1,qkw,q5m,hf.ne]
 | j+1,d,hd,hj,st,h0=>by
  have c1:(1:Int)<=(j:Int)+1:=by omega
  have m1:=hm.lt
  have m2:=hm.set
  have m3:=hm.get
  have b1:j<d.size:=by omega
  have b2:j+1<d.size:=by omega
  have p1:(0:Int)<=(j:Int)+1:=by omega
  have r1:=qan (d:=d) (k:=j) b1
  have r2:=qan (d:=d) (k:=j+1) b2
  have e:=ev139 d[j+1]! d[j]!
  have wk:=qab (n:=(j:Int)) (by omega) (by omega)
  rw[Go.Sort.shiftDown]
  by_cases l1:ltI d[j+1]! d[j]! = true
  .rw[l1]at e
   rw[if_neg (by simp[l1]),qtl]
   have hsw:(d.setIfInBounds (j+1) d[j]!).setIfInBounds j d[j+1]! = swI d (j+1) j:=rfl
   obtain⟨z,r3⟩:=qch (d.setIfInBounds (j+1) d[j]!) j
   have m4:=hm.cl (swI d (j+1) j)
   have ih:=@zky h i g hm n a b k c hn j (swI d (j+1) j) (by rw[qcs];exact hd) (by omega)
   refine qgs (T':=q5m i g n a b k c j) (h':=put h i g (swI d (j+1) j)) (fun f hf=>?_) ih h0
   generalize swI d (j+1) j=d' at *
   generalize d[j+1]! = x at *
   generalize d[j]! = y at *
   simp[-qaq,-qav,qaa,exT,qae,L138_1,q5m,c1,p1,wk,m1,m2,m3,m4,r1,r2,r3,b1,b2,e,qbu,hsw,hd.symm,hf.ne]
  .have l1':ltI d[j+1]! d[j]! = false:=by simpa using l1
   rw[l1']at e
   rw[if_pos (by simp[l1'])]
   refine qbe (fun f hf=>?_) h0
   generalize d[j+1]! = x at *
   generalize d[j]! = y at *
   simp[-qaq,-qav,qaa,exT,qae,L138_1,q5m,qkw,c1,p1,wk,m1,m3,r1,r2,b1,b2,e,hd.symm,hf.ne]
theorem zfg{h:H}{i g:Nat}(hm:Mem h i g)(n a b k c:Nat)(hn:n<=1000000)(hb:b<=n):∀(m j:Nat) (d:Array Int),b-j=m->1<=j->j<=n->d.size=n->∀(st:St),At (q5a i g n a b k c j) (put h i g d) st->∃r,ev pg (.code (.going h.length L138_2) st)=some r/\qag (.exit 6) (qkw i g n a b k c) (put h i g (Go.Sort.shiftUp ltI b j d)) r
 | 0,j,d,hj,h1,hjn,hd,st,h0=>by
  rw[Go.Sort.shiftUp,if_neg (by omega)]
  refine qbe (fun f hf=>?_) h0
  have c1:¬(j:Int)<b:=by omega
  simp[-qaq,-qav,qaa,exT,qae,L138_2,qkw,q5a,c1,hf.ne]
 | m+1,j+1,d,hj,h1,hjn,hd,st,h0=>by
  have c1:(j:Int)+1<b:=by omega
  have m1:=hm.lt
  have m2:=hm.set
  have m3:=hm.get
  have b1:j<d.size:=by omega
  have b2:j+1<d.size:=by omega
  have p1:(0:Int)<=(j:Int)+1:=by omega
  have r1:=qan (d:=d) (k:=j) b1
  have r2:=qan (d:=d) (k:=j+1) b2
  have e:=ev139 d[j+1]! d[j]!
  have wk:=qab (n:=(j:Int)) (by omega) (by omega)
  have wk2:=qab (n:=(j:Int)+1+1) (by omega) (by omega)
  rw[Go.Sort.shiftUp,if_pos (by omega),Nat.add_sub_cancel]
  by_cases l1:ltI d[j+1]! d[j]! = true
  .rw[l1]at e
   rw[if_neg (by simp[l1]),qtl]
   have hsw:(d.setIfInBounds (j+1) d[j]!).setIfInBounds j d[j+1]! = swI d (j+1) j:=rfl
   obtain⟨z,r3⟩:=qch (d.setIfInBounds (j+1) d[j]!) j
   have m4:=hm.cl (swI d (j+1) j)
   have ih:=@zfg h i g hm n a b k c hn hb m (j+1+1) (swI d (j+1) j) (by omega) (by omega) (by omega) (by rw[qcs];exact hd)
   refine qgs (T':=q5a i g n a b k c (j+1+1)) (h':=put h i g (swI d (j+1) j)) (fun f hf=>?_) ih h0
   generalize swI d (j+1) j=d' at *
   generalize d[j+1]! = x at *
   generalize d[j]! = y at *
   simp[-qaq,-qav,qaa,exT,qae,L138_2,q5a,c1,p1,wk,wk2,m1,m2,m3,m4,r1,r2,r3,b1,b2,e,qbu,hsw,hd.symm,hf.ne]
  .have l1':ltI d[j+1]! d[j]! = false:=by simpa using l1
   rw[l1']at e
   rw[if_pos (by simp[l1'])]
   refine qbe (fun f hf=>?_) h0
   generalize d[j+1]! = x at *
   generalize d[j]! = y at *
   simp[-qaq,-qav,qaa,exT,qae,L138_2,q5a,qkw,c1,p1,wk,m1,m3,r1,r2,b1,b2,e,hd.symm,hf.ne]
def zzb(h:H)(i g:Nat)(D:Array Int×Bool)(r:R):Prop:=qag .ret (zhz D.2) (put h i g D.1) r\/(D.2=false/\qag (.exit 0) (List.replicate 133 none) (put h i g D.1) r)
set_option maxHeartbeats 2000000 in
theorem zkp{h:H}{i g:Nat}(hm:Mem h i g)(n a b:Nat)(hn:n<=1000000)(hb:b<=n)(hab:a<b):∀(s c k:Nat) (d:Array Int),s+c=5->a+1<=k->k<=b->d.size=n->∀(st:St),At (qkw i g n a b k c) (put h i g d) st->∃r,ev pg (.code (.going h.length L138_3) st)=some r/\zzb h i g (Go.Sort.partialIns ltI a b s k d) r
 | 0,c,k,d,hs,hk1,hk2,hd,st,h0=>by
  rw[Go.Sort.partialIns]
  refine qbe (fun f hf=>?_) h0
  obtain rfl:c=5:=by omega
  simp[-qaq,-qav,qaa,exT,qae,L138_3,qkw,hf.ne]
  exact .inr ⟨rfl,by simp[hf.ne]⟩
 | s+1,c,k,d,hs,hk1,hk2,hd,st,h0=>by
  have hla:=zlz hm n a b c hn hb d hd _ k rfl (by omega) (by omega)
  obtain⟨u1,u2⟩:=qpb d b _ k rfl
  rw[Go.Sort.partialIns]
  simp only[qtl]
  generalize Go.Sort.scanSorted ltI d b k=k2 at *
  have cc:(c:Int)<5:=by omega
  have wc:=qab (n:=(c:Int)+1) (by omega) (by omega)
  have m1:=hm.lt
  have m4:=hm.cl
  by_cases hkb:k2=b
  .subst hkb
   simp only[if_true]
   refine qbe (fun f hf=>?_) h0
   simp[-qaq,-qav,qaa,exT,qae,L138_3,qkw,cc,qaf,hf.ne]
   generalize hr:ev pg (.code (.going _ L138_0) _)=o
   obtain⟨r,rfl,f2,hf2,rfl⟩:∃r,o=some r/\_:=by rw[<-hr];exact hla _ (by simp[qkw,hf.ne])
   clear hr
   simp[-qaq,-qav,qkw,hf2.ne]
   exact .inl (by simp[zhz,hf2.ne])
  .have hkb':((k2:Int)==b)=false:=by simp;omega
   simp only[hkb,if_false]
   have wba:=qab (n:=(b:Int)-a) (by omega) (by omega)
   by_cases h50:b-a<50
   .have h50':(b:Int)-a<50:=by omega
    simp only[h50,if_true]
    refine qbe (fun f hf=>?_) h0
    simp[-qaq,-qav,qaa,exT,qae,L138_3,qkw,cc,qaf,hf.ne]
    generalize hr:ev pg (.code (.going _ L138_0) _)=o
    obtain⟨r,rfl,f2,hf2,rfl⟩:∃r,o=some r/\_:=by rw[<-hr];exact hla _ (by simp[qkw,hf.ne])
    clear hr
    simp[-qaq,-qav,qkw,hkb,hkb',wba,h50',hf2.ne]
    exact .inl (by simp[zhz,hf2.ne])
   .have h50':¬(b:Int)-a<50:=by omega
    simp only[h50,if_false]
    obtain⟨q,rfl⟩:∃q,k2=q+1:=⟨k2-1,by omega⟩
    simp only[Nat.add_sub_cancel]
    have hkb2:¬(q:Int)+1=b:=by omega
    have m2:=hm.set
    have m3:=hm.get
    have b1:q<d.size:=by omega
    have b2:q+1<d.size:=by omega
    have p1:(0:Int)<=(q:Int)+1:=by omega
    have r1:=qan (d:=d) (k:=q) b1
    have r2:=qan (d:=d) (k:=q+1) b2
    have wq:=qab (n:=(q:Int)) (by omega) (by omega)
    have wq2:=qab (n:=(q:Int)+1+1) (by omega) (by omega)
    have wqa:=qab (n:=(q:Int)+1-a) (by omega) (by omega)
    have wbq:=qab (n:=(b:Int)-((q:Int)+1)) (by omega) (by omega)
    have hsw:(d.setIfInBounds (q+1) d[q]!).setIfInBounds q d[q+1]! = swI d (q+1) q:=rfl
    obtain⟨z,r3⟩:=qch (d.setIfInBounds (q+1) d[q]!) q
    have hd1:(swI d (q+1) q).size=n:=by rw[qcs];exact hd
    generalize swI d (q+1) q=d1 at *
    generalize d[q+1]! = x at *
    generalize d[q]! = y at *
    have hlb:=zky hm n a b (q+1) c hn q d1 hd1 (by omega)
    have hsz2:=qmx q d1
    by_cases g1:q+1-a≥2
    .have g1':(2:Int)<=(q:Int)+1-a:=by omega
     simp only[g1,if_true]
     generalize Go.Sort.shiftDown ltI q d1=d2 at *
     have hlc:=zfg hm n a b (q+1) c hn hb _ (q+1+1) d2 rfl (by omega) (by omega) (by omega)
     have hsz3:=qlm b _ (q+1+1) d2 rfl
     by_cases g2:b-(q+1)≥2
     .have g2':(2:Int)<=(b:Int)-((q:Int)+1):=by omega
      simp only[g2,if_true]
      generalize Go.Sort.shiftUp ltI b (q+1+1) d2=d3 at *
      have ih:=@zkp h i g hm n a b hn hb hab s (c+1) (q+1) d3 (by omega) (by omega) (by omega) (by omega)
      refine qgs (T':=qkw i g n a b (q+1) (c+1)) (h':=put h i g d3) (fun f hf=>?_) ih h0
      simp[-qaq,-qav,qaa,exT,qae,L138_3,qkw,cc,qaf,hf.ne]
      generalize hr:ev pg (.code (.going _ L138_0) _)=o
      obtain⟨r,rfl,f2,hf2,rfl⟩:∃r,o=some r/\_:=by rw[<-hr];exact hla _ (by simp[qkw,hf.ne])
      clear hr
      simp[-qaq,-qav,qaa,exT,qae,qkw,hkb2,wba,h50',wq,p1,m1,m2,m3,m4,r1,r2,r3,b1,b2,qbu,hsw,hd.symm,wqa,g1',hf2.ne]
      generalize hr:ev pg (.code (.going _ L138_1) _)=o
      obtain⟨r,rfl,f3,hf3,rfl⟩:∃r,o=some r/\_:=by rw[<-hr];exact hlb _ (by simp[q5m,hd,hf2.ne])
      clear hr
      simp[-qaq,-qav,qkw,wbq,g2',wq2,m1,hf3.ne]
      generalize hr:ev pg (.code (.going _ L138_2) _)=o
      obtain⟨r,rfl,f4,hf4,rfl⟩:∃r,o=some r/\_:=by rw[<-hr];exact hlc _ (by simp[q5a,hf3.ne])
      clear hr
      simp[-qaq,-qav,qkw,wc,m1,m4,hd,hf4.ne]
     .have g2':¬(2:Int)<=(b:Int)-((q:Int)+1):=by omega
      simp only[g2,if_false]
      have ih:=@zkp h i g hm n a b hn hb hab s (c+1) (q+1) d2 (by omega) (by omega) (by omega) (by omega)
      refine qgs (T':=qkw i g n a b (q+1) (c+1)) (h':=put h i g d2) (fun f hf=>?_) ih h0
      simp[-qaq,-qav,qaa,exT,qae,L138_3,qkw,cc,qaf,hf.ne]
      generalize hr:ev pg (.code (.going _ L138_0) _)=o
      obtain⟨r,rfl,f2,hf2,rfl⟩:∃r,o=some r/\_:=by rw[<-hr];exact hla _ (by simp[qkw,hf.ne])
      clear hr
      simp[-qaq,-qav,qaa,exT,qae,qkw,hkb2,wba,h50',wq,p1,m1,m2,m3,m4,r1,r2,r3,b1,b2,qbu,hsw,hd.symm,wqa,g1',hf2.ne]
      generalize hr:ev pg (.code (.going _ L138_1) _)=o
      obtain⟨r,rfl,f3,hf3,rfl⟩:∃r,o=some r/\_:=by rw[<-hr];exact hlb _ (by simp[q5m,hd,hf2.ne])
      clear hr
      simp[-qaq,-qav,qkw,wbq,g2',wc,m1,m4,hd,hf3.ne]
    .have g1':¬(2:Int)<=(q:Int)+1-a:=by omega
     simp only[g1,if_false]
     have hlc:=zfg hm n a b (q+1) c hn hb _ (q+1+1) d1 rfl (by omega) (by omega) (by omega)
     have hsz3:=qlm b _ (q+1+1) d1 rfl
     by_cases g2:b-(q+1)≥2
     .have g2':(2:Int)<=(b:Int)-((q:Int)+1):=by omega
      simp only[g2,if_true]
      generalize Go.Sort.shiftUp ltI b (q+1+1) d1=d3 at *
      have ih:=@zkp h i g hm n a b hn hb hab s (c+1) (q+1) d3 (by omega) (by omega) (by omega) (by omega)
      refine qgs (T':=qkw i g n a b (q+1) (c+1)) (h':=put h i g d3) (fun f hf=>?_) ih h0
      simp[-qaq,-qav,qaa,exT,qae,L138_3,qkw,cc,qaf,hf.ne]
      generalize hr:ev pg (.code (.going _ L138_0) _)=o
      obtain⟨r,rfl,f2,hf2,rfl⟩:∃r,o=some r/\_:=by rw[<-hr];exact hla _ (by simp[qkw,hf.ne])
      clear hr
      simp[-qaq,-qav,qaa,exT,qae,qkw,hkb2,wba,h50',wq,p1,m1,m2,m3,m4,r1,r2,r3,b1,b2,qbu,hsw,hd.symm,wqa,g1',wbq,g2',wq2,hf2.ne]
      generalize hr:ev pg (.code (.going _ L138_2) _)=o
      obtain⟨r,rfl,f4,hf4,rfl⟩:∃r,o=some r/\_:=by rw[<-hr];exact hlc _ (by simp[q5a,hd,hf2.ne])
      clear hr
      simp[-qaq,-qav,qkw,wc,m1,m4,hd,hf4.ne]
     .have g2':¬(2:Int)<=(b:Int)-((q:Int)+1):=by omega
      omega
theorem ev138{h:H}{i:Nat}(hi:i<h.length)(hc:qck h)(g:Nat)(d:Array Int)(a b:Nat)(hb:b<=d.size)(hab:a<b)(hn:d.size<=1000000):ev pg (.call (.fn 138 [] []) [.sl i g 1 0 d.size,num a,num b] (put h i g d))=some { v:=.bool (Go.Sort.partialInsertionSort ltI d a b).2,st:=⟨[],put h i g (Go.Sort.partialInsertionSort ltI d a b).1⟩ }:=by
 have hm:=qii hi hc g
 have m4:=hm.ck
 have wa:=qab (n:=(a:Int)+1) (by omega) (by omega)
 have hlp:=zkp hm d.size a b hn hb hab 5 0 (a+1) d rfl (jD _) hab rfl
 unfold Go.Sort.partialInsertionSort
 generalize Go.Sort.partialIns ltI a b 5 (a+1) d=D at *
 rw[qac,pg138]
 simp[-qaq,-qav,ir138,wa,qaf]
 generalize hr:ev pg (.code (.going _ L138_3) _)=o
 obtain⟨r,rfl,hor⟩:∃r,o=some r/\_:=by rw[<-hr];exact hlp _ (by simp[qkw])
 clear hr
 rcases hor with⟨f,hf,rfl⟩ | ⟨hD,f,hf,rfl⟩
 .simp[-qaq,-qav,zhz,m4,hm.lt]
 .simp[-qaq,-qav,m4,hm.lt,hD]
end Go.Proofs.YtlhciedghbmjjaaGreat
