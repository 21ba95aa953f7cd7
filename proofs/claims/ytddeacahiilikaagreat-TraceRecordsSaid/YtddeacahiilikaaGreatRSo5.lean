/- Sorting in place: the scans of the partitions. -/
import Derived.Test.YtddeacahiilikaaGreatRSo4
set_option linter.all false
namespace Go.Proofs.YtddeacahiilikaaGreat
open Go Go.Am Go.Proofs
set_option maxRecDepth 100000
def qfv(i g n:Nat)(a k j:Nat):Tm:=[some (.sl i g 1 0 n),some (num a),none,none,none,none,none,none,none,none,some (num k),some (num j)]++List.replicate 156 none
def qlw(i g n:Nat)(a k j:Nat):Tm:=[some (.sl i g 1 0 n),some (num a),none,none,none,none,none,none,none,some (num k),some (num j)]++List.replicate 73 none
theorem zfn{h:H}{i g:Nat}(hm:Mem h i g)(n a:Nat)(hn:n<=1000000)(ha:a<n)(d:Array Int)(hd:d.size=n)(jj:Nat)(hj:jj<n):∀(m k:Nat),jj+1-k=m->k<=n->∀(st:St),At (qfv i g n a k jj) (put h i g d) st->∃r,ev pg (.code (.going h.length L251_0) st)=some r/\qaj (.exit 0) (qfv i g n a (Go.Sort.scanUp (fun x=>ltI x d[a]!) d jj k) jj) (put h i g d) r
 | 0,k,hk,hkn,st,h0=>by
  rw[Go.Sort.scanUp,if_neg (by simp;omega)]
  refine qay (fun f hf=>?_) h0
  have c1:¬(k:Int)<=jj:=by omega
  simp[-qaq,-qbc,qaa,exT,qae,L251_0,qfv,c1,hf.ne]
 | m+1,k,hk,hkn,st,h0=>by
  have c1:(k:Int)<=jj:=by omega
  have c2:k<=jj:=by omega
  have m1:=hm.lt
  have m3:=hm.get
  have b1:a<d.size:=by omega
  have b2:k<d.size:=by omega
  have r1:=qal (d:=d) (k:=a) b1
  have r2:=qal (d:=d) (k:=k) b2
  have e:=ev249 d[k]! d[a]!
  have wk:=qab (n:=(k:Int)+1) (by omega) (by omega)
  have m4:=hm.cl d
  rw[Go.Sort.scanUp]
  by_cases l1:ltI d[k]! d[a]! = true
  .rw[l1]at e
   rw[if_pos (by simp[c2,l1])]
   have ih:=@zfn h i g hm n a hn ha d hd jj hj m (k+1) (by omega) (by omega)
   refine qfy (T':=qfv i g n a (k+1) jj) (h':=put h i g d) (fun f hf=>?_) ih h0
   generalize d[a]! = y at *
   generalize d[k]! = x at *
   simp[-qaq,-qbc,qaa,exT,qae,L251_0,qfv,c1,wk,m1,m3,m4,r1,r2,b1,b2,e,hd.symm,hf.ne]
  .have l1':ltI d[k]! d[a]! = false:=by simpa using l1
   rw[l1']at e
   rw[if_neg (by simp[c2,l1'])]
   refine qay (fun f hf=>?_) h0
   generalize d[a]! = y at *
   generalize d[k]! = x at *
   simp[-qaq,-qbc,qaa,exT,qae,L251_0,qfv,c1,wk,m1,m3,m4,r1,r2,b1,b2,e,hd.symm,hf.ne]
theorem q9f{h:H}{i g:Nat}(hm:Mem h i g)(n a:Nat)(hn:n<=1000000)(ha:a<n)(d:Array Int)(hd:d.size=n)(jj:Nat)(hj:jj<n):∀(m k:Nat),jj+1-k=m->k<=n->∀(st:St),At (qfv i g n a k jj) (put h i g d) st->∃r,ev pg (.code (.going h.length L251_2) st)=some r/\qaj (.exit 6) (qfv i g n a (Go.Sort.scanUp (fun x=>ltI x d[a]!) d jj k) jj) (put h i g d) r
 | 0,k,hk,hkn,st,h0=>by
  rw[Go.Sort.scanUp,if_neg (by simp;omega)]
  refine qay (fun f hf=>?_) h0
  have c1:¬(k:Int)<=jj:=by omega
  simp[-qaq,-qbc,qaa,exT,qae,L251_2,qfv,c1,hf.ne]
 | m+1,k,hk,hkn,st,h0=>by
  have c1:(k:Int)<=jj:=by omega
  have c2:k<=jj:=by omega
  have m1:=hm.lt
  have m3:=hm.get
  have b1:a<d.size:=by omega
  have b2:k<d.size:=by omega
  have r1:=qal (d:=d) (k:=a) b1
  have r2:=qal (d:=d) (k:=k) b2
  have e:=ev249 d[k]! d[a]!
  have wk:=qab (n:=(k:Int)+1) (by omega) (by omega)
  have m4:=hm.cl d
  rw[Go.Sort.scanUp]
  by_cases l1:ltI d[k]! d[a]! = true
  .rw[l1]at e
   rw[if_pos (by simp[c2,l1])]
   have ih:=@q9f h i g hm n a hn ha d hd jj hj m (k+1) (by omega) (by omega)
   refine qfy (T':=qfv i g n a (k+1) jj) (h':=put h i g d) (fun f hf=>?_) ih h0
   generalize d[a]! = y at *
   generalize d[k]! = x at *
   simp[-qaq,-qbc,qaa,exT,qae,L251_2,qfv,c1,wk,m1,m3,m4,r1,r2,b1,b2,e,hd.symm,hf.ne]
  .have l1':ltI d[k]! d[a]! = false:=by simpa using l1
   rw[l1']at e
   rw[if_neg (by simp[c2,l1'])]
   refine qay (fun f hf=>?_) h0
   generalize d[a]! = y at *
   generalize d[k]! = x at *
   simp[-qaq,-qbc,qaa,exT,qae,L251_2,qfv,c1,wk,m1,m3,m4,r1,r2,b1,b2,e,hd.symm,hf.ne]
theorem zfo{h:H}{i g:Nat}(hm:Mem h i g)(n a:Nat)(hn:n<=1000000)(ha:a<n)(d:Array Int)(hd:d.size=n)(kk:Nat)(hkk:1<=kk):∀(j:Nat),j<n->∀(st:St),At (qfv i g n a kk j) (put h i g d) st->∃r,ev pg (.code (.going h.length L251_1) st)=some r/\qaj (.exit 2) (qfv i g n a kk (Go.Sort.scanDown (fun x=>!ltI x d[a]!) d kk j)) (put h i g d) r
 | 0,hj,st,h0=>by
  rw[Go.Sort.scanDown]
  refine qay (fun f hf=>?_) h0
  have c1:¬kk=0:=by omega
  simp[-qaq,-qbc,qaa,exT,qae,L251_1,qfv,c1,hf.ne]
 | j+1,hj,st,h0=>by
  rw[Go.Sort.scanDown]
  by_cases c2:kk<=j+1
  .have c1:(kk:Int)<=(j:Int)+1:=by omega
   have m1:=hm.lt
   have m3:=hm.get
   have b1:a<d.size:=by omega
   have b2:j+1<d.size:=by omega
   have p1:(0:Int)<=(j:Int)+1:=by omega
   have r1:=qal (d:=d) (k:=a) b1
   have r2:=qal (d:=d) (k:=j+1) b2
   have e:=ev249 d[j+1]! d[a]!
   have wk:=qab (n:=(j:Int)) (by omega) (by omega)
   have m4:=hm.cl d
   by_cases l1:ltI d[j+1]! d[a]! = true
   .rw[l1]at e
    rw[if_neg (by simp[c2,l1])]
    refine qay (fun f hf=>?_) h0
    generalize d[a]! = y at *
    generalize d[j+1]! = x at *
    simp[-qaq,-qbc,qaa,exT,qae,L251_1,qfv,c1,p1,wk,m1,m3,m4,r1,r2,b1,b2,e,hd.symm,hf.ne]
   .have l1':ltI d[j+1]! d[a]! = false:=by simpa using l1
    rw[l1']at e
    rw[if_pos (by simp[c2,l1'])]
    have ih:=@zfo h i g hm n a hn ha d hd kk hkk j (by omega)
    refine qfy (T':=qfv i g n a kk j) (h':=put h i g d) (fun f hf=>?_) ih h0
    generalize d[a]! = y at *
    generalize d[j+1]! = x at *
    simp[-qaq,-qbc,qaa,exT,qae,L251_1,qfv,c1,p1,wk,m1,m3,m4,r1,r2,b1,b2,e,hd.symm,hf.ne]
  .rw[if_neg (by simp[c2])]
   refine qay (fun f hf=>?_) h0
   have c1:¬(kk:Int)<=(j:Int)+1:=by omega
   simp[-qaq,-qbc,qaa,exT,qae,L251_1,qfv,c1,hf.ne]
theorem q9g{h:H}{i g:Nat}(hm:Mem h i g)(n a:Nat)(hn:n<=1000000)(ha:a<n)(d:Array Int)(hd:d.size=n)(kk:Nat)(hkk:1<=kk):∀(j:Nat),j<n->∀(st:St),At (qfv i g n a kk j) (put h i g d) st->∃r,ev pg (.code (.going h.length L251_3) st)=some r/\qaj (.exit 8) (qfv i g n a kk (Go.Sort.scanDown (fun x=>!ltI x d[a]!) d kk j)) (put h i g d) r
 | 0,hj,st,h0=>by
  rw[Go.Sort.scanDown]
  refine qay (fun f hf=>?_) h0
  have c1:¬kk=0:=by omega
  simp[-qaq,-qbc,qaa,exT,qae,L251_3,qfv,c1,hf.ne]
 | j+1,hj,st,h0=>by
  rw[Go.Sort.scanDown]
  by_cases c2:kk<=j+1
  .have c1:(kk:Int)<=(j:Int)+1:=by omega
   have m1:=hm.lt
   have m3:=hm.get
   have b1:a<d.size:=by omega
   have b2:j+1<d.size:=by omega
   have p1:(0:Int)<=(j:Int)+1:=by omega
   have r1:=qal (d:=d) (k:=a) b1
   have r2:=qal (d:=d) (k:=j+1) b2
   have e:=ev249 d[j+1]! d[a]!
   have wk:=qab (n:=(j:Int)) (by omega) (by omega)
   have m4:=hm.cl d
   by_cases l1:ltI d[j+1]! d[a]! = true
   .rw[l1]at e
    rw[if_neg (by simp[c2,l1])]
    refine qay (fun f hf=>?_) h0
    generalize d[a]! = y at *
    generalize d[j+1]! = x at *
    simp[-qaq,-qbc,qaa,exT,qae,L251_3,qfv,c1,p1,wk,m1,m3,m4,r1,r2,b1,b2,e,hd.symm,hf.ne]
   .have l1':ltI d[j+1]! d[a]! = false:=by simpa using l1
    rw[l1']at e
    rw[if_pos (by simp[c2,l1'])]
    have ih:=@q9g h i g hm n a hn ha d hd kk hkk j (by omega)
    refine qfy (T':=qfv i g n a kk j) (h':=put h i g d) (fun f hf=>?_) ih h0
    generalize d[a]! = y at *
    generalize d[j+1]! = x at *
    simp[-qaq,-qbc,qaa,exT,qae,L251_3,qfv,c1,p1,wk,m1,m3,m4,r1,r2,b1,b2,e,hd.symm,hf.ne]
  .rw[if_neg (by simp[c2])]
   refine qay (fun f hf=>?_) h0
   have c1:¬(kk:Int)<=(j:Int)+1:=by omega
   simp[-qaq,-qbc,qaa,exT,qae,L251_3,qfv,c1,hf.ne]
theorem q9d{h:H}{i g:Nat}(hm:Mem h i g)(n a:Nat)(hn:n<=1000000)(ha:a<n)(d:Array Int)(hd:d.size=n)(jj:Nat)(hj:jj<n):∀(m k:Nat),jj+1-k=m->k<=n->∀(st:St),At (qlw i g n a k jj) (put h i g d) st->∃r,ev pg (.code (.going h.length L250_0) st)=some r/\qaj (.exit 2) (qlw i g n a (Go.Sort.scanUp (fun x=>!ltI d[a]! x) d jj k) jj) (put h i g d) r
 | 0,k,hk,hkn,st,h0=>by
  rw[Go.Sort.scanUp,if_neg (by simp;omega)]
  refine qay (fun f hf=>?_) h0
  have c1:¬(k:Int)<=jj:=by omega
  simp[-qaq,-qbc,qaa,exT,qae,L250_0,qlw,c1,hf.ne]
 | m+1,k,hk,hkn,st,h0=>by
  have c1:(k:Int)<=jj:=by omega
  have c2:k<=jj:=by omega
  have m1:=hm.lt
  have m3:=hm.get
  have b1:a<d.size:=by omega
  have b2:k<d.size:=by omega
  have r1:=qal (d:=d) (k:=a) b1
  have r2:=qal (d:=d) (k:=k) b2
  have e:=ev249 d[a]! d[k]!
  have wk:=qab (n:=(k:Int)+1) (by omega) (by omega)
  have m4:=hm.cl d
  rw[Go.Sort.scanUp]
  by_cases l1:ltI d[a]! d[k]! = true
  .rw[l1]at e
   rw[if_neg (by simp[c2,l1])]
   refine qay (fun f hf=>?_) h0
   generalize d[a]! = y at *
   generalize d[k]! = x at *
   simp[-qaq,-qbc,qaa,exT,qae,L250_0,qlw,c1,wk,m1,m3,m4,r1,r2,b1,b2,e,hd.symm,hf.ne]
  .have l1':ltI d[a]! d[k]! = false:=by simpa using l1
   rw[l1']at e
   rw[if_pos (by simp[c2,l1'])]
   have ih:=@q9d h i g hm n a hn ha d hd jj hj m (k+1) (by omega) (by omega)
   refine qfy (T':=qlw i g n a (k+1) jj) (h':=put h i g d) (fun f hf=>?_) ih h0
   generalize d[a]! = y at *
   generalize d[k]! = x at *
   simp[-qaq,-qbc,qaa,exT,qae,L250_0,qlw,c1,wk,m1,m3,m4,r1,r2,b1,b2,e,hd.symm,hf.ne]
theorem q9e{h:H}{i g:Nat}(hm:Mem h i g)(n a:Nat)(hn:n<=1000000)(ha:a<n)(d:Array Int)(hd:d.size=n)(kk:Nat)(hkk:1<=kk):∀(j:Nat),j<n->∀(st:St),At (qlw i g n a kk j) (put h i g d) st->∃r,ev pg (.code (.going h.length L250_1) st)=some r/\qaj (.exit 4) (qlw i g n a kk (Go.Sort.scanDown (fun x=>ltI d[a]! x) d kk j)) (put h i g d) r
 | 0,hj,st,h0=>by
  rw[Go.Sort.scanDown]
  refine qay (fun f hf=>?_) h0
  have c1:¬kk=0:=by omega
  simp[-qaq,-qbc,qaa,exT,qae,L250_1,qlw,c1,hf.ne]
 | j+1,hj,st,h0=>by
  rw[Go.Sort.scanDown]
  by_cases c2:kk<=j+1
  .have c1:(kk:Int)<=(j:Int)+1:=by omega
   have m1:=hm.lt
   have m3:=hm.get
   have b1:a<d.size:=by omega
   have b2:j+1<d.size:=by omega
   have p1:(0:Int)<=(j:Int)+1:=by omega
   have r1:=qal (d:=d) (k:=a) b1
   have r2:=qal (d:=d) (k:=j+1) b2
   have e:=ev249 d[a]! d[j+1]!
   have wk:=qab (n:=(j:Int)) (by omega) (by omega)
   have m4:=hm.cl d
   by_cases l1:ltI d[a]! d[j+1]! = true
   .rw[l1]at e
    rw[if_pos (by simp[c2,l1])]
    have ih:=@q9e h i g hm n a hn ha d hd kk hkk j (by omega)
    refine qfy (T':=qlw i g n a kk j) (h':=put h i g d) (fun f hf=>?_) ih h0
    generalize d[a]! = y at *
    generalize d[j+1]! = x at *
    simp[-qaq,-qbc,qaa,exT,qae,L250_1,qlw,c1,p1,wk,m1,m3,m4,r1,r2,b1,b2,e,hd.symm,hf.ne]
   .have l1':ltI d[a]! d[j+1]! = false:=by simpa using l1
    rw[l1']at e
    rw[if_neg (by simp[c2,l1'])]
    refine qay (fun f hf=>?_) h0
    generalize d[a]! = y at *
    generalize d[j+1]! = x at *
    simp[-qaq,-qbc,qaa,exT,qae,L250_1,qlw,c1,p1,wk,m1,m3,m4,r1,r2,b1,b2,e,hd.symm,hf.ne]
  .rw[if_neg (by simp[c2])]
   refine qay (fun f hf=>?_) h0
   have c1:¬(kk:Int)<=(j:Int)+1:=by omega
   simp[-qaq,-qbc,qaa,exT,qae,L250_1,qlw,c1,hf.ne]
end Go.Proofs.YtddeacahiilikaaGreat
