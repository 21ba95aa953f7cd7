/- Sorting in place: the scans of the partitions. -/
import Derived.Test.YtddeacahiilikaaGreatMSo4
set_option linter.all false
namespace Go.Proofs.YtddeacahiilikaaGreat
open Go Go.Am Go.Proofs
set_option maxRecDepth 100000
def qfy(i g n:Nat)(a k j:Nat):Tm:=[some (.sl i g 1 0 n),some (num a),none,none,none,none,none,none,none,none,some (num k),some (num j)]++List.replicate 156 none
def qlw(i g n:Nat)(a k j:Nat):Tm:=[some (.sl i g 1 0 n),some (num a),none,none,none,none,none,none,none,some (num k),some (num j)]++List.replicate 73 none
theorem zjl{h:H}{i g:Nat}(hm:Mem h i g)(n a:Nat)(hn:n<=1000000)(ha:a<n)(d:Array Int)(hd:d.size=n)(jj:Nat)(hj:jj<n):∀(m k:Nat),jj+1-k=m->k<=n->∀(st:St),At (qfy i g n a k jj) (put h i g d) st->∃r,ev pg (.code (.going h.length L251_0) st)=some r/\qai (.exit 0) (qfy i g n a (Go.Sort.scanUp (fun x=>ltI x d[a]!) d jj k) jj) (put h i g d) r
 | 0,k,hk,hkn,st,h0=>by
  rw[Go.Sort.scanUp,if_neg (by simp;omega)]
  refine qaz (fun f hf=>?_) h0
  have c1:¬(k:Int)<=jj:=by omega
  simp[-qan,-qay,qaa,exT,qad,L251_0,qfy,c1,hf.ne]
 | m+1,k,hk,hkn,st,h0=>by
  have c1:(k:Int)<=jj:=by omega
  have c2:k<=jj:=by omega
  have m1:=hm.lt
  have m3:=hm.get
  have b1:a<d.size:=by omega
  have b2:k<d.size:=by omega
  have r1:=qak (d:=d) (k:=a) b1
  have r2:=qak (d:=d) (k:=k) b2
  have e:=ev249 d[k]! d[a]!
  have wk:=qab (n:=(k:Int)+1) (by omega) (by omega)
  have m4:=hm.cl d
  rw[Go.Sort.scanUp]
  by_cases l1:ltI d[k]! d[a]! = true
  .rw[l1]at e
   rw[if_pos (by simp[c2,l1])]
   have ih:=@zjl h i g hm n a hn ha d hd jj hj m (k+1) (by omega) (by omega)
   refine qgc (T':=qfy i g n a (k+1) jj) (h':=put h i g d) (fun f hf=>?_) ih h0
   generalize d[a]! = y at *
   generalize d[k]! = x at *
   simp[-qan,-qay,qaa,exT,qad,L251_0,qfy,c1,wk,m1,m3,m4,r1,r2,b1,b2,e,hd.symm,hf.ne]
  .have l1':ltI d[k]! d[a]! = false:=by simpa using l1
   rw[l1']at e
   rw[if_neg (by simp[c2,l1'])]
   refine qaz (fun f hf=>?_) h0
   generalize d[a]! = y at *
   generalize d[k]! = x at *
   simp[-qan,-qay,qaa,exT,qad,L251_0,qfy,c1,wk,m1,m3,m4,r1,r2,b1,b2,e,hd.symm,hf.ne]
theorem zcd{h:H}{i g:Nat}(hm:Mem h i g)(n a:Nat)(hn:n<=1000000)(ha:a<n)(d:Array Int)(hd:d.size=n)(jj:Nat)(hj:jj<n):∀(m k:Nat),jj+1-k=m->k<=n->∀(st:St),At (qfy i g n a k jj) (put h i g d) st->∃r,ev pg (.code (.going h.length L251_2) st)=some r/\qai (.exit 6) (qfy i g n a (Go.Sort.scanUp (fun x=>ltI x d[a]!) d jj k) jj) (put h i g d) r
 | 0,k,hk,hkn,st,h0=>by
  rw[Go.Sort.scanUp,if_neg (by simp;omega)]
  refine qaz (fun f hf=>?_) h0
  have c1:¬(k:Int)<=jj:=by omega
  simp[-qan,-qay,qaa,exT,qad,L251_2,qfy,c1,hf.ne]
 | m+1,k,hk,hkn,st,h0=>by
  have c1:(k:Int)<=jj:=by omega
  have c2:k<=jj:=by omega
  have m1:=hm.lt
  have m3:=hm.get
  have b1:a<d.size:=by omega
  have b2:k<d.size:=by omega
  have r1:=qak (d:=d) (k:=a) b1
  have r2:=qak (d:=d) (k:=k) b2
  have e:=ev249 d[k]! d[a]!
  have wk:=qab (n:=(k:Int)+1) (by omega) (by omega)
  have m4:=hm.cl d
  rw[Go.Sort.scanUp]
  by_cases l1:ltI d[k]! d[a]! = true
  .rw[l1]at e
   rw[if_pos (by simp[c2,l1])]
   have ih:=@zcd h i g hm n a hn ha d hd jj hj m (k+1) (by omega) (by omega)
   refine qgc (T':=qfy i g n a (k+1) jj) (h':=put h i g d) (fun f hf=>?_) ih h0
   generalize d[a]! = y at *
   generalize d[k]! = x at *
   simp[-qan,-qay,qaa,exT,qad,L251_2,qfy,c1,wk,m1,m3,m4,r1,r2,b1,b2,e,hd.symm,hf.ne]
  .have l1':ltI d[k]! d[a]! = false:=by simpa using l1
   rw[l1']at e
   rw[if_neg (by simp[c2,l1'])]
   refine qaz (fun f hf=>?_) h0
   generalize d[a]! = y at *
   generalize d[k]! = x at *
   simp[-qan,-qay,qaa,exT,qad,L251_2,qfy,c1,wk,m1,m3,m4,r1,r2,b1,b2,e,hd.symm,hf.ne]
theorem zjm{h:H}{i g:Nat}(hm:Mem h i g)(n a:Nat)(hn:n<=1000000)(ha:a<n)(d:Array Int)(hd:d.size=n)(kk:Nat)(hkk:1<=kk):∀(j:Nat),j<n->∀(st:St),At (qfy i g n a kk j) (put h i g d) st->∃r,ev pg (.code (.going h.length L251_1) st)=some r/\qai (.exit 2) (qfy i g n a kk (Go.Sort.scanDown (fun x=>!ltI x d[a]!) d kk j)) (put h i g d) r
 | 0,hj,st,h0=>by
  rw[Go.Sort.scanDown]
  refine qaz (fun f hf=>?_) h0
  have c1:¬kk=0:=by omega
  simp[-qan,-qay,qaa,exT,qad,L251_1,qfy,c1,hf.ne]
 | j+1,hj,st,h0=>by
  rw[Go.Sort.scanDown]
  by_cases c2:kk<=j+1
  .have c1:(kk:Int)<=(j:Int)+1:=by omega
   have m1:=hm.lt
   have m3:=hm.get
   have b1:a<d.size:=by omega
   have b2:j+1<d.size:=by omega
   have p1:(0:Int)<=(j:Int)+1:=by omega
   have r1:=qak (d:=d) (k:=a) b1
   have r2:=qak (d:=d) (k:=j+1) b2
   have e:=ev249 d[j+1]! d[a]!
   have wk:=qab (n:=(j:Int)) (by omega) (by omega)
   have m4:=hm.cl d
   by_cases l1:ltI d[j+1]! d[a]! = true
   .rw[l1]at e
    rw[if_neg (by simp[c2,l1])]
    refine qaz (fun f hf=>?_) h0
    generalize d[a]! = y at *
    generalize d[j+1]! = x at *
    simp[-qan,-qay,qaa,exT,qad,L251_1,qfy,c1,p1,wk,m1,m3,m4,r1,r2,b1,b2,e,hd.symm,hf.ne]
   .have l1':ltI d[j+1]! d[a]! = false:=by simpa using l1
    rw[l1']at e
    rw[if_pos (by simp[c2,l1'])]
    have ih:=@zjm h i g hm n a hn ha d hd kk hkk j (by omega)
    refine qgc (T':=qfy i g n a kk j) (h':=put h i g d) (fun f hf=>?_) ih h0
    generalize d[a]! = y at *
    generalize d[j+1]! = x at *
    simp[-qan,-qay,qaa,exT,qad,L251_1,qfy,c1,p1,wk,m1,m3,m4,r1,r2,b1,b2,e,hd.symm,hf.ne]
  .rw[if_neg (by simp[c2])]
   refine qaz (fun f hf=>?_) h0
   have c1:¬(kk:Int)<=(j:Int)+1:=by omega
   simp[-qan,-qay,qaa,exT,qad,L251_1,qfy,c1,hf.ne]
theorem zce{h:H}{i g:Nat}(hm:Mem h i g)(n a:Nat)(hn:n<=1000000)(ha:a<n)(d:Array Int)(hd:d.size=n)(kk:Nat)(hkk:1<=kk):∀(j:Nat),j<n->∀(st:St),At (qfy i g n a kk j) (put h i g d) st->∃r,ev pg (.code (.going h.length L251_3) st)=some r/\qai (.exit 8) (qfy i g n a kk (Go.Sort.scanDown (fun x=>!ltI x d[a]!) d kk j)) (put h i g d) r
 | 0,hj,st,h0=>by
  rw[Go.Sort.scanDown]
  refine qaz (fun f hf=>?_) h0
  have c1:¬kk=0:=by omega
  simp[-qan,-qay,qaa,exT,qad,L251_3,qfy,c1,hf.ne]
 | j+1,hj,st,h0=>by
  rw[Go.Sort.scanDown]
  by_cases c2:kk<=j+1
  .have c1:(kk:Int)<=(j:Int)+1:=by omega
   have m1:=hm.lt
   have m3:=hm.get
   have b1:a<d.size:=by omega
   have b2:j+1<d.size:=by omega
   have p1:(0:Int)<=(j:Int)+1:=by omega
   have r1:=qak (d:=d) (k:=a) b1
   have r2:=qak (d:=d) (k:=j+1) b2
   have e:=ev249 d[j+1]! d[a]!
   have wk:=qab (n:=(j:Int)) (by omega) (by omega)
   have m4:=hm.cl d
   by_cases l1:ltI d[j+1]! d[a]! = true
   .rw[l1]at e
    rw[if_neg (by simp[c2,l1])]
    refine qaz (fun f hf=>?_) h0
    generalize d[a]! = y at *
    generalize d[j+1]! = x at *
    simp[-qan,-qay,qaa,exT,qad,L251_3,qfy,c1,p1,wk,m1,m3,m4,r1,r2,b1,b2,e,hd.symm,hf.ne]
   .have l1':ltI d[j+1]! d[a]! = false:=by simpa using l1
    rw[l1']at e
    rw[if_pos (by simp[c2,l1'])]
    have ih:=@zce h i g hm n a hn ha d hd kk hkk j (by omega)
    refine qgc (T':=qfy i g n a kk j) (h':=put h i g d) (fun f hf=>?_) ih h0
    generalize d[a]! = y at *
    generalize d[j+1]! = x at *
    simp[-qan,-qay,qaa,exT,qad,L251_3,qfy,c1,p1,wk,m1,m3,m4,r1,r2,b1,b2,e,hd.symm,hf.ne]
  .rw[if_neg (by simp[c2])]
   refine qaz (fun f hf=>?_) h0
   have c1:¬(kk:Int)<=(j:Int)+1:=by omega
   simp[-qan,-qay,qaa,exT,qad,L251_3,qfy,c1,hf.ne]
theorem zcb{h:H}{i g:Nat}(hm:Mem h i g)(n a:Nat)(hn:n<=1000000)(ha:a<n)(d:Array Int)(hd:d.size=n)(jj:Nat)(hj:jj<n):∀(m k:Nat),jj+1-k=m->k<=n->∀(st:St),At (qlw i g n a k jj) (put h i g d) st->∃r,ev pg (.code (.going h.length L250_0) st)=some r/\qai (.exit 2) (qlw i g n a (Go.Sort.scanUp (fun x=>!ltI d[a]! x) d jj k) jj) (put h i g d) r
 | 0,k,hk,hkn,st,h0=>by
  rw[Go.Sort.scanUp,if_neg (by simp;omega)]
  refine qaz (fun f hf=>?_) h0
  have c1:¬(k:Int)<=jj:=by omega
  simp[-qan,-qay,qaa,exT,qad,L250_0,qlw,c1,hf.ne]
 | m+1,k,hk,hkn,st,h0=>by
  have c1:(k:Int)<=jj:=by omega
  have c2:k<=jj:=by omega
  have m1:=hm.lt
  have m3:=hm.get
  have b1:a<d.size:=by omega
  have b2:k<d.size:=by omega
  have r1:=qak (d:=d) (k:=a) b1
  have r2:=qak (d:=d) (k:=k) b2
  have e:=ev249 d[a]! d[k]!
  have wk:=qab (n:=(k:Int)+1) (by omega) (by omega)
  have m4:=hm.cl d
  rw[Go.Sort.scanUp]
  by_cases l1:ltI d[a]! d[k]! = true
  .rw[l1]at e
   rw[if_neg (by simp[c2,l1])]
   refine qaz (fun f hf=>?_) h0
   generalize d[a]! = y at *
   generalize d[k]! = x at *
   simp[-qan,-qay,qaa,exT,qad,L250_0,qlw,c1,wk,m1,m3,m4,r1,r2,b1,b2,e,hd.symm,hf.ne]
  .have l1':ltI d[a]! d[k]! = false:=by simpa using l1
   rw[l1']at e
   rw[if_pos (by simp[c2,l1'])]
   have ih:=@zcb h i g hm n a hn ha d hd jj hj m (k+1) (by omega) (by omega)
   refine qgc (T':=qlw i g n a (k+1) jj) (h':=put h i g d) (fun f hf=>?_) ih h0
   generalize d[a]! = y at *
   generalize d[k]! = x at *
   simp[-qan,-qay,qaa,exT,qad,L250_0,qlw,c1,wk,m1,m3,m4,r1,r2,b1,b2,e,hd.symm,hf.ne]
theorem zcc{h:H}{i g:Nat}(hm:Mem h i g)(n a:Nat)(hn:n<=1000000)(ha:a<n)(d:Array Int)(hd:d.size=n)(kk:Nat)(hkk:1<=kk):∀(j:Nat),j<n->∀(st:St),At (qlw i g n a kk j) (put h i g d) st->∃r,ev pg (.code (.going h.length L250_1) st)=some r/\qai (.exit 4) (qlw i g n a kk (Go.Sort.scanDown (fun x=>ltI d[a]! x) d kk j)) (put h i g d) r
 | 0,hj,st,h0=>by
  rw[Go.Sort.scanDown]
  refine qaz (fun f hf=>?_) h0
  have c1:¬kk=0:=by omega
  simp[-qan,-qay,qaa,exT,qad,L250_1,qlw,c1,hf.ne]
 | j+1,hj,st,h0=>by
  rw[Go.Sort.scanDown]
  by_cases c2:kk<=j+1
  .have c1:(kk:Int)<=(j:Int)+1:=by omega
   have m1:=hm.lt
   have m3:=hm.get
   have b1:a<d.size:=by omega
   have b2:j+1<d.size:=by omega
   have p1:(0:Int)<=(j:Int)+1:=by omega
   have r1:=qak (d:=d) (k:=a) b1
   have r2:=qak (d:=d) (k:=j+1) b2
   have e:=ev249 d[a]! d[j+1]!
   have wk:=qab (n:=(j:Int)) (by omega) (by omega)
   have m4:=hm.cl d
   by_cases l1:ltI d[a]! d[j+1]! = true
   .rw[l1]at e
    rw[if_pos (by simp[c2,l1])]
    have ih:=@zcc h i g hm n a hn ha d hd kk hkk j (by omega)
    refine qgc (T':=qlw i g n a kk j) (h':=put h i g d) (fun f hf=>?_) ih h0
    generalize d[a]! = y at *
    generalize d[j+1]! = x at *
    simp[-qan,-qay,qaa,exT,qad,L250_1,qlw,c1,p1,wk,m1,m3,m4,r1,r2,b1,b2,e,hd.symm,hf.ne]
   .have l1':ltI d[a]! d[j+1]! = false:=by simpa using l1
    rw[l1']at e
    rw[if_neg (by simp[c2,l1'])]
    refine qaz (fun f hf=>?_) h0
    generalize d[a]! = y at *
    generalize d[j+1]! = x at *
    simp[-qan,-qay,qaa,exT,qad,L250_1,qlw,c1,p1,wk,m1,m3,m4,r1,r2,b1,b2,e,hd.symm,hf.ne]
  .rw[if_neg (by simp[c2])]
   refine qaz (fun f hf=>?_) h0
   have c1:¬(kk:Int)<=(j:Int)+1:=by omega
   simp[-qan,-qay,qaa,exT,qad,L250_1,qlw,c1,hf.ne]
end Go.Proofs.YtddeacahiilikaaGreat
