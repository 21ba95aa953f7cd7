/- Sorting in place: two numbers, the median. Sorting in place: insertion, reversing, the heap. -/
import Derived.Test.YtddeacahiilikaaGreatRSo0
import Derived.Test.YtddeacahiilikaaGreatRPg6
set_option linter.all false
namespace Go.Proofs.YtddeacahiilikaaGreat
open Go Go.Am Go.Proofs
set_option maxRecDepth 100000
abbrev ltI:Int->Int->Bool:=Go.Sort.ltInt
theorem ev285(x:Int):ev pg (.call (.fn 285 [] []) [num x] [])=some { v:=.bool false,st:=⟨[],[]⟩ }:=by
 rw[qac,pg285]
 simp[ir285]
theorem ev249(x y:Int):ev pg (.call (.fn 249 [] []) [num x,num y] [])=some { v:=.bool (ltI x y),st:=⟨[],[]⟩ }:=by
 have h1:=ev285 x
 rw[qac,pg249]
 unfold ltI Go.Sort.ltInt
 simp[ir249,h1]
theorem qal{d:Array Int}{k:Nat}(hk:k<d.size):∀h,(qgc d)[k]'h=[num d[k]!]:=by
 intro h
 have:=zae hk
 rw[jA h]at this
 exact Option.some.inj this
abbrev zod(h:H)(i g:Nat)(d:Array Int)(s:Int):H:=put h i g d++[⟨0,.box [num s]⟩]
theorem q6v{h:H}(hc:qdb h)(i g:Nat)(d:Array Int)(s:Int):qdb (zod h i g d s):=by
 refine qfq (qku hc i g d) ?_
 intro o ho
 rw[List.mem_singleton.1 ho]
 rfl
theorem qnm{h:H}(hc:qdb h)(i g:Nat)(d:Array Int)(s:Int):qaq (h.length+1) (put h i g d++[⟨0,.box [num s]⟩])=put h i g d++[⟨0,.box [num s]⟩]:=by
 have:=qeo (q6v hc i g d s)
 simpa using this
theorem zea{h:H}{i:Nat}(hi:i<h.length)(g:Nat)(d:Array Int)(s:Int):(put h i g d++[⟨0,.box [num s]⟩])[i]?=some ⟨g,.arr 1 (qgc d)⟩:=by
 rw[jI (by simpa using hi),q0w hi]
theorem q3c(h:H)(i g:Nat)(d:Array Int)(s:Int):(put h i g d++[⟨0,.box [num s]⟩])[h.length]?=some ⟨0,.box [num s]⟩:=by
 rw[jJ (by simp),qjd,Nat.sub_self]
 rfl
theorem zeb(h:H)(i g:Nat)(d:Array Int)(s t:Int):(put h i g d++[(⟨0,.box [num s]⟩:Ob)]).set h.length ⟨0,.box [num t]⟩=put h i g d++[⟨0,.box [num t]⟩]:=by
 rw[List.set_append_right _ _ (by simp),qjd,Nat.sub_self]
 rfl
theorem ev303{h:H}{i:Nat}(hi:i<h.length)(hc:qdb h)(g:Nat)(d:Array Int)(a b:Nat)(s:Nat)(ha:a<d.size)(hb:b<d.size)(hs:s<=100000):ev pg (.call (.fn 303 [] []) [.sl i g 1 0 d.size,num a,num b,.bptr h.length 0] (zod h i g d s))=some { v:=.tup [num (Go.Sort.order2 ltI d a b s).1,num (Go.Sort.order2 ltI d a b s).2.1],st:=⟨[],zod h i g d (Go.Sort.order2 ltI d a b s).2.2⟩ }:=by
 have g1:=zea hi g d s
 have g2:=q3c h i g d s
 have g3:=zeb h i g d s (s+1)
 have g4:=qnm hc i g d s
 have g5:=qnm hc i g d (s+1)
 have r1:=qal ha
 have r2:=qal hb
 have h111:=ev249 d[b]! d[a]!
 have ws:=qab (n:=(s:Int)+1) (by omega) (by omega)
 rw[qac,pg303]
 unfold Go.Sort.order2
 generalize d[a]! = x at *
 generalize d[b]! = y at *
 cases hl:ltI y x<;>rw[hl]at h111<;>simp[-qaq,qaa,exT,qae,ir303,g1,g2,g3,g4,g5,r1,r2,h111,ws,ha,hb]
theorem qig{n:Nat}{d:Array Int}{a b s:Nat}(ha:a<n)(hb:b<n):(Go.Sort.order2 ltI d a b s).1<n/\(Go.Sort.order2 ltI d a b s).2.1<n/\(Go.Sort.order2 ltI d a b s).2.2<=s+1:=by
 unfold Go.Sort.order2
 split
 .exact⟨hb,ha,jD _⟩
 .exact⟨ha,hb,by simp⟩
theorem qrq{n:Nat}{d:Array Int}{a b c s:Nat}(ha:a<n)(hb:b<n)(hc:c<n):(Go.Sort.median ltI d a b c s).1<n/\(Go.Sort.median ltI d a b c s).2<=s+3:=by
 unfold Go.Sort.median
 obtain⟨h1,h2,h3⟩:=qig (d:=d) (s:=s) ha hb
 generalize Go.Sort.order2 ltI d a b s=r1 at *
 obtain⟨h4,h5,h6⟩:=qig (d:=d) (s:=r1.2.2) h2 hc
 simp only
 generalize Go.Sort.order2 ltI d r1.2.1 c r1.2.2=r2 at *
 obtain⟨h7,h8,h9⟩:=qig (d:=d) (s:=r2.2.2) h1 h4
 exact⟨h8,by omega⟩
theorem ev284{h:H}{i:Nat}(hi:i<h.length)(hc:qdb h)(g:Nat)(d:Array Int)(a b c:Nat)(s:Nat)(ha:a<d.size)(hb:b<d.size)(hcc:c<d.size)(hs:s<=90000):ev pg (.call (.fn 284 [] []) [.sl i g 1 0 d.size,num a,num b,num c,.bptr h.length 0] (zod h i g d s))=some { v:=num (Go.Sort.median ltI d a b c s).1,st:=⟨[],zod h i g d (Go.Sort.median ltI d a b c s).2⟩ }:=by
 have g4:=fun s=>qnm hc i g d s
 have e1:=ev303 hi hc g d a b s ha hb (by omega)
 unfold Go.Sort.median
 obtain⟨h1,h2,h3⟩:=qig (d:=d) (s:=s) ha hb
 generalize Go.Sort.order2 ltI d a b s=r1 at *
 have e2:=ev303 hi hc g d r1.2.1 c r1.2.2 h2 hcc (by omega)
 obtain⟨h4,h5,h6⟩:=qig (d:=d) (s:=r1.2.2) h2 hcc
 simp only
 generalize Go.Sort.order2 ltI d r1.2.1 c r1.2.2=r2 at *
 have e3:=ev303 hi hc g d r1.1 r2.1 r2.2.2 h1 h4 (by omega)
 obtain⟨h7,h8,h9⟩:=qig (d:=d) (s:=r2.2.2) h1 h4
 generalize Go.Sort.order2 ltI d r1.1 r2.1 r2.2.2=r3 at *
 rw[qac,pg284]
 simp[-qaq,ir284,e1,e2,e3,g4]
theorem ev283{h:H}{i:Nat}(hi:i<h.length)(hc:qdb h)(g:Nat)(d:Array Int)(a:Nat)(s:Nat)(h1:1<=a)(ha:a+1<d.size)(hn:d.size<=1000000)(hs:s<=90000):ev pg (.call (.fn 283 [] []) [.sl i g 1 0 d.size,num a,.bptr h.length 0] (zod h i g d s))=some { v:=num (Go.Sort.medianAdjacent ltI d a s).1,st:=⟨[],zod h i g d (Go.Sort.medianAdjacent ltI d a s).2⟩ }:=by
 have g4:=fun s=>qnm hc i g d s
 have e1:=ev284 hi hc g d (a-1) a (a+1) s (by omega) (by omega) ha hs
 unfold Go.Sort.medianAdjacent
 have w1:=qab (n:=(a:Int)-1) (by omega) (by omega)
 have w2:=qab (n:=(a:Int)+1) (by omega) (by omega)
 generalize Go.Sort.median ltI d (a-1) a (a+1) s=r at *
 rw[show(((a-1:Nat)):Int)=(a:Int)-1 by omega,show(((a+1:Nat)):Int)=(a:Int)+1 by omega]at e1
 rw[qac,pg283]
 simp[-qaq,ir283,e1,g4,w1,w2]
def qtb:Go.Sort.Hint->Int
 | .unknown=>0
 | .increasing=>1
 | .decreasing=>2
theorem ev246{h:H}{i:Nat}(hi:i<h.length)(hc:qdb h)(g:Nat)(d:Array Int)(a l:Nat)(hb:a+l<=d.size)(h8:8<=l)(hn:d.size<=1000000):ev pg (.call (.fn 246 [] []) [.sl i g 1 0 d.size,num a,num (a+l:Nat)] (put h i g d))=some { v:=.tup [num (Go.Sort.choosePivot ltI d a (a+l)).1,num (qtb (Go.Sort.choosePivot ltI d a (a+l)).2)],st:=⟨[],put h i g d⟩ }:=by
 have g4:=fun s=>qnm hc i g d s
 have g2:=fun s=>q3c h i g d s
 have g5:∀s,qaq h.length (put h i g d++[⟨0,.box [num s]⟩])=put h i g d:=fun s=>by
  have:=qgh (qku hc i g d) [⟨0,.box [num s]⟩]
  rwa [qjd]at this
 unfold Go.Sort.choosePivot
 simp only[Nat.add_sub_cancel_left,Nat.mul_one,ge_iff_le,h8,if_true]
 have hq:Int.tdiv (l:Int) 4=((l / 4:Nat):Int):=by
  rw[show(4:Int)=((4:Nat):Int)by rfl,<-Int.ofNat_tdiv]
 have q1:4*(l / 4)<=l:=by omega
 have q2:2<=l / 4:=by omega
 generalize l / 4=q at *
 have h8':(8:Int)<=l:=by omega
 have wl:IntKind.i64.wrap ((a:Int)+l-a)=(l:Int):=by
  rw[qab (by omega) (by omega)]
  omega
 have wq:=qab (n:=(q:Int)) (by omega) (by omega)
 have wq2:=qab (n:=(q:Int)*2) (by omega) (by omega)
 have wq3:=qab (n:=(q:Int)*3) (by omega) (by omega)
 have wi:=qab (n:=(a:Int)+q) (by omega) (by omega)
 have wj:=qab (n:=(a:Int)+q*2) (by omega) (by omega)
 have wk:=qab (n:=(a:Int)+q*3) (by omega) (by omega)
 by_cases h50:50<=l
 .have h50':(50:Int)<=l:=by omega
  simp only[h50,if_true]
  have e1:=ev283 hi hc g d (a+q) 0 (by omega) (by omega) hn (by omega)
  have b1:=qrq (d:=d) (s:=0) (a:=a+q-1) (b:=a+q) (c:=a+q+1) (n:=d.size) (by omega) (by omega) (by omega)
  change (Go.Sort.medianAdjacent ltI d (a+q) 0).1<d.size/\(Go.Sort.medianAdjacent ltI d (a+q) 0).2<=0+3 at b1
  generalize Go.Sort.medianAdjacent ltI d (a+q) 0=r1 at *
  have e2:=ev283 hi hc g d (a+q*2) r1.2 (by omega) (by omega) hn (by omega)
  have b2:=qrq (d:=d) (s:=r1.2) (a:=a+q*2-1) (b:=a+q*2) (c:=a+q*2+1) (n:=d.size) (by omega) (by omega) (by omega)
  change (Go.Sort.medianAdjacent ltI d (a+q*2) r1.2).1<d.size/\(Go.Sort.medianAdjacent ltI d (a+q*2) r1.2).2<=r1.2+3 at b2
  generalize Go.Sort.medianAdjacent ltI d (a+q*2) r1.2=r2 at *
  have e3:=ev283 hi hc g d (a+q*3) r2.2 (by omega) (by omega) hn (by omega)
  have b3:=qrq (d:=d) (s:=r2.2) (a:=a+q*3-1) (b:=a+q*3) (c:=a+q*3+1) (n:=d.size) (by omega) (by omega) (by omega)
  change (Go.Sort.medianAdjacent ltI d (a+q*3) r2.2).1<d.size/\(Go.Sort.medianAdjacent ltI d (a+q*3) r2.2).2<=r2.2+3 at b3
  generalize Go.Sort.medianAdjacent ltI d (a+q*3) r2.2=r3 at *
  have e4:=ev284 hi hc g d r1.1 r2.1 r3.1 r3.2 b1.1 b2.1 b3.1 (by omega)
  generalize Go.Sort.median ltI d r1.1 r2.1 r3.1 r3.2=r at *
  obtain⟨m,t⟩:=r
  rw[qac,pg246]
  simp at e1 e2 e3 e4
  by_cases t0:t=0
  .subst t0
   simp[-qaq,ir246,h8',h50',hq,wl,wq,wq2,wq3,wi,wj,wk,e1,e2,e3,e4,g4,g2,g5,qtb]
  .have t0':((t:Int)==0)=false:=by simp;omega
   by_cases t1:t=12
   .subst t1
    simp[-qaq,ir246,h8',h50',hq,wl,wq,wq2,wq3,wi,wj,wk,e1,e2,e3,e4,g4,g2,g5,qtb]
   .have t1':((t:Int)==12)=false:=by simp;omega
    simp[-qaq,ir246,h8',h50',hq,wl,wq,wq2,wq3,wi,wj,wk,e1,e2,e3,e4,g4,g2,g5,qtb,t0,t0',t1,t1']
 .have h50':¬(50:Int)<=l:=by omega
  simp only[h50,if_false]
  have e4:=ev284 hi hc g d (a+q) (a+q*2) (a+q*3) 0 (by omega) (by omega) (by omega) (by omega)
  generalize Go.Sort.median ltI d (a+q) (a+q*2) (a+q*3) 0=r at *
  obtain⟨m,t⟩:=r
  rw[qac,pg246]
  simp at e4
  by_cases t0:t=0
  .subst t0
   simp[-qaq,ir246,h8',h50',hq,wl,wq,wq2,wq3,wi,wj,wk,e4,g4,g2,g5,qtb]
  .have t0':((t:Int)==0)=false:=by simp;omega
   by_cases t1:t=12
   .subst t1
    simp[-qaq,ir246,h8',h50',hq,wl,wq,wq2,wq3,wi,wj,wk,e4,g4,g2,g5,qtb]
   .have t1':((t:Int)==12)=false:=by simp;omega
    simp[-qaq,ir246,h8',h50',hq,wl,wq,wq2,wq3,wi,wj,wk,e4,g4,g2,g5,qtb,t0,t0',t1,t1']
theorem qfy{P:Prg}{nx:Nat}{c:C}{T T':Tm}{h h':H}{Q:R->Prop}
  (step:∀f,Junk f->∃r,ev P (.code c ⟨fill f 0 T,h⟩)=some r/\((r.x=.normal/\At T' h' (qta nx r.st))\/(r.x ≠ .normal/\Q r)))
  (next:∀st,At T' h' st->∃r,ev P (.code (.going nx c) st)=some r/\Q r) {st:St} (h0:At T h st):∃r,ev P (.code (.going nx c) st)=some r/\Q r:=by
 obtain⟨f,hf,rfl⟩:=h0.eq
 obtain⟨r,e,hr⟩:=step f hf
 rw[qdy,e]
 rcases hr with⟨hx,ha⟩ | ⟨hx,hq⟩
 .obtain⟨r',e',hq⟩:=next _ ha
  refine⟨r',?_,hq⟩
  simp only[hx]
  exact e'
 .refine⟨r,?_,hq⟩
  simp only
theorem qay{P:Prg}{nx:Nat}{c:C}{T:Tm}{h:H}{Q:R->Prop}
  (step:∀f,Junk f->∃r,ev P (.code c ⟨fill f 0 T,h⟩)=some r/\r.x ≠ .normal/\Q r) {st:St} (h0:At T h st):∃r,ev P (.code (.going nx c) st)=some r/\Q r:=by
 obtain⟨f,hf,rfl⟩:=h0.eq
 obtain⟨r,e,hx,hq⟩:=step f hf
 rw[qdy,e]
 refine⟨r,?_,hq⟩
 simp only
theorem qbx(e:Array Int)(k:Nat):∃z,∀h,(qgc e)[k]'h=[num z]:=⟨e[k]!,fun h=>qal (by simpa using h) h⟩
structure Mem(h:H)(i g:Nat):Prop where
 lt:i<h.length
 get:∀d hh,(put h i g d)[i]'hh=⟨g,.arr 1 (qgc d)⟩
 set:∀d d',(put h i g d).set i ⟨g,.arr 1 (qgc d')⟩=put h i g d'
 cl:∀d,qbc h.length (put h i g d)=put h i g d
 ck:∀d,qaq h.length (put h i g d)=put h i g d
theorem qgu{h:H}{i:Nat}(hi:i<h.length)(hc:qdb h)(g:Nat):Mem h i g :=
 ⟨hi,fun d hh=>by
  have:=q0w hi g d
  rw[jA hh]at this
  exact Option.some.inj this,q9z h i g,zec hc i g,zof hc i g⟩
abbrev swI:Array Int->Nat->Nat->Array Int:=Go.Sort.swp
theorem qch(d:Array Int)(a b:Nat):(swI d a b).size=d.size:=by simp[swI,Go.Sort.swp]
def zge(i g n:Nat)(a b k j:Nat):Tm:=[some (.sl i g 1 0 n),some (num a),some (num b),none,none,none,some (num k),some (num j)]++List.replicate 41 none
def q6a(i g n:Nat)(a b k:Nat):Tm:=[some (.sl i g 1 0 n),some (num a),some (num b),none,none,none,some (num k),none]++List.replicate 41 none
theorem zfh{h:H}{i g:Nat}(hm:Mem h i g)(n a b k:Nat)(hn:n<=1000000):∀(j:Nat) (d:Array Int),d.size=n->j<n->∀{st:St},At (zge i g n a b k j) (put h i g d) st->∃r,ev pg (.code (.going h.length L243_0) st)=some r/\qaj (.exit 2) (q6a i g n a b k) (put h i g (Go.Sort.insInner ltI a j d)) r/\(Go.Sort.insInner ltI a j d).size=n
 | 0,d,hd,hj,st,h0=>by
  rw[Go.Sort.insInner]
  refine qay (fun f hf=>?_) h0
  have ha:¬((a:Int)<0):=by omega
  simp[-qaq,-qbc,qaa,exT,qae,L243_0,zge,q6a,ha,hd,hf.ne]
 | j+1,d,hd,hj,st,h0=>by
  rw[Go.Sort.insInner]
  have m1:=hm.lt
  have m2:=hm.set
  have m3:=hm.get
  have r1:=qal (d:=d) (k:=j+1) (by omega)
  have r2:=qal (d:=d) (k:=j) (by omega)
  have h111:=ev249 d[j+1]! d[j]!
  have hjn:j<d.size:=by omega
  have p1:(0:Int)<=(j:Int)+1:=by omega
  have hjn2:j+1<d.size:=by omega
  have w1:=qab (n:=(j:Int)) (by omega) (by omega)
  by_cases ha:a<j+1
  .have ha':(a:Int)<(j:Int)+1:=by omega
   by_cases hl:ltI d[j+1]! d[j]! = true
   .rw[if_pos (by simp[ha,hl])]
    rw[hl]at h111
    have hsw:(d.setIfInBounds (j+1) d[j]!).setIfInBounds j d[j+1]! = swI d (j+1) j:=rfl
    have ih:=fun st=>@zfh h i g hm n a b k hn j (swI d (j+1) j) (by rw[qch];exact hd) (by omega) st
    refine qfy (T':=zge i g n a b k j) (h':=put h i g (swI d (j+1) j)) (fun f hf=>?_) ih h0
    have m4:=hm.cl (swI d (j+1) j)
    generalize d[j+1]! = x at *
    generalize d[j]! = y at *
    generalize swI d (j+1) j=d' at *
    obtain⟨z,r3⟩:=qbx (d.setIfInBounds (j+1) y) j
    simp[hm.lt,r3,-qaq,-qbc,qaa,exT,qae,L243_0,zge,ha',m1,m2,m3,m4,r1,r2,h111,hjn,hjn2,p1,w1,qbm,hsw,hd.symm,hf.ne]
   .have hl':ltI d[j+1]! d[j]! = false:=by simpa using hl
    rw[if_neg (by simp[hl])]
    rw[hl']at h111
    refine qay (fun f hf=>?_) h0
    generalize d[j+1]! = x at *
    generalize d[j]! = y at *
    simp[-qaq,-qbc,qaa,exT,qae,L243_0,zge,ha',m1,m3,r1,r2,h111,hjn,hjn2,p1,w1,hd.symm,q6a,hf.ne]
  .have ha':¬(a:Int)<(j:Int)+1:=by omega
   rw[if_neg (by simp[ha])]
   refine qay (fun f hf=>?_) h0
   simp[-qaq,-qbc,qaa,exT,qae,L243_0,zge,q6a,ha',hd,hf.ne]
theorem qty(lt:Int->Int->Bool)(a:Nat):∀(j:Nat) (d:Array Int),(Go.Sort.insInner lt a j d).size=d.size
 | 0,d=>rfl
 | j+1,d=>by
  rw[Go.Sort.insInner]
  split
  .rw[qty lt a j];exact qch _ _ _
  .rfl
def q6b(i g n:Nat)(a b k:Nat):Tm:=[some (.sl i g 1 0 n),some (num a),some (num b),none,none,none,some (num k)]++List.replicate 42 none
def zgf:Tm:=List.replicate 49 none
theorem zfi{h:H}{i g:Nat}(hm:Mem h i g)(n a b:Nat)(hn:n<=1000000)(hb:b<=n):∀(m k:Nat) (d:Array Int),d.size=n->b-k=m->∀{st:St},At (q6b i g n a b k) (put h i g d) st->∃r,ev pg (.code (.going h.length L243_1) st)=some r/\qaj (.exit 0) zgf (put h i g (Go.Sort.insOuter ltI a b k d)) r/\(Go.Sort.insOuter ltI a b k d).size=n
 | 0,k,d,hd,hk,st,h0=>by
  rw[Go.Sort.insOuter,if_neg (by omega)]
  refine qay (fun f hf=>?_) h0
  have hk':¬((k:Int)<b):=by omega
  simp[-qaq,-qbc,L243_1,q6b,zgf,hk',hd,hf.ne]
 | m+1,k,d,hd,hk,st,h0=>by
  rw[Go.Sort.insOuter,if_pos (by omega)]
  have hk':(k:Int)<b:=by omega
  have hla:=@zfh h i g hm n a b k hn k d hd (by omega)
  have wk:=qab (n:=(k:Int)+1) (by omega) (by omega)
  have m4:=hm.cl
  have hsz:(Go.Sort.insInner ltI a k d).size=n:=by
   have e:=qty ltI a k d
   omega
  have ih:=fun st=>@zfi h i g hm n a b hn hb m (k+1) (Go.Sort.insInner ltI a k d) hsz (by omega) st
  refine qfy (T':=q6b i g n a b (k+1)) (h':=put h i g (Go.Sort.insInner ltI a k d)) (fun f hf=>?_) ih h0
  generalize Go.Sort.insInner ltI a k d=d' at *
  simp[-qaq,-qbc,L243_1,q6b,hk',m4,qaf,hf.ne]
  generalize hr:ev pg (.code (.going _ L243_0) _)=o
  obtain⟨r,rfl,⟨f2,hf2,rfl⟩,-⟩:∃r,o=some r/\_:=by rw[<-hr];exact hla (by simp[zge,hf.ne])
  clear hr
  simp[-qaq,-qbc,q6a,wk,m4,hm.lt,hf2.ne]
theorem ev243{h:H}{i:Nat}(hi:i<h.length)(hc:qdb h)(g:Nat)(d:Array Int)(a b:Nat)(hb:b<=d.size)(hab:a<=b)(hn:d.size<=1000000):ev pg (.call (.fn 243 [] []) [.sl i g 1 0 d.size,num a,num b] (put h i g d))=some { v:=.tup [],st:=⟨[],put h i g (Go.Sort.insertionSort ltI d a b)⟩ }:=by
 have hm:=qgu hi hc g
 have m4:=hm.ck
 have hl:=@zfi h i g hm d.size a b hn hb _ (a+1) d rfl rfl
 have wa:=qab (n:=(a:Int)+1) (by omega) (by omega)
 unfold Go.Sort.insertionSort
 generalize Go.Sort.insOuter ltI a b (a+1) d=d' at *
 rw[qac,pg243]
 simp[-qaq,-qbc,ir243,wa,qaf]
 generalize hr:ev pg (.code (.going _ L243_1) _)=o
 obtain⟨r,rfl,⟨f2,hf2,rfl⟩,-⟩:∃r,o=some r/\_:=by rw[<-hr];exact hl (by simp[q6b])
 clear hr
 simp[-qaq,-qbc,zgf,m4,hm.lt]
end Go.Proofs.YtddeacahiilikaaGreat
