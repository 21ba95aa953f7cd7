/- The program's search. -/
import Derived.Test.YtbepbclaoohngaaGreatVDt18
import Derived.KernelRfl
import Derived.Test.YtbepbclaoohngaaGreatVDt7
set_option linter.all false
namespace Go.Proofs.YtbepbclaoohngaaGreat
open Go Go.Am Go.Proofs
set_option maxRecDepth 100000
set_option maxHeartbeats 4000000
abbrev zwr(c d:Ct)(k i:Int):H:=[⟨0,.box c.cells⟩,⟨0,.box [num k,num i]⟩,o0,o0,o0,o0,⟨0,.box d.cells⟩]
abbrev h34(c d:Ct)(k i:Int)(p0:Ste×Ste):H:=[⟨0,.box c.cells⟩,⟨0,.box [num k,num i]⟩,o0,o0,o0,o0,⟨0,.box d.cells⟩,o0,o0,o0,o0,o0,o0,o0,o0,o0,o0,⟨0,.box (qbw p0)⟩]
def q6h(l:List (Ste×Ste))(j:Nat):Tm:=[none,none,some (prs l),bN 0,none,none,none,bN 6,none,nN j]++zN 132
def q0k(l:List (Ste×Ste))(j:Nat)(b:Bool):Tm:=[none,none,some (prs l),bN 0,none,none,none,bN 6]++zN 8++[nN (q6d b),nN j]++zN 124
def zef(l:List (Ste×Ste))(j:Nat)(E:List Evn)(m:Nat):Tm:=[none,none,some (prs l),bN 0,none,none,none,bN 6]++zN 8++[nN 15,nN j]++zN 87++[some (evs E),nN E.length,nN m]++zN 34
def q3a(e:Int)(r:R):Prop:=∃S H,r={ x:=.ret,st:=⟨S,H⟩ }/\qai S 6=num e
@[simp] theorem zyd{e:Int}{x:X}{st:St}:q3a e { x:=x,v:=.undef,st:=st }<->x=.ret/\qai st.s 6=num e:=by
 constructor
 .rintro⟨S,H,h,h2⟩
  cases h
  exact⟨rfl,h2⟩
 .rintro⟨rfl,h⟩
  exact⟨st.s,st.h,rfl,h⟩
def zjy(w:Ct×Ct)(_:Unit)(p:Ste×Ste):Unit×Option Int:=if(qcq w.1 p.1).2=0 then(if(qcq w.2 p.2).2=0 then((),none)else((),some (qcq w.2 p.2).2))else((),some (qcq w.1 p.1).2)
theorem qwb(w:Ct×Ct):∀l,(qdm (zjy w) () l).2=if qwe w l=0 then none else some (qwe w l)
 | []=>rfl
 | p :: l=>by
  have ih:=qwb w l
  simp only[qdm,zjy,qwe]
  by_cases h1:(qcq w.1 p.1).2=0
  .by_cases h2:(qcq w.2 p.2).2=0
   .simp[h1,h2,ih]
   .simp[h1,h2]
  .simp[h1]
theorem jdn(c d:Ct)(hc:c.small=true)(hd:d.small=true)(k i:Int)(l:List (Ste×Ste))(hl:l.length<=100000)(hS:∀q∈l,PS q){st:St}(h0:At (q6h l 0) (zwr c d k i) st) :
  ∃r,ev pg (.code (.going 7 L34_0) st)=some r/\((qdm (zjy (c,d)) () l).2=none->qaq (.exit 0) (q6h l l.length) (zwr c d k i) r)/\(∀e,(qdm (zjy (c,d)) () l).2=some e->q3a e r):=by
 refine qkj (zjy (c,d)) (fun j _ st=>At (q6h l j) (zwr c d k i) st) q3a (fun _ r=>qaq (.exit 0) (q6h l l.length) (zwr c d k i) r) l ?_ ?_ () h0
 .rintro j b st p hx h
  obtain⟨f,hf,rfl⟩:=h.eq
  obtain⟨hj,hxj⟩:=jG.1 hx
  have hj':(j:Int)<l.length:=by omega
  have wj:=qbb (k:=j) (by omega)
  have hp:=hS p (jR hx)
  have e1:=ev77 c p.1 hc hp.g
  have e2:=ev77 d p.2 hd hp.b
  unfold zjy
  simp only
  generalize qcq c p.1=x at *
  generalize qcq d p.2=y at *
  refine(?_:∃r,ev pg (.code L34_0 ⟨fill f 0 (q6h l j),zwr c d k i⟩)=some r/\_/\_)
  by_cases h1:x.2=0
  .by_cases h2:y.2=0
   .simp[q6h,L34_0,hj,hxj,hj',e1,e2,h1,h2,wj,hf.ne]
   .have hb2:(y.2==0)=false:=by simpa using h2
    simp[q6h,L34_0,hj,hxj,hj',e1,e2,h1,h2,hb2,wj,hf.ne]
  .have hb1:(x.2==0)=false:=by simpa using h1
   simp[q6h,L34_0,hj,hxj,hj',e1,h1,hb1,wj,hf.ne]
 .rintro b st h
  obtain⟨f,hf,rfl⟩:=h.eq
  refine(?_:∃r,ev pg (.code L34_0 ⟨fill f 0 (q6h l l.length),zwr c d k i⟩)=some r/\_/\_)
  simp[q6h,L34_0,hf.ne]
theorem zks{w:Ct×Ct}{p:Ste×Ste}(h:LieP w p)(x:Evn):(quz w p x).2.2=(qdy w.1 p.1 x).2.2:=by
 unfold quz
 rw[h.g.next1]
 split
 .rename_i h;exact h.symm
 .rfl
theorem jdo(c d:Ct)(k i:Int)(p0:Ste×Ste)(l:List (Ste×Ste))(j:Nat)(p:Ste×Ste)(hp:LieP (c,d) p)(hlj:l[j]?=some p)(hl:l.length<=100000)(E:List Evn)(hE:E.length<=100000){st:St}(h0:At (zef l j E 0) (h34 c d k i p0) st) :
  ∃r,ev pg (.code (.going 18 L34_1) st)=some r/\((qdm (qlt (c,d) l p) false E).2=none->qaq (.exit 4) (zef l j E E.length) (h34 c d k i p0) r)/\(∀e,(qdm (qlt (c,d) l p) false E).2=some e->q3a e r):=by
 refine qkj (qlt (c,d) l p) (fun m _ st=>At (zef l j E m) (h34 c d k i p0) st) q3a (fun _ r=>qaq (.exit 4) (zef l j E E.length) (h34 c d k i p0) r) E ?_ ?_ false h0
 .rintro m b st x hx h
  obtain⟨f,hf,rfl⟩:=h.eq
  obtain⟨hj,hpj⟩:=jG.1 hlj
  obtain⟨hm,hxm⟩:=jG.1 hx
  have hj':(j:Int)<l.length:=by omega
  have hm':(m:Int)<E.length:=by omega
  have wm:=qbb (k:=m) (by omega)
  have e1:=ev62 hp.g.rdy x
  unfold qlt
  rw[zks hp x]
  unfold zag at e1
  simp only at e1 ⊢
  generalize qdy c p.1 x=y at *
  refine(?_:∃r,ev pg (.code L34_1 ⟨fill f 0 (zef l j E m),h34 c d k i p0⟩)=some r/\_/\_)
  by_cases he:y.2.2=0
  .simp[zef,L34_1,hj,hpj,hj',hm,hxm,hm',e1,he,wm,hf.ne]
  .have heb:(y.2.2==0)=false:=by simpa using he
   simp[zef,L34_1,hj,hpj,hj',hm,hxm,hm',e1,he,heb,wm,hf.ne]
 .rintro b st h
  obtain⟨f,hf,rfl⟩:=h.eq
  refine(?_:∃r,ev pg (.code L34_1 ⟨fill f 0 (zef l j E E.length),h34 c d k i p0⟩)=some r/\_/\_)
  simp[zef,L34_1,hf.ne]
def zea(z:Option Int)(r:R):Prop:=∀e,z=some e->q3a e r
theorem jdp(c d:Ct)(hW:Wld (c,d))(k i:Int)(p0:Ste×Ste)(l:List (Ste×Ste))(hl:l.length<=100000)(hL:∀q∈l,LieP (c,d) q)(b:Bool){st:St}(h0:At (q0k l 0 b) (h34 c d k i p0) st) :
  ∃r,ev pg (.code (.going 18 L34_2) st)=some r/\((zba (c,d) l b).2=none->qaq (.exit 2) (q0k l l.length (zba (c,d) l b).1) (h34 c d k i p0) r)/\(∀e,(zba (c,d) l b).2=some e->q3a e r):=by
 refine qkj (q5y (c,d) l) (fun j b st=>At (q0k l j b) (h34 c d k i p0) st) q3a (fun b r=>qaq (.exit 2) (q0k l l.length b) (h34 c d k i p0) r) l ?_ ?_ b h0
 .rintro j b st p hx h
  obtain⟨f,hf,rfl⟩:=h.eq
  obtain⟨hj,hpj⟩:=jG.1 hx
  have hj':(j:Int)<l.length:=by omega
  have wj:=qbb (k:=j) (by omega)
  have hp:=hL p (jR hx)
  have e1:=ev68 p hp.small (hp.lens hW).1 (hp.lens hW).2
  have e2:=ev80 (c,d) hW l hl (fun q hq=>(hL q hq).small) p hp
  have e3:=ev79 p.1 hp.small.g
  rw[<-q9b hp]at e3
  have q:=fun st=>jdo c d k i p0 l j p hp hx hl (qqa (c,d) p) (q9a hp.small) (st:=st)
  have hv:=q0f (c,d) l p (qqa (c,d) p)
  have ha:=q2j (c,d) l p (qqa (c,d) p)
  have hne:=zof (l:=l) hp (qqa (c,d) p) true
  unfold q5y
  rw[hp.dif]
  refine(?_:∃r,ev pg (.code L34_2 ⟨fill f 0 (q0k l j b),h34 c d k i p0⟩)=some r/\_/\_)
  generalize qqa (c,d) p=E at *
  cases hd:zyc p with
  | true =>
   rw[hd]at e1
   clear ha e2 hne
   simp only[Bool.not_true,Bool.and_false]
   generalize qdm (qlt (c,d) l p) false E=z at *
   obtain⟨b',z⟩:=z
   simp only at hv
   subst hv
   suffices hs:∃r,ev pg (.code L34_2 ⟨fill f 0 (q0k l j b),h34 c d k i p0⟩)=some r/\(z=none->r.x=.normal/\At (q0k l (j+1) false) (h34 c d k i p0) (qtc 18 r.st))/\zea z r by
    obtain⟨r,e,h1,h2⟩:=hs
    refine⟨r,e,h1,fun e he=>⟨?_,h2 e he⟩⟩
    obtain⟨S,H,rfl,-⟩:=h2 e he
    simp
   simp[q0k,L34_2,qah,hj,hpj,hj',e1,e3,hf.ne]
   generalize hr:ev pg (.code (.going _ L34_1) _)=o
   obtain⟨r,rfl,h1,h2⟩:∃r,o=some r/\_:=by rw[<-hr];exact q _ (by simp[zef,hf.ne])
   clear hr q
   cases z with
   | none =>
    obtain⟨f',hf',rfl⟩:=h1 rfl
    have hz:∀r,zea none r:=fun r y hy=>by cases hy
    simp[zef,q0k,q6d,wj,hf'.ne,hz]
   | some e =>
    obtain⟨S,H,rfl,h3⟩:=h2 e rfl
    have hz:zea (some e) { x:=.ret,st:=⟨S,H⟩ }:=fun y hy=>by cases hy;exact⟨S,H,rfl,h3⟩
    simp[hz]
  | false =>
   rw[hd]at e1
   clear hv q e3
   simp only[Bool.not_false,Bool.and_true]
   obtain⟨a1,-⟩:=ha true b
   obtain⟨-,a2⟩:=ha true b
   rw[Bool.and_true]at a2
   cases hz:qdm (qlt (c,d) l p) true E with
   | mk b1 z =>
    rw[hz]at e2 a1 a2 hne
    cases z with
    | none =>
     simp only at a1 a2
     rw[a2 trivial,<-a1]
     cases b1<;>cases b<;>simp[q2k,q6d]at e2<;>simp[q0k,L34_2,q6d,hj,hpj,hj',e1,e2,wj,hf.ne]
    | some e =>
     obtain⟨n1,n2⟩:=hne e rfl
     have nb1:(e==0)=false:=by simpa using n1
     have nb2:(e==15)=false:=by simpa using n2
     simp only at a1
     rw[<-a1]
     simp only[q2k]at e2
     simp[q0k,L34_2,hj,hpj,hj',e1,e2,n1,n2,nb1,nb2,wj,hf.ne]
 .rintro b st h
  obtain⟨f,hf,rfl⟩:=h.eq
  refine(?_:∃r,ev pg (.code L34_2 ⟨fill f 0 (q0k l l.length b),h34 c d k i p0⟩)=some r/\_/\_)
  simp[q0k,L34_2,hf.ne]
end Go.Proofs.YtbepbclaoohngaaGreat
namespace Go.Am
def JunkL(n:Nat)(f:Nat->V):Prop:=∀i,f i ≠ .nils/\(f i).low n=true
theorem JunkL.junk{n:Nat}{f:Nat->V}(h:JunkL n f):Junk f:=fun i=>(h i).1
theorem qnm{m:Nat}:∀{t:Tm} {s:List V} (n:Nat),q2s t s->qeo m s=true->∃f,JunkL m f/\s=fill f n t
 | [],[],_,_,_=>⟨fun _=>.undef,fun _=>by simp,rfl⟩
 | [],_ :: _,_,h,_=>by simp[q2s]at h
 | some _ :: _,[],_,h,_=>by simp[q2s]at h
 | none :: _,[],_,h,_=>by simp[q2s]at h
 | some v :: t,x :: s,n,h,hl=>by
  obtain⟨rfl,h2⟩:=h
  simp only[qeo,jE]at hl
  obtain⟨f,hf,rfl⟩:=qnm (n+1) h2 hl.2
  exact⟨f,hf,rfl⟩
 | none :: t,x :: s,n,h,hl=>by
  obtain⟨hx,h2⟩:=h
  simp only[qeo,jE]at hl
  obtain⟨f,hf,rfl⟩:=qnm (n+1) h2 hl.2
  refine⟨fun i=>if i=n then x else f i,fun i=>?_,?_⟩
  .simp only
   split
   .exact⟨hx,hl.1⟩
   .exact hf i
  .have:∀(t:Tm) (k:Nat),n<k->fill (fun i=>if i=n then x else f i) k t=fill f k t:=by
    intro t
    induction t with
    | nil=>intro k _;rfl
    | cons o t ih =>
     intro k hk
     cases o with
     | none=>simp only[fill,ih (k+1) (by omega)];rw[if_neg (by omega)]
     | some v=>simp only[fill,ih (k+1) (by omega)]
   simp only[fill,if_true]
   rw[this t (n+1) (by omega)]
theorem qvk{P:Prg}(l:Nat)(args:List V)(h:H):ev P (.call (.yld l) args h)=(match (h[l]?:Option Ob)with
  | some ⟨_,.loop sl params assign body none⟩ =>
   if args.length=params.length then
    match ev P (.code assign ⟨qfn sl params args,h⟩)with
    | some r=>match r.x with
     | .normal=>match r.st.h[l]? with
      | some ⟨g,.loop sl' ps' as' bd' none⟩ =>
       match ev P (.code body ⟨r.st.s,r.st.h.set l ⟨g,.loop sl' ps' as' bd' (some .normal)⟩⟩)with
       | some r2=>match (qef h.length r2.st.h)[l]? with
        | some ⟨g2,.loop sl2 ps2 as2 bd2 _⟩=>match r2.x with
         | .normal=>some { v:=.bool true,st:=⟨[],(qef h.length r2.st.h).set l ⟨g2,.loop sl2 ps2 as2 bd2 none⟩⟩ }
         | x=>some { v:=.bool false,st:=⟨[],(qef h.length r2.st.h).set l ⟨g2,.loop sl2 ps2 as2 bd2 (some x)⟩⟩ }
        | _=>none
       | none=>none
      | _=>none
     | _=>none
    | none=>none
   else none
  | _=>none):=by rw[qhx];rfl
end Go.Am
namespace Go.Proofs.YtbepbclaoohngaaGreat
open Go Go.Am Go.Proofs
set_option maxRecDepth 100000
set_option maxHeartbeats 8000000
theorem qsf{f:Nat->V}(hf:Junk f):∀{T:Tm} (n:Nat),(∀o∈T,o≠some .nils)->qas (fill f n T)
 | [],_,_=>fun v hv=>by simp[fill]at hv
 | some v :: T,n,h=>fun w hw=>by
  simp only[fill,List.mem_cons]at hw
  rcases hw with rfl | hw
  .intro e;exact h (some w) (by simp) (by rw[e])
  .exact qsf hf (n+1) (fun o ho=>h o (by simp[ho])) w hw
 | none :: T,n,h=>fun w hw=>by
  simp only[fill,List.mem_cons]at hw
  rcases hw with rfl | hw
  .exact hf n
  .exact qsf hf (n+1) (fun o ho=>h o (by simp[ho])) w hw
def zdt(l:List (Ste×Ste))(j:Nat):Tm:=[none,none,bN 0]++zN 14++[some (prs l),nN l.length,nN j]++zN 26
def zqw(e:Int)(r:R):Prop:=∃S H,r={ x:=.ret,st:=⟨S,H⟩ }/\qai S 4=num e
@[simp] theorem zye{e:Int}{x:X}{st:St}:zqw e { x:=x,v:=.undef,st:=st }<->x=.ret/\qai st.s 4=num e:=by
 constructor
 .rintro⟨S,H,h,h2⟩
  cases h
  exact⟨rfl,h2⟩
 .rintro⟨rfl,h⟩
  exact⟨st.s,st.h,rfl,h⟩
theorem jdw(w:Ct×Ct)(hW:WS w)(l:List (Ste×Ste))(hl:l.length<=100000)(hS:∀q∈l,PS q){st:St}(h0:At (zdt l 0) [⟨0,.box (qie w)⟩] st) :
  ∃r,ev pg (.code (.going 1 L74_0) st)=some r/\((qdm (zjy w) () l).2=none->qaq (.exit 0) (zdt l l.length) [⟨0,.box (qie w)⟩] r)/\(∀e,(qdm (zjy w) () l).2=some e->zqw e r):=by
 refine qkj (zjy w) (fun j _ st=>At (zdt l j) [⟨0,.box (qie w)⟩] st) zqw (fun _ r=>qaq (.exit 0) (zdt l l.length) [⟨0,.box (qie w)⟩] r) l ?_ ?_ () h0
 .rintro j b st p hx h
  obtain⟨f,hf,rfl⟩:=h.eq
  obtain⟨hj,hxj⟩:=jG.1 hx
  have hj':(j:Int)<l.length:=by omega
  have wj:=qbb (k:=j) (by omega)
  have hp:=hS p (jR hx)
  have e1:=ev132 w.1 p.1 hW.g hp.g
  have e2:=ev132 w.2 p.2 hW.b hp.b
  unfold zjy
  generalize qcq w.1 p.1=x at *
  generalize qcq w.2 p.2=y at *
  refine(?_:∃r,ev pg (.code L74_0 ⟨fill f 0 (zdt l j),[⟨0,.box (qie w)⟩]⟩)=some r/\_/\_)
  by_cases h1:x.2=0
  .by_cases h2:y.2=0
   .simp[zdt,L74_0,hj,hxj,hj',e1,e2,h1,h2,wj,hf.ne]
   .have hb2:(y.2==0)=false:=by simpa using h2
    simp[zdt,L74_0,hj,hxj,hj',e1,e2,h1,h2,hb2,wj,hf.ne]
  .have hb1:(x.2==0)=false:=by simpa using h1
   simp[zdt,L74_0,hj,hxj,hj',e1,h1,hb1,wj,hf.ne]
 .rintro b st h
  obtain⟨f,hf,rfl⟩:=h.eq
  refine(?_:∃r,ev pg (.code L74_0 ⟨fill f 0 (zdt l l.length),[⟨0,.box (qie w)⟩]⟩)=some r/\_/\_)
  simp[zdt,L74_0,hf.ne]
def zwu(w:Ct×Ct)(l:List (Ste×Ste)):Int:=if l=[]then 13 else if 16384<l.length then 5 else qwe w l
theorem ev74(w:Ct×Ct)(hW:WS w)(l:List (Ste×Ste))(hl:l.length<=100000)(hS:∀q∈l,PS q):ev pg (.call (.fn 74 [] []) [.agg (qie w),prs l] [])=some { v:=num (zwu w l),st:=⟨[],[]⟩ }:=by
 have q1:=fun st=>jdw w hW l hl hS (st:=st)
 have hlo:=qwb w l
 rw[qaa,pg74]
 unfold zwu
 by_cases hn:l=[]
 .subst hn
  simp[ir74]
 .have hn':¬(l.length:Int)=0:=by
   have:l.length≠0:=fun h=>hn (List.length_eq_zero_iff.1 h)
   omega
  have hnb:((l.length:Int)==0)=false:=by simpa using hn'
  rw[if_neg hn]
  by_cases hg:16384<l.length
  .have hg':(16384:Int)<l.length:=by omega
   rw[if_pos hg]
   simp[ir74,hn,hn',hnb,hg']
  .have hg':¬(16384:Int)<l.length:=by omega
   rw[if_neg hg]
   simp[ir74,qah,hn,hn',hnb,hg']
   generalize hr:ev pg (.code (.going _ L74_0) _)=o
   obtain⟨r,rfl,h1,h2⟩:∃r,o=some r/\_:=by rw[<-hr];exact q1 _ (by simp[zdt])
   clear hr q1
   by_cases hL:qwe w l=0
   .rw[if_pos hL]at hlo
    obtain⟨f,hf,rfl⟩:=h1 hlo
    rw[hL]
    simp[zdt]
   .rw[if_neg hL]at hlo
    obtain⟨S,H,rfl,h3⟩:=h2 _ hlo
    simp[h3]
abbrev zpa(c:Ct)(k i:Int)(l:List (Ste×Ste))(w:Ct×Ct)(p0:Ste×Ste)(b:Bool)(e:Int):H:=[⟨0,.box c.cells⟩,⟨0,.box [num k,num i]⟩,⟨0,.box [prs l]⟩,⟨0,.box [num e]⟩,o0,o0,o0,o0,o0,o0,o0,o0,⟨0,.box (qie w)⟩,o0,o0,o0,o0,o0,o0,o0,o0,o0,o0,⟨0,.box (qbw p0)⟩,⟨0,.box [.bool b]⟩]
def q3d(l:List (Ste×Ste))(j:Nat):Tm:=zN 5++[bN 2,bN 3,bN 12,none,none,none,bN 24]++zN 37++[some (prs l),nN l.length,nN j]++zN 38
def qhw(l:List (Ste×Ste))(j:Nat):Tm:=zN 5++[bN 2,bN 3,bN 12,none,none,none,bN 24,none,bN 35]++zN 35++[some (prs l),nN l.length,nN j]++zN 12++[some (.fn 136 [] [.bptr 36 0,.bptr 37 0])]++zN 25
abbrev znt(c:Ct)(k i:Int)(l:List (Ste×Ste))(w:Ct×Ct)(p0 p:Ste×Ste)(b:Bool)(e:Int):H:=zpa c k i l w p0 b e++[o0,o0,o0,o0,o0,o0,o0,o0,o0,o0,⟨0,.box (qbw p)⟩,⟨0,.box (qie w)⟩,⟨0,.box (qbw p)⟩]
abbrev zdx(c:Ct)(k i:Int)(l:List (Ste×Ste))(w:Ct×Ct)(p0 p:Ste×Ste)(j:Nat)(f:Nat->V)(b:Bool)(e:Int)(x:Option X):H:=znt c k i l w p0 p b e++[⟨0,.loop (fill f 0 (qhw l j)) [65] L32_0 L32_1 x⟩]
theorem z2p(c:Ct)(k i:Int)(l:List (Ste×Ste))(hl:l.length<=100000)(w:Ct×Ct)(hW:WS w)(p0 p:Ste×Ste)(hp:PS p)(j:Nat)(f:Nat->V)(hf:JunkL 39 f)(b:Bool)(x:Evn)(E:H)(hE:E=[]\/E=[⟨0,.box x.row⟩]) :
  ((qlt w l p b x).2=none->ev pg (.call (.yld 38) [x.v] (zdx c k i l w p0 p j f b 0 none++E))=some { v:=.bool true,st:=⟨[],zdx c k i l w p0 p j f (qlt w l p b x).1 0 none++E⟩ }) /\
  (∀e,(qlt w l p b x).2=some e->ev pg (.call (.yld 38) [x.v] (zdx c k i l w p0 p j f b 0 none++E))=some { v:=.bool false,st:=⟨[],zdx c k i l w p0 p j f b e (some .ret)++E⟩ }):=by
 have e1:=ev66 w hW p hp x
 have hq:=zbn hW (p:=p) (x:=x)
 have hlo:∀n,39<=n->∀i,(f i).low n=true:=fun n hn i=>qgh hn _ (hf i).2
 unfold qlt
 unfold znm at e1
 generalize quz w p x=y at *
 obtain⟨q,r,e⟩:=y
 simp only at *
 have e3:=ev75 l hl q hq
 have hpl:=qzk l q
 generalize qtl l q=pl at *
 by_cases he:e=0
 .subst he
  cases b with
  | true =>
   cases r with
   | true =>
    cases hh:q2t l q with
    | true =>
     rw[hh]at hpl
     have hpl':0<=pl:=by simpa using hpl
     rcases hE with rfl | rfl<;>simp[qvk,qhw,L32_0,L32_1,e1,e3,hpl',hlo]
    | false =>
     rw[hh]at hpl
     have hpl':¬0<=pl:=by simpa using hpl
     rcases hE with rfl | rfl<;>simp[qvk,qhw,L32_0,L32_1,e1,e3,hpl',hlo]
   | false =>
    rcases hE with rfl | rfl<;>simp[qvk,qhw,L32_0,L32_1,e1,hlo]
  | false =>
   rcases hE with rfl | rfl<;>simp[qvk,qhw,L32_0,L32_1,e1,hlo]
 .have heb:(e==0)=false:=by simpa using he
  rcases hE with rfl | rfl<;>simp[qvk,qhw,L32_0,L32_1,e1,he,heb,hlo]
theorem e76(w:Ct×Ct)(p:Ste×Ste)(h:H):ev pg (.call (.fn 76 [] []) [.agg (qie w),.agg (qbw p)] h)=some { v:=.fn 136 [] [.bptr h.length 0,.bptr (h.length+1) 0],st:=⟨[],h++[⟨0,.box (qie w)⟩,⟨0,.box (qbw p)⟩]⟩ }:=by
 rw[qaa,pg76]
 simp[ir76]
end Go.Proofs.YtbepbclaoohngaaGreat
