/- Sorting in place: a round of the whole. Sorting in place: slices.Sort. -/
import Derived.Test.YtddeacahiilikaaGreatRSo12
set_option linter.all false
namespace Go.Proofs.YtddeacahiilikaaGreat
open Go Go.Am Go.Proofs
open Go.Sort (SWO PermIn SortedIn Below)
set_option maxRecDepth 100000
theorem zqh{h:H}{i g n a b:Nat}{d0:Array Int}(C:Ctx73 h i g n a b d0)(d:Array Int)(hd:d.size=n)(lim:Nat)(hl:lim<=64)(wb wp:Bool)(pv:Nat)(ht:Int)(hp1:a<=pv)(hp2:pv<b)(hP:PermIn a b d0 d)(hB:Below ltI a b d) :
  ∀st,At (qsz i g n a b lim wb wp pv ht) (put h i g d) st->∃r,ev pg (.code qzr st)=some r/\Res73 h i g n a b d0 r:=by
 subst hd
 intro st h0
 obtain⟨f,hf,rfl⟩:=h0.eq
 have hn:=C.hn
 have hb:=C.hb
 have h12:=C.h12
 have m1:=C.hi
 have h9:=zzw C d rfl lim hl wb wp pv ht hp1 hp2 hP hB
 cases a with
 | zero =>
  have A:∀s,qlm (qsz i g d.size 0 b lim wb wp pv ht) s->∃r,ev pg (.code q3w ⟨s,put h i g d⟩)=some r/\Res73 h i g d.size 0 b d0 r:=fun s hs=>h9 _ ⟨hs,rfl⟩
  unfold qsz at A ⊢
  generalize b-0=L at *
  simp[-qaq,-qbc,qaa,exT,qae,qzr,hf.ne]
  exact A _ (by simp[qlm,hf.ne])
 | succ a =>
  have hm:=qgu C.hi C.hc g
  have m3:=hm.get
  have b1:a<d.size:=by omega
  have b2:pv<d.size:=by omega
  have r1:=qal (d:=d) (k:=a) b1
  have r2:=qal (d:=d) (k:=pv) b2
  have e:=ev249 d[a]! d[pv]!
  have wa:=qab (n:=(a:Int)) (by omega) (by omega)
  have ca:(0:Int)<(a:Int)+1:=by omega
  by_cases l1:ltI d[a]! d[pv]! = true
  .rw[l1]at e
   have A:∀s,qlm (qsz i g d.size (a+1) b lim wb wp pv ht) s->∃r,ev pg (.code q3w ⟨s,put h i g d⟩)=some r/\Res73 h i g d.size (a+1) b d0 r:=fun s hs=>h9 _ ⟨hs,rfl⟩
   unfold qsz at A ⊢
   generalize b-(a+1)=L at *
   generalize d[a]! = x at *
   generalize d[pv]! = y at *
   simp[-qaq,-qbc,qaa,exT,qae,qzr,ca,wa,m1,m3,r1,r2,b1,b2,e,hf.ne]
   exact A _ (by simp[qlm,hf.ne])
  .have l1':ltI d[a]! d[pv]! = false:=by simpa using l1
   rw[l1']at e
   cases hx:Go.Sort.partitionEqual ltI d (a+1) b pv with
   | mk mid d4 =>
   have e2:=ev250 C.hi C.hc g d (a+1) b pv (by omega) (by omega) (by omega) (by omega)
   rw[hx]at e2
   obtain⟨k1,k2,k3,k4,k5⟩:=Go.Sort.round_eq zsw (Go.Sort.partitionEqual_holds ltI) (by omega) hp1 hp2 (by omega) hB l1' hx
   rw[show((a+1:Nat):Int)=(a:Int)+1 by omega]at e2
   unfold qsz
   generalize hL:b-(a+1)=L at *
   generalize d[a]! = x at *
   generalize d[pv]! = y at *
   simp[-qaq,-qbc,qaa,exT,qae,qzr,ca,wa,m1,m3,r1,r2,b1,b2,e,e2,hf.ne]
   refine .more mid b lim wb wp d4 (.inr rfl) k3 k2 hb (by omega) hl k4 ?_ (fun D h1 h2=>?_)
   .simp[T73,hf.ne]
   .obtain⟨q1,q2⟩:=k5 D h1 h2
    exact⟨q5i hP q1,q2⟩
theorem zqg{h:H}{i g n a b:Nat}{d0:Array Int}(C:Ctx73 h i g n a b d0)(d:Array Int)(hd:d.size=n)(lim:Nat)(hl:lim<=64)(wb wp:Bool)(pv:Nat)(ht:Int)(hp1:a<=pv)(hp2:pv<b)(hP:PermIn a b d0 d)(hB:Below ltI a b d) :
  ∀st,At (qsz i g n a b lim wb wp pv ht) (put h i g d) st->∃r,ev pg (.code qvb st)=some r/\Res73 h i g n a b d0 r:=by
 intro st h0
 obtain⟨f,hf,rfl⟩:=h0.eq
 have hn:=C.hn
 have hb:=C.hb
 have h12:=C.h12
 have m1:=C.hi
 have h8:=zqh C d hd lim hl wb wp pv ht hp1 hp2 hP hB
 have A:∀s,qlm (qsz i g n a b lim wb wp pv ht) s->∃r,ev pg (.code qzr ⟨s,put h i g d⟩)=some r/\Res73 h i g n a b d0 r:=fun s hs=>h8 _ ⟨hs,rfl⟩
 by_cases c:wb=true/\wp=true/\ht=1
 .obtain⟨rfl,rfl,rfl⟩:=c
  have e:=ev248 C.hi C.hc g d a b (by omega) (by omega) (by omega)
  obtain⟨p1,p2⟩:=Go.Sort.partialInsertionSort_holds zsw d a b (by omega) (by omega) hB
  rw[hd]at e
  cases hx:Go.Sort.partialInsertionSort ltI d a b with
  | mk d3 v =>
  rw[hx]at e p1 p2
  simp only at e p1 p2
  have hd3:d3.size=n:=by rw[p1.1];exact hd
  cases v with
  | true =>
   unfold qsz
   generalize hL:b-a=L at *
   simp[-qaq,-qbc,qvb,e,m1,hf.ne]
   exact .done d3 (q5i hP p1) (p2 rfl) (by simp[hf.ne])
  | false =>
   have h8':=zqh C d3 hd3 lim hl true true pv 1 hp1 hp2 (q5i hP p1) (hB.perm (by omega) p1)
   have A':∀s,qlm (qsz i g n a b lim true true pv 1) s->∃r,ev pg (.code qzr ⟨s,put h i g d3⟩)=some r/\Res73 h i g n a b d0 r:=fun s hs=>h8' _ ⟨hs,rfl⟩
   unfold qsz at A' ⊢
   generalize hL:b-a=L at *
   simp[-qaq,-qbc,qvb,e,m1,hf.ne]
   exact A' _ (by simp[qlm,hf.ne])
 .unfold qsz at A ⊢
  generalize hL:b-a=L at *
  cases wb with
  | false =>
   simp[-qaq,-qbc,qvb,hf.ne]
   exact A _ (by simp[qlm,hf.ne])
  | true =>
   cases wp with
   | false =>
    simp[-qaq,-qbc,qvb,hf.ne]
    exact A _ (by simp[qlm,hf.ne])
   | true =>
    have hht:¬ht=1:=fun e=>c ⟨rfl,rfl,e⟩
    have hhb:(ht==1)=false:=by simpa using hht
    simp[-qaq,-qbc,qvb,hht,hhb,hf.ne]
    exact A _ (by simp[qlm,hf.ne])
theorem zzv{h:H}{i g n a b:Nat}{d0:Array Int}(C:Ctx73 h i g n a b d0)(d:Array Int)(hd:d.size=n)(lim:Nat)(hl:lim<=64)(wb wp:Bool)(pv:Nat)(ht:Int)(hp1:a<=pv)(hp2:pv<b)(hP:PermIn a b d0 d)(hB:Below ltI a b d) :
  ∀st,At (qsz i g n a b lim wb wp pv ht) (put h i g d) st->∃r,ev pg (.code q5w st)=some r/\Res73 h i g n a b d0 r:=by
 intro st h0
 obtain⟨f,hf,rfl⟩:=h0.eq
 have hn:=C.hn
 have hb:=C.hb
 have h12:=C.h12
 have m1:=C.hi
 by_cases c:ht=2
 .subst c
  have e:=ev247 C.hi C.hc g d a b (by omega) (by omega) (by omega)
  have p1:=Go.Sort.reverseRange_holds d a b (by omega) (by omega)
  rw[hd]at e
  generalize Go.Sort.reverseRange d a b=d2 at *
  have hd2:d2.size=n:=by rw[p1.1];exact hd
  have h7:=zqg C d2 hd2 lim hl wb wp (b-1-(pv-a)) 1 (by omega) (by omega) (q5i hP p1) (hB.perm (by omega) p1)
  have A:∀s,qlm (qsz i g n a b lim wb wp (b-1-(pv-a)) 1) s->∃r,ev pg (.code qvb ⟨s,put h i g d2⟩)=some r/\Res73 h i g n a b d0 r:=fun s hs=>h7 _ ⟨hs,rfl⟩
  have w1:=qab (n:=(b:Int)-1) (by omega) (by omega)
  have w2:=qab (n:=(pv:Int)-a) (by omega) (by omega)
  have w3:IntKind.i64.wrap ((b:Int)-1-((pv:Int)-a))=((b-1-(pv-a):Nat):Int):=by
   rw[qab (by omega) (by omega)]
   omega
  unfold qsz at A ⊢
  generalize b-1-(pv-a)=pv' at *
  generalize b-a=L at *
  simp[-qaq,-qbc,q5w,e,w1,w2,w3,m1,hf.ne]
  exact A _ (by simp[qlm,hf.ne])
 .have h7:=zqg C d hd lim hl wb wp pv ht hp1 hp2 hP hB
  have A:∀s,qlm (qsz i g n a b lim wb wp pv ht) s->∃r,ev pg (.code qvb ⟨s,put h i g d⟩)=some r/\Res73 h i g n a b d0 r:=fun s hs=>h7 _ ⟨hs,rfl⟩
  have hhb:(ht==2)=false:=by simpa using c
  unfold qsz at A ⊢
  generalize b-a=L at *
  simp[-qaq,-qbc,q5w,c,hhb,hf.ne]
  exact A _ (by simp[qlm,hf.ne])
theorem zqf{h:H}{i g n a b:Nat}{d0:Array Int}(C:Ctx73 h i g n a b d0)(d:Array Int)(hd:d.size=n)(lim:Nat)(hl:lim<=64)(wb wp:Bool)(hP:PermIn a b d0 d)(hB:Below ltI a b d) :
  ∀st,At (zbg i g n a b lim wb wp) (put h i g d) st->∃r,ev pg (.code q5v st)=some r/\Res73 h i g n a b d0 r:=by
 intro st h0
 obtain⟨f,hf,rfl⟩:=h0.eq
 have hn:=C.hn
 have hb:=C.hb
 have h12:=C.h12
 have m1:=C.hi
 have e:=ev246 C.hi C.hc g d a (b-a) (by omega) (by omega) (by omega)
 obtain⟨p1,p2⟩:=Go.Sort.choosePivot_holds ltI d a b (by omega)
 rw[show a+(b-a)=b by omega,hd]at e
 generalize Go.Sort.choosePivot ltI d a b=pr at *
 obtain⟨pv,hint⟩:=pr
 simp only at e p1 p2
 have h6:=zzv C d hd lim hl wb wp pv (qtb hint) p1 p2 hP hB
 have A:∀s,qlm (qsz i g n a b lim wb wp pv (qtb hint)) s->∃r,ev pg (.code q5w ⟨s,put h i g d⟩)=some r/\Res73 h i g n a b d0 r:=fun s hs=>h6 _ ⟨hs,rfl⟩
 unfold zbg
 unfold qsz at A
 generalize qtb hint=ht at *
 generalize b-a=L at *
 simp[-qaq,-qbc,q5v,e,m1,hf.ne]
 exact A _ (by simp[qlm,hf.ne])
theorem zzu{h:H}{i g n a b:Nat}{d0:Array Int}(C:Ctx73 h i g n a b d0)(hd:d0.size=n)(lim:Nat)(h1:1<=lim)(hl:lim<=64)(wb wp:Bool)(hB:Below ltI a b d0) :
  ∀st,At (zbg i g n a b lim wb wp) (put h i g d0) st->∃r,ev pg (.code q3v st)=some r/\Res73 h i g n a b d0 r:=by
 intro st h0
 obtain⟨f,hf,rfl⟩:=h0.eq
 have hn:=C.hn
 have hb:=C.hb
 have h12:=C.h12
 have m1:=C.hi
 cases wb with
 | true =>
  have h5:=zqf C d0 hd lim hl true wp (Go.Sort.permIn_refl d0 a b) hB
  have A:∀s,qlm (zbg i g n a b lim true wp) s->∃r,ev pg (.code q5v ⟨s,put h i g d0⟩)=some r/\Res73 h i g n a b d0 r:=fun s hs=>h5 _ ⟨hs,rfl⟩
  unfold zbg at A ⊢
  generalize b-a=L at *
  simp[-qaq,-qbc,q3v,hf.ne]
  exact A _ (by simp[qlm,hf.ne])
 | false =>
  have e:=ev245 C.hi C.hc g d0 a (b-a) (by omega) (by omega) (by omega)
  have p1:=Go.Sort.breakPatterns_holds d0 a b (by omega) (by omega)
  rw[show a+(b-a)=b by omega,hd]at e
  generalize Go.Sort.breakPatterns d0 a b=d1 at *
  have h5:=zqf C d1 (by rw[p1.1];exact hd) (lim-1) (by omega) false wp p1 (hB.perm (by omega) p1)
  have A:∀s,qlm (zbg i g n a b (lim-1) false wp) s->∃r,ev pg (.code q5v ⟨s,put h i g d1⟩)=some r/\Res73 h i g n a b d0 r:=fun s hs=>h5 _ ⟨hs,rfl⟩
  have w:IntKind.i64.wrap ((lim:Int)-1)=((lim-1:Nat):Int):=by
   rw[qab (by omega) (by omega)]
   omega
  unfold zbg at A ⊢
  generalize lim-1=l' at *
  generalize b-a=L at *
  simp[-qaq,-qbc,q3v,e,w,m1,hf.ne]
  exact A _ (by simp[qlm,hf.ne])
end Go.Proofs.YtddeacahiilikaaGreat
namespace Go.Proofs.YtddeacahiilikaaGreat
open Go Go.Am Go.Proofs
open Go.Sort (SWO PermIn SortedIn Below)
set_option maxRecDepth 100000
inductive Step73 (h:H) (i g n a b:Nat) (d0:Array Int) (r:R):Prop where
 | done (d':Array Int) (hp:PermIn a b d0 d') (hs:SortedIn ltI a b d') (he:qaj .ret (List.replicate 134 none) (put h i g d') r)
 | more (a' b' lim:Nat) (wb wp:Bool) (d':Array Int) (hx:r.x=.normal) (hd:d'.size=n) (hab:a'<=b') (hb:b'<=n) (hlt:b'-a'<b-a) (hl:lim<=64) (hB:Below ltI a' b' d')
   (hA:At (T73 i g n a' b' lim wb wp) (put h i g d') r.st) (hf:∀D,PermIn a' b' d' D->SortedIn ltI a' b' D->PermIn a b d0 D/\SortedIn ltI a b D)
theorem b73{h:H}{i g n a b:Nat}{d:Array Int}(hi:i<h.length)(hc:qdb h)(hn:n<65536)(hd:d.size=n)(hab:a<=b)(hb:b<=n)(ih:qvc h i g n (b-a))(lim:Nat)(hl:lim<=64)(wb wp:Bool)(hB:Below ltI a b d) :
  ∀st,At (T73 i g n a b lim wb wp) (put h i g d) st->∃r,ev pg (.code L209_0 st)=some r/\Step73 h i g n a b d r:=by
 intro st h0
 obtain⟨f,hf,rfl⟩:=h0.eq
 have w1:=qab (n:=(b:Int)-a) (by omega) (by omega)
 rw[L73_split]
 by_cases h12:b-a<=12
 .have h12':(b:Int)-a<=12:=by omega
  have e:=ev243 hi hc g d a b (by omega) hab (by omega)
  obtain⟨p1,p2⟩:=Go.Sort.insertionSort_holds zsw d a b hab (by omega)
  rw[hd]at e
  generalize Go.Sort.insertionSort ltI d a b=d' at *
  simp[-qaq,-qbc,T73,w1,h12',e,hi,hf.ne]
  exact .done d' p1 p2 (by simp[hf.ne])
 .have h12':¬(b:Int)-a<=12:=by omega
  by_cases hl0:lim=0
  .subst hl0
   have e:=ev244 hi hc g d a (b-a) (by omega) (by omega) (by omega)
   rw[show a+(b-a)=b by omega,hd]at e
   obtain⟨p1,p2⟩:=Go.Sort.heapSort_holds zsw d a b hab (by omega)
   generalize Go.Sort.heapSort ltI d a b=d' at *
   simp[-qaq,-qbc,T73,w1,h12',e,hi,hf.ne]
   exact .done d' p1 p2 (by simp[hf.ne])
  .have hlb:((lim:Int)==0)=false:=by simp;omega
   have h4:=zzu (h:=h) (i:=i) (g:=g) ⟨hi,hc,hn,hb,by omega,ih⟩ hd lim (by omega) hl wb wp hB
   have A:∀s,qlm (zbg i g n a b lim wb wp) s->∃r,ev pg (.code q3v ⟨s,put h i g d⟩)=some r/\Res73 h i g n a b d r:=fun s hs=>h4 _ ⟨hs,rfl⟩
   have hL:(b:Int)-a=((b-a:Nat):Int):=by omega
   unfold zbg at A
   simp[-qaq,-qbc,T73,w1,h12',hl0,hlb,hi,hf.ne]
   rw[hL]
   generalize hL2:b-a=L at *
   generalize hr:ev pg (.code q3v _)=o
   obtain⟨r,rfl,hR⟩:∃r,o=some r/\_:=by
    rw[<-hr]
    exact A _ (by simp[qlm,hf.ne])
   clear hr
   cases hR with
   | done d' hp hs he =>
    obtain⟨f2,hf2,rfl⟩:=he
    simp
    exact .done d' hp hs ⟨f2,hf2,rfl⟩
   | more a' b' lim' wb' wp' d' hx hd' hab' hb' hlt hl' hB' hA hf' =>
    obtain⟨x,v,st'⟩:=r
    simp only at hx hA
    rcases hx with rfl | rfl
    .simp
     exact .more a' b' lim' wb' wp' d' rfl hd' hab' hb' (by omega) hl' hB' hA hf'
    .simp
     exact .more a' b' lim' wb' wp' d' rfl hd' hab' hb' (by omega) hl' hB' hA hf'
theorem z3a{h:H}{i g n:Nat}(hi:i<h.length)(hc:qdb h)(hn:n<65536):∀(m a b:Nat),b-a<=m->∀(d:Array Int),d.size=n->a<=b->b<=n->∀(lim:Nat) (wb wp:Bool),lim<=64->Below ltI a b d->∀st,At (T73 i g n a b lim wb wp) (put h i g d) st ->
  ∃r,ev pg (.code (.going h.length L209_0) st)=some r/\∃d',PermIn a b d d'/\SortedIn ltI a b d'/\qaj .ret (List.replicate 134 none) (put h i g d') r:=by
 have hm:=qgu hi hc g
 have call:∀(a b lim:Nat) (d:Array Int),(∀wb wp st,At (T73 i g n a b lim wb wp) (put h i g d) st->∃r,ev pg (.code (.going h.length L209_0) st)=some r/\∃d',PermIn a b d d'/\SortedIn ltI a b d'/\qaj .ret (List.replicate 134 none) (put h i g d') r)->∃d',PermIn a b d d'/\SortedIn ltI a b d'/\ev pg (.call (.fn 209 [] []) [.sl i g 1 0 n,num a,num b,num lim] (put h i g d))=some { v:=.tup [],st:=⟨[],put h i g d'⟩ }:=by
  intro a b lim d hlp
  have m4:=hm.ck
  have key:∃r d',ev pg (.call (.fn 209 [] []) [.sl i g 1 0 n,num a,num b,num lim] (put h i g d))=some r/\r={ v:=.tup [],st:=⟨[],put h i g d'⟩ }/\PermIn a b d d'/\SortedIn ltI a b d':=by
   rw[qac,pg209]
   simp[-qaq,-qbc,ir209,qaf]
   generalize hr:ev pg (.code (.going _ L209_0) _)=o
   obtain⟨r,rfl,d',p1,p2,f,hf,rfl⟩:∃r,o=some r/\_:=by rw[<-hr];exact hlp true true _ (by simp[T73])
   clear hr
   simp[-qaq,-qbc,m4,hi]
   exact⟨d',rfl,p1,p2⟩
  obtain⟨r,d',e,rfl,p1,p2⟩:=key
  exact⟨d',p1,p2,e⟩
 intro m
 induction m with
 | zero =>
  intro a b hba d hd hab hb lim wb wp hl hB st h0
  have hih:qvc h i g n (b-a):=fun a' b' lim' d' h1=>absurd h1 (by omega)
  obtain⟨r,e,hr⟩:=b73 hi hc hn hd hab hb hih lim hl wb wp hB st h0
  rcases hr with⟨d',p1,p2,f,hf,rfl⟩ | ⟨a',b',lim',wb',wp',d',hx,hd',hab',hb',hlt,_⟩
  .rw[qdy,e]
   exact⟨_,rfl,d',p1,p2,f,hf,rfl⟩
  .omega
 | succ m ihm =>
  intro a b hba d hd hab hb lim wb wp hl hB st h0
  have hih:qvc h i g n (b-a):=fun a' b' lim' d' h1 h2 h3 h4 h5 h6=>call a' b' lim' d' (fun wb wp=>ihm a' b' (by omega) d' h2 h3 h4 lim' wb wp h5 h6)
  obtain⟨r,e,hr⟩:=b73 hi hc hn hd hab hb hih lim hl wb wp hB st h0
  rcases hr with⟨d',p1,p2,f,hf,rfl⟩ | ⟨a',b',lim',wb',wp',d',hx,hd',hab',hb',hlt,hl',hB',hA,hfin⟩
  .rw[qdy,e]
   exact⟨_,rfl,d',p1,p2,f,hf,rfl⟩
  .have hcut:At (T73 i g n a' b' lim' wb' wp') (put h i g d') (qta h.length r.st):=by
    obtain⟨f,hf,e2⟩:=hA.eq
    rw[e2]
    have m4:=hm.cl d'
    simp[-qaq,-qbc,T73,m4,hi,hf.ne]
   obtain⟨r',e',D,q1,q2,q3⟩:=ihm a' b' (by omega) d' hd' hab' hb' lim' wb' wp' hl' hB' _ hcut
   obtain⟨s1,s2⟩:=hfin D q1 q2
   rw[qdy,e]
   simp only[hx]
   exact⟨r',e',D,s1,s2,q3⟩
theorem ev209{h:H}{i g:Nat}(hi:i<h.length)(hc:qdb h)(d:Array Int)(hn:d.size<65536)(lim:Nat)(hl:lim<=64):∃d',PermIn 0 d.size d d'/\SortedIn ltI 0 d.size d'/\ev pg (.call (.fn 209 [] []) [.sl i g 1 0 d.size,num 0,num d.size,num lim] (put h i g d))=some { v:=.tup [],st:=⟨[],put h i g d'⟩ }:=by
 have hm:=qgu hi hc g
 have m4:=hm.ck
 have hlp:=z3a (g:=g) hi hc hn _ 0 d.size (jD _) d rfl (Nat.zero_le _) (jD _) lim true true hl (.inl rfl)
 have key:∃r d',ev pg (.call (.fn 209 [] []) [.sl i g 1 0 d.size,num 0,num d.size,num lim] (put h i g d))=some r/\r={ v:=.tup [],st:=⟨[],put h i g d'⟩ }/\PermIn 0 d.size d d'/\SortedIn ltI 0 d.size d':=by
  rw[qac,pg209]
  simp[-qaq,-qbc,ir209,qaf]
  generalize hr:ev pg (.code (.going _ L209_0) _)=o
  obtain⟨r,rfl,d',p1,p2,f,hf,rfl⟩:∃r,o=some r/\_:=by rw[<-hr];exact hlp _ (by simp[T73])
  clear hr
  simp[-qaq,-qbc,m4,hi]
  exact⟨d',rfl,p1,p2⟩
 obtain⟨r,d',e,rfl,p1,p2⟩:=key
 exact⟨d',p1,p2,e⟩
theorem ev156{h:H}{i g:Nat}{l:List Int}(hg:h[i]?=some ⟨g,.arr 1 (l.map qdw)⟩)(hc:qdb h)(hn:l.length<65536):∃l':List Int,l'.Perm l/\l'.Pairwise (·<=·)/\ev pg (.call (.fn 156 [] []) [.sl i g 1 0 l.length] h)=some { v:=.tup [],st:=⟨[],h.set i ⟨g,.arr 1 (l'.map qdw)⟩⟩ }:=by
 obtain⟨hi,_⟩:=jG.1 hg
 have hps:put h i g l.toArray=h:=q3d (by simpa[qgc]using hg)
 have hm:=qgu hi hc g
 have m4:=hm.ck
 have hsz:l.toArray.size=l.length:=by simp
 obtain⟨d',p1,p2,e⟩:=ev209 (g:=g) hi hc l.toArray (by omega) (Go.Sort.bitsLen l.length) (by have:=q8t hn;omega)
 have e74:=ev210 l.length hn
 have wu:=q1j (n:=(l.length:Int)) (by omega) (by omega)
 rw[hsz]at e p1 p2
 refine⟨d'.toList,?_,?_,?_⟩
 .have:=p1.2.2
  have hs:=p1.1
  rw[hsz]at hs
  rw[Array.extract_eq_self_of_le (by omega),Array.extract_eq_self_of_le (by omega)]at this
  simpa using this
 .rw[List.pairwise_iff_getElem]
  intro x y hx hy hxy
  have hs:=p1.1
  rw[hsz]at hs
  have hyd:y<d'.size:=by simpa using hy
  have:=p2 x y (Nat.zero_le _) hxy (by omega)
  rw[getElem!_pos d' y hyd,getElem!_pos d' x (by omega)]at this
  simp only[ltI,Go.Sort.ltInt,decide_eq_false_iff_not]at this
  simp only[Array.getElem_toList]
  omega
 .have hput:put h i g d'=h.set i ⟨g,.arr 1 (d'.toList.map qdw)⟩:=rfl
  rw[<-hput]
  rw[hps]at e
  have ck:=m4 d'
  have hlen:(put h i g d').length=h.length:=qjd _ _ _ _
  generalize put h i g d'=H' at *
  rw[qac,pg156]
  simp[-qaq,-qbc,ir156,wu,e74,e,ck]
end Go.Proofs.YtddeacahiilikaaGreat
