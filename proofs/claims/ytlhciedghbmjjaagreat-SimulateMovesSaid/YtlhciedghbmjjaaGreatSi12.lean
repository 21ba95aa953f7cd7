/- The law PlantStills, in Am: it returns true. A run goes on: what a run of all events, and of the first and of the other ones, come to. Courses in time, plainly. Loops of Am whose rounds hand a box on, by a picture. Courses in time, by the program. Courses in time, by the program: the loop. Courses in time, by the program: the loop. -/
import Derived.Test.YtlhciedghbmjjaaGreatGt2
import Derived.Test.YtlhciedghbmjjaaGreatSv1
import Derived.Test.YtlhciedghbmjjaaGreatAf2
import Derived.Test.YtlhciedghbmjjaaGreatSi8
import Derived.KernelRfl
import Derived.Test.YtlhciedghbmjjaaGreatSt2
import Derived.Test.YtlhciedghbmjjaaGreatLo1
import Derived.Test.YtlhciedghbmjjaaGreatQu2
set_option linter.all false
namespace Go.Proofs.YtlhciedghbmjjaaGreat
open Go Go.Am Go.Proofs
set_option maxRecDepth 100000
structure Lie(c:Ct)(t:Ste):Prop where
 rdy:Rdy c t
 still:∃a,qcu c t=some (t,a)
theorem q1i{c:Ct}{s:Ste}(h:Rdy c s)(he:(qhj c s).2.2=0):Lie c (qhj c s).1/\(qhj c s).1.inputs=s.inputs:=by
 unfold qhj at he ⊢
 cases hZ:qfr c s with
 | none=>rw[hZ]at he;simp at he
 | some x =>
  obtain⟨t,m⟩:=x
  exact⟨⟨⟨h.few,qnj h.st hZ⟩,qnq hZ⟩,q1g hZ⟩
theorem Lie.rest{c:Ct}{t:Ste}(h:Lie c t):(qse c t).1=t/\(qse c t).2.2=0:=by
 obtain⟨a,ha⟩:=h.still
 unfold qse qhj
 rw[if_pos h.rdy.st,q8s ha]
 exact⟨rfl,rfl⟩
def h6(c:Ct)(s t:Ste):H:=[⟨0,.box c.cells⟩,⟨0,.box s.cells⟩,o0,o0,o0,o0,o0,⟨0,.box t.cells⟩,o0,o0,o0,o0,o0,⟨0,.box t.cells⟩,⟨0,.arr 1 ((qad t).map qfi)⟩]
theorem Lie.quE{c:Ct}{t:Ste}(h:Lie c t):quE c t=0:=by
 obtain⟨a,ha⟩:=h.still
 unfold Proofs.YtlhciedghbmjjaaGreat.quE q2w
 rw[if_pos h.rdy.st,ha]
 simp[qpx]
theorem Lie.run{c:Ct}{t:Ste}(h:Lie c t){l:List Evn}(hl:l.length<=4096):jet c t l=qsg c l 0 ⟨t,[],[]⟩:=by
 unfold jet
 rw[if_pos h.quE,if_neg (by omega)]
theorem Lie.next{c:Ct}{t:Ste}(h:Lie c t){l:List Evn}(he:(qsg c l 0 ⟨t,[],[]⟩).2.2=0):Lie c (qsg c l 0 ⟨t,[],[]⟩).1.st :=
 ⟨⟨h.rdy.few,qtm h.rdy.st he⟩,qur h.still he⟩
theorem q8v{c:Ct}(hs:c.small=true)(hc:c.check=0)(he:(qby c).2.2=0):Lie c (qby c).1:=by
 rw[zct c hc]at he ⊢
 unfold qse qhj at *
 rw[if_pos (qfq hc)]at *
 cases hZ:qfr c (qdq c)with
 | none=>rw[hZ]at he;simp at he
 | some x =>
  obtain⟨t,m⟩:=x
  exact⟨⟨hs,qnj (qfq hc) hZ⟩,qnq hZ⟩
structure Ent where
 t:Int
 e:Evn
 s:List (Int×Bool)
abbrev Ent.row(x:Ent):List V:=[num x.t,num x.e.kind,num x.e.idx,.bool x.e.val,q0n x.s]
abbrev zmm(l:List Ent):V:=.imm (l.map Ent.row)
structure Lg where
 en:List Ent
 cf:List Int
 st:Ste
structure Cst where
 s:Ste
 e:List Int
 t:List Int
 l:List Prs
def nxD(m:Mch)(c:Cst):Option Due:=qky (qpr m c.s c.e c.t c.l)
def zat(c:Cst)(d:Due):Bool:=decide ((c.s.inputs[d.e.idx.toNat]?).getD false=d.e.val)
def q3p(c:Cst)(d:Due):List Prs:=if d.e.kind=2 then c.l.tail else c.l
def goC(m:Mch)(c:Cst)(d:Due):Cst :=
 ⟨(qah m.c c.s d.e).1,qbc c.e d.t (onE c.s (qah m.c c.s d.e).1 d),qbc c.t d.t (onT c.s (qah m.c c.s d.e).1 d),q3p c d⟩
def goS(m:Mch)(u:Int):Nat->Cst->List Ent->List Int->Option (Int ⊕ Lg)
 | 0,_,_,_=>none
 | f+1,c,En,C =>
  match nxD m c with
  | none=>some (.inr ⟨En,C,c.s⟩)
  | some d =>
   if u<d.t then some (.inr ⟨En,C,c.s⟩)
   else if d.e.kind=2/\zat c d=true then goS m u f { c with l:=c.l.tail } En C
   else if En.length=4096 then some (.inl 12)
   else if(qah m.c c.s d.e).2.2=0 then goS m u f (goC m c d) (En++[⟨d.t,d.e,qdo c.s (qah m.c c.s d.e).1⟩]) (norm (qfs m.c) (C++(qah m.c c.s d.e).2.1))
   else some (.inl (qah m.c c.s d.e).2.2)
structure Cok(m:Mch)(c:Cst):Prop where
 lie:Lie m.c c.s
 tim:Tim m c.s c.e c.t
 prs:∀p∈c.l,0<=p.t/\p.t<=1000000/\0<=p.i/\p.i<m.c.inputs.length
theorem zka{c:Ct}(h:c.check=0):∀g∈c.signals,0<=g.delay/\g.delay<=1000000:=by
 intro g hg
 obtain⟨i,hi,rfl⟩:=List.getElem_of_mem hg
 have hz:=qsm h i c.signals[i] (jA hi)
 unfold q3r at hz
 split at hz
 .split at hz
  .omega
  .split at hz
   .split at hz
    .rename_i h1 h2 h3;exact absurd hz h3.2
    .split at hz
     .omega
     .split at hz
      .omega
      .rename_i h5
       split at hz
       .omega
       .rename_i h6
        by_cases hk:c.signals[i].kind=2
        .have:¬(c.signals[i].delay<1\/1000000<c.signals[i].delay):=fun hh=>h5 ⟨hk,hh⟩
         omega
        .have:c.signals[i].delay=0:=by
          apply Classical.byContradiction
          intro hd
          exact h6 (.inr ⟨hk,hd⟩)
         omega
   .rename_i h1 h2 h3;exact absurd hz h3
 .rename_i h1;exact absurd hz h1
theorem qwe{l:List Int}{now:Int}{p:Nat->Bool}{x:Int}(h:x∈qbc l now p):x=now\/x∈l:=by
 unfold qbc qkz at h
 rw[List.mem_map]at h
 obtain⟨i,hi,rfl⟩:=h
 have hi:=List.mem_range.1 hi
 split
 .exact .inl rfl
 .right
  rw[jA hi]
  exact jH hi
theorem Cok.due{m:Mch}{c:Cst}(h:Cok m c):∀d∈qpr m c.s c.e c.t c.l,(0<=d.t/\d.t<=11000000)/\((d.e.kind=2/\0<=d.e.idx/\d.e.idx<m.c.inputs.length)\/(d.e.kind=0/\∃i:Nat,d.e.idx=i/\i<c.s.ends.length)\/(d.e.kind=1/\∃i:Nat,d.e.idx=i/\i<c.s.timers.length)):=by
 intro d hd
 have hT:=h.tim
 rcases jQ.1 hd with hd | hd
 .cases hl:c.l with
  | nil=>rw[hl]at hd;cases hd
  | cons p r =>
   rw[hl]at hd
   simp only[qga,List.mem_singleton]at hd
   subst hd
   obtain⟨h1,h2,h3,h4⟩:=h.prs p (by rw[hl];simp)
   exact⟨⟨h1,by simp only;omega⟩,.inl ⟨rfl,h3,h4⟩⟩
 .rcases jQ.1 hd with hd | hd
  .unfold upD at hd
   rw[List.mem_filterMap]at hd
   obtain⟨i,hi,hd⟩:=hd
   have hi:=List.mem_range.1 hi
   have hie:i<c.e.length:=by have:=hT.le;omega
   have him:i<m.ts.length:=by have:=hT.lm;omega
   have b1:=hT.be _ (jH hie)
   have b2:=hT.bm _ (jH him)
   unfold qfz at hd
   simp only[jA hi,jA hie,jA him,Option.getD_some]at hd
   split at hd
   .cases hd
    exact⟨⟨by simp only;omega,by simp only;omega⟩,.inr (.inl ⟨rfl,i,rfl,hi⟩)⟩
   .split at hd
    .cases hd
     exact⟨⟨by simp only;omega,by simp only;omega⟩,.inr (.inl ⟨rfl,i,rfl,hi⟩)⟩
    .cases hd
  .unfold upD at hd
   rw[List.mem_filterMap]at hd
   obtain⟨i,hi,hd⟩:=hd
   have hi:=List.mem_range.1 hi
   have hie:i<c.t.length:=by have:=hT.lt;omega
   have him:i<m.c.signals.length:=by have:=hT.ls;omega
   have b1:=hT.bt _ (jH hie)
   have b2:=hT.bd _ (jH him)
   unfold qgw at hd
   simp only[jA hi,jA hie,jA him,Option.getD_some,Option.map_some]at hd
   split at hd
   .cases hd
    exact⟨⟨by simp only;omega,by simp only;omega⟩,.inr (.inr ⟨rfl,i,rfl,hi⟩)⟩
   .cases hd
theorem qyf:∀{r:List Due} {d:Due},qtz d r∈d :: r
 | [],d=>by simp[qtz]
 | x :: r,d=>by
  unfold qtz
  rw[List.foldl_cons]
  have:=qyf (r:=r) (d:=if x.t<d.t then x else d)
  unfold qtz at this
  rcases List.mem_cons.1 this with h | h
  .rw[h]
   split<;>simp
  .exact List.mem_cons_of_mem _ (List.mem_cons_of_mem _ h)
theorem qhv{l:List Due}{d:Due}(h:qky l=some d):d∈l:=by
 cases l with
 | nil=>cases h
 | cons x r =>
  simp only[qky,jC]at h
  rw[<-h]
  exact qyf
theorem Cok.drop{m:Mch}{c:Cst}(h:Cok m c):Cok m { c with l:=c.l.tail }:=⟨h.lie,h.tim,fun p hp=>h.prs p (List.mem_of_mem_tail hp)⟩
theorem Cok.go{m:Mch}{c:Cst}(h:Cok m c){d:Due}(hd:nxD m c=some d)(hu:d.t<=1000000)(he:(qah m.c c.s d.e).2.2=0):Cok m (goC m c d):=by
 have hr:=h.lie.rdy
 have hdue:=h.due d (qhv hd)
 have hlie:Lie m.c (qah m.c c.s d.e).1:=by
  unfold qah at he ⊢
  split at he
  .cases he
  .rename_i hk
   rw[if_neg hk]
   split at he
   .rename_i hm
    rw[if_pos hm]
    exact(q1i ⟨hr.few,qgh hr.st hk hm⟩ he).1
   .cases he
 have s1:=hlie.rdy.shp
 have s0:=hr.shp
 have hT:=h.tim
 refine⟨hlie,⟨?_,?_,?_,?_,?_,?_,?_,?_,hT.bm,hT.bd⟩,fun p hp=>?_⟩
 .show(qbc _ _ _).length=_
  have:=hT.le;have a:=s1.e;have b:=s0.e
  rw[qbo];simp only[goC];omega
 .show(qbc _ _ _).length=_
  have:=hT.lt;have a:=s1.t;have b:=s0.t
  rw[qbo];simp only[goC];omega
 .have:=hT.lm;have a:=s1.e;have b:=s0.e
  simp only[goC];omega
 .have:=hT.ls;have a:=s1.t;have b:=s0.t
  simp only[goC];omega
 .have:=hT.ne;have a:=s1.e;have b:=s0.e
  simp only[goC];omega
 .have:=hT.nt;have a:=s1.t;have b:=s0.t
  simp only[goC];omega
 .intro x hx
  rcases qwe hx with rfl | hx
  .omega
  .exact hT.be x hx
 .intro x hx
  rcases qwe hx with rfl | hx
  .omega
  .exact hT.bt x hx
 .have:p∈c.l:=by
   simp only[goC,q3p]at hp
   split at hp
   .exact List.mem_of_mem_tail hp
   .exact hp
  exact h.prs p this
theorem Lie.ends{c:Ct}{s:Ste}(h:Lie c s):s.ends.length<=6/\s.ends.any (qfe 4)=false:=by
 have a:=h.rdy.mid
 have b:=h.rdy.shp.e
 refine⟨by have:=a.hi;have:=a.act;omega,?_⟩
 have:=h.rdy.st
 unfold stE at this
 rw[if_pos h.rdy.chk]at this
 unfold zgl at this
 rw[if_pos h.rdy.shp]at this
 split at this
 .omega
 .rename_i hn
  cases e:s.ends.any (qfe 4)with
  | false=>rfl
  | true=>exact absurd (.inl e) hn
theorem Lie.begE{c:Ct}{s t:Ste}(hs:Lie c s)(ht:Lie c t):begE s t=0/\zrp s t=qdo s t:=by
 obtain⟨a1,a2⟩:=hs.ends
 obtain⟨b1,b2⟩:=ht.ends
 have e1:=hs.rdy.shp.e
 have e2:=ht.rdy.shp.e
 have h:Proofs.YtlhciedghbmjjaaGreat.begE s t=0:=by
  rw[zbl (by omega) (by omega),List.any_append,a2,b2]
  rfl
 exact⟨h,by unfold zrp;rw[if_pos h]⟩
end Go.Proofs.YtlhciedghbmjjaaGreat
namespace Go.Am
theorem qwx{P:Prg}{nx q:Nat}{c:C}(I:Nat->St->Prop)(N:Nat)(Q:R->Prop)
  (step:∀k st,k<N->I k st->∃r,ev P (.code c st)=some r/\((r.x=.normal/\I (k+1) (q6r nx q r.st))\/(r.x ≠ .normal/\Q r)))
  (last:∀st,¬I N st):∀(d k:Nat) (st:St),k+d=N->I k st->∃r,ev P (.code (.goingK nx q c) st)=some r/\Q r
 | 0,k,st,hk,hI=>by
  have:k=N:=by omega
  subst this
  exact absurd hI (last st)
 | d+1,k,st,hk,hI=>by
  obtain⟨r,h1,h2⟩:=step k st (by omega) hI
  rcases h2 with⟨h2,h3⟩ | ⟨h2,h3⟩
  .obtain⟨r',h4,h5⟩:=qwx I N Q step last d (k+1) (q6r nx q r.st) (by omega) h3
   refine⟨r',?_,h5⟩
   rw[q3e,h1]
   simp only[h2]
   exact h4
  .refine⟨r,?_,h3⟩
   rw[q3e,h1]
   cases hx:r.x with
   | normal=>exact absurd hx h2
   | exit id=>simp only[hx]
   | ret=>simp only[hx]
theorem zjt{P:Prg}{nx q:Nat}{c:C}{α:Type}(N:Nat)(T:α->Tm)(Hp:α->H)(G:Nat->α->Prop)(Q:R->Prop)
  (step:∀k a f,Junk f->k<N->G k a->∃r,ev P (.code c ⟨fill f 0 (T a),Hp a⟩)=some r/\((r.x=.normal/\∃a',G (k+1) a'/\At (T a') (Hp a') (q6r nx q r.st))\/(r.x ≠ .normal/\Q r)))
  (last:∀a,¬G N a) {st:St} (a0:α) (g0:G 0 a0) (h0:At (T a0) (Hp a0) st):∃r,ev P (.code (.goingK nx q c) st)=some r/\Q r:=by
 refine qwx (fun k st=>∃a,G k a/\At (T a) (Hp a) st) N Q ?_ (fun st ⟨a,g,_⟩=>last a g) N 0 st (by omega) ⟨a0,g0,h0⟩
 rintro k st hk ⟨a,g,h⟩
 obtain⟨f,hf,rfl⟩:=h.eq
 exact step k a f hf hk g
end Go.Am
namespace Go.Proofs.YtlhciedghbmjjaaGreat
open Go Go.Am Go.Proofs
set_option maxRecDepth 100000
theorem ev42(N:Nat)(a b:List Int)(ha:a.length<=10000)(hb:b.length<=10000)(hbd:∀x∈a++b,0<=x/\x<(N:Int)):ev pg (.call (.fn 42 [] []) [qbx a,qbx b] [])=some { v:=qbx (norm N (a++b)),st:=⟨[],[]⟩ }:=by
 have e59:=ev59 N a b ha hb hbd
 have e:ir42=ir59:=rfl
 rw[qac,pg59]at e59
 rw[qac,pg42,e]
 exact e59
abbrev qza(m:Mch)(s0:Ste)(X:List V)(g w:Nat)(En:List Ent)(C:List Int)(d:Due):H :=
 [⟨0,.box m.cells⟩,o0s,o0s,o0s,o0s,o0s,o0s,o0s,⟨0,.box [.sl 1 0 0 0 0,.sl 2 0 0 0 0,.sl 3 0 0 0 0,.sl 4 0 0 0 0,.sl 5 0 0 0 0,.sl 6 0 0 0 0,.sl 7 0 0 0 0]⟩,o0s,o0s,o0s,o0s,o0s,⟨0,.box s0.cells⟩,
   ⟨1,.arr 1 (List.replicate s0.ends.length [num 0])⟩,⟨1,.arr 1 (List.replicate s0.timers.length [num 0])⟩,⟨0,.box X⟩,o0s,o0s,o0s,o0s,o0s,o0s,o0s,
   ⟨0,.box [.sl 26 g w 0 En.length,qbx C,.sl 27 0 0 0 0,.sl 28 0 0 0 0,.sl 29 0 0 0 0,.sl 30 0 0 0 0,.sl 31 0 0 0 0]⟩,⟨g,.arr w (En.map Ent.row)⟩,o0s,o0s,o0s,o0s,o0s,⟨0,.box d.row⟩]
structure G13 where
 c:Cst
 En:List Ent
 C:List Int
 ve:V
 vt:V
 g:Nat
 w:Nat
 b:Bool
 d0:Due
abbrev G13.X(m:Mch)(a:G13):List V:=qlh m a.c.s a.ve a.vt a.c.l
abbrev G13.d(m:Mch)(a:G13):Due:=(nxD m a.c).getD zah
def G13.H(m:Mch)(s0:Ste)(a:G13):H:=match a.b with
 | true=>qza m s0 (a.X m) a.g a.w a.En a.C (a.d m)
 | false=>qza m s0 (a.X m) a.g a.w a.En a.C a.d0++[⟨0,.box (a.d m).row⟩]
def qrj(u:Int)(id:Nat)(sm:Bool):Tm:=[none,none,some (num u),none,none,none,some (.bptr 8 0),some (num 0),none,none,none,none,some (.bptr 17 0),some (.bptr 25 0),some (.fn 40 [.bptr 17 0] []),some (.bptr id 0),some (.bool sm)]++List.replicate 121 none
def qtq(e:Int):Tm:=[none,none,none,none,none,none,some (.bptr 8 0),some (num e)]++List.replicate 130 none
def G13.T(m:Mch)(u:Int)(a:G13):Tm:=qrj u (if a.b=true then 32 else 33) (nxD m a.c).isSome
def VE(i:Nat)(n:Nat)(l:List Int)(v:V):Prop:=v=qbx l\/(v=.sl i 1 1 0 n/\l=List.replicate n 0)
theorem VE.sl{h:H}{i n:Nat}{l:List Int}{v:V}(hv:VE i n l v)(hi:h[i]?=some ⟨1,.arr 1 (List.replicate n [num 0])⟩):Sl h l v:=by
 rcases hv with rfl | ⟨rfl,rfl⟩
 .exact .imm
 .have:=Sl.own (h:=h) (l:=List.replicate n 0) i 1 (by rw[hi];simp)
  simpa using this
theorem VE.low{i n k:Nat}{l:List Int}{v:V}(hv:VE i n l v)(hi:i<k):v.low k=true:=by
 rcases hv with rfl | ⟨rfl,rfl⟩
 .rfl
 .simp[hi]
structure G13.Ok(m:Mch)(s0:Ste)(u:Int)(Z:Option (Int ⊕ Lg))(L k:Nat)(a:G13):Prop where
 ok:Cok m a.c
 ve:VE 15 s0.ends.length a.c.e a.ve
 vt:VE 16 s0.timers.length a.c.t a.vt
 w:a.w=5\/a.w=0
 lin:Lin (qfs m.c) a.C
 z:goS m u (4097+L-k) a.c a.En a.C=Z
 mu:k+a.c.l.length<=a.En.length+L
 en:a.En.length<=4096
structure Nil7(h:H)(q:Nat):Prop where
 b:h[8]?=some ⟨0,.box [.sl q 0 0 0 0,.sl (q+1) 0 0 0 0,.sl (q+2) 0 0 0 0,.sl (q+3) 0 0 0 0,.sl (q+4) 0 0 0 0,.sl (q+5) 0 0 0 0,.sl (q+6) 0 0 0 0]⟩
 e0:h[q]?=some o0s
 e1:h[q+1]?=some o0s
 e2:h[q+2]?=some o0s
 e3:h[q+3]?=some o0s
 e4:h[q+4]?=some o0s
 e5:h[q+5]?=some o0s
 e6:h[q+6]?=some o0s
inductive Out13 (m:Mch) (s0:Ste) (u:Int) (Z:Option (Int ⊕ Lg)) (r:R):Prop
 | ok (a:G13) (hz:Z=some (.inr ⟨a.En,a.C,a.c.s⟩)) (hw:a.w=5\/a.w=0) (he:qag (.exit 0) (a.T m u) (a.H m s0) r)
 | bad (e:Int) (hz:Z=some (.inl e)) (h:H) (q:Nat) (hh:Nil7 h q) (he:qag .ret (qtq e) h r)
theorem zmg{m:Mch}{s0:Ste}{X:List V}{g w:Nat}{En:List Ent}{C:List Int}{d:Due}(hX:qfm 33 X=true)(t:List Due):qck (qza m s0 X g w En C d++t.map fun x=>⟨0,.box x.row⟩):=by
 rw[qgk]
 intro o ho
 rw[jF]
 rcases jQ.1 ho with ho | ho
 .refine qun (show 33<=(qza m s0 X g w En C d).length+_ from Nat.le_add_right 33 _) ?_
  simp only[qza,List.mem_cons,List.not_mem_nil,or_false]at ho
  rcases ho with rfl | rfl | rfl | rfl | rfl | rfl | rfl | rfl | rfl | rfl | rfl | rfl | rfl | rfl | rfl | rfl | rfl | rfl | rfl | rfl | rfl | rfl | rfl | rfl | rfl | rfl | rfl | rfl | rfl | rfl | rfl | rfl | rfl<;>(try rfl)<;>simp[qbg]
  exact qjh hX
 .obtain⟨x,_,rfl⟩:=List.mem_map.1 ho
  simp[qbg]
theorem qtf{m:Mch}{c:Cst}{d:Due}(hd:d∈qpr m c.s c.e c.t c.l)(hk:d.e.kind=2):∃p r,c.l=p :: r:=by
 cases hl:c.l with
 | cons p r=>exact⟨p,r,rfl⟩
 | nil =>
  exfalso
  rw[hl]at hd
  rcases jQ.1 hd with hd | hd
  .cases hd
  .rcases jQ.1 hd with hd | hd
   .unfold upD at hd
    rw[List.mem_filterMap]at hd
    obtain⟨i,hi,hd⟩:=hd
    unfold qfz at hd
    split at hd
    .cases hd;cases hk
    .split at hd
     .cases hd;cases hk
     .cases hd
   .unfold upD at hd
    rw[List.mem_filterMap]at hd
    obtain⟨i,hi,hd⟩:=hd
    unfold qgw at hd
    split at hd
    .cases hd;cases hk
    .cases hd
theorem z9e{m:Mch}{s0:Ste}{c:Cst}(hok:Cok m c){ve vt:V}(hve:VE 15 s0.ends.length c.e ve)(hvt:VE 16 s0.timers.length c.t vt)(g w:Nat)(En:List Ent)(C:List Int)(d:Due)(t:List Due) :
  ev pg (.call (.fn 40 [.bptr 17 0] []) [] (qza m s0 (qlh m c.s ve vt c.l) g w En C d++t.map fun x=>⟨0,.box x.row⟩))=some { v:=.tup [((nxD m c).getD zah).v,.bool (nxD m c).isSome],st:=⟨[],qza m s0 (qlh m c.s ve vt c.l) g w En C d++t.map fun x=>⟨0,.box x.row⟩⟩ }:=by
 have hl1:=hve.low (k:=33) (by omega)
 have hl2:=hvt.low (k:=33) (by omega)
 refine ev40 rfl (zmg (by simp[hl1,hl2]) t) (hve.sl rfl) (hvt.sl rfl) hok.tim fun d hd=>?_
 have:=(hok.due d hd).1
 exact⟨by omega,by omega⟩
theorem z2u{m:Mch}{s0:Ste}{c:Cst}(hok:Cok m c){ve vt:V}(hve:VE 15 s0.ends.length c.e ve)(hvt:VE 16 s0.timers.length c.t vt)(g w:Nat)(En:List Ent)(C:List Int)(d0:Due)(t:List Due)(l:List Prs)(d:Due) :
  ev pg (.call (.fn 41 [] []) [.bptr 17 0,d.v] (qza m s0 (qlh m c.s ve vt l) g w En C d0++t.map fun x=>⟨0,.box x.row⟩)) =
   some (if(qah m.c c.s d.e).2.2=0 then { v:=.tup [q0n (qdo c.s (qah m.c c.s d.e).1),qbx (qah m.c c.s d.e).2.1,num 0],st:=⟨[],qza m s0 (qlh m (qah m.c c.s d.e).1 (qbx (qbc c.e d.t (onE c.s (qah m.c c.s d.e).1 d))) (qbx (qbc c.t d.t (onT c.s (qah m.c c.s d.e).1 d))) l) g w En C d0++t.map fun x=>⟨0,.box x.row⟩⟩ }
   else { v:=.tup [q0n [],qbx [],num (qah m.c c.s d.e).2.2],st:=⟨[],qza m s0 (qlh m c.s ve vt l) g w En C d0++t.map fun x=>⟨0,.box x.row⟩⟩ }):=by
 have hl1:=hve.low (k:=33) (by omega)
 have hl2:=hvt.low (k:=33) (by omega)
 have hr:=hok.lie.rdy
 have hnx:qil m.c c.s d.e=qah m.c c.s d.e:=by unfold qil;rw[if_pos hok.lie.quE]
 have hlie:(qah m.c c.s d.e).2.2=0->Lie m.c (qah m.c c.s d.e).1:=fun he=>by
  unfold qah at he ⊢
  split at he
  .cases he
  .rename_i hk
   rw[if_neg hk]
   split at he
   .rename_i hm
    rw[if_pos hm]
    exact(q1i ⟨hr.few,qgh hr.st hk hm⟩ he).1
   .cases he
 have e:=ev41 (h:=qza m s0 (qlh m c.s ve vt l) g w En C d0++t.map fun x=>⟨0,.box x.row⟩) (x:=17) (m:=m) (s:=c.s) (e:=c.e) (t:=c.t) (ve:=ve) (vt:=vt) (l:=l) rfl (zmg (by simp[hl1,hl2]) t) (hve.sl rfl) (hvt.sl rfl) hok.tim hr.small hr.few d
  (q5g hr.few c.s d.e) (fun he=>by
   rw[hnx]at he ⊢
   have a:=(hlie he).rdy.shp.e;have b:=hr.shp.e;omega) (fun he=>by
   rw[hnx]at he ⊢
   have a:=(hlie he).rdy.shp.t;have b:=hr.shp.t;omega)
 rw[e]
 unfold jdk
 rw[hnx]
 by_cases he:(qah m.c c.s d.e).2.2=0
 .rw[if_pos he,if_pos he]
  obtain⟨b1,b2⟩:=hok.lie.begE (hlie he)
  rw[if_pos b1,b2]
  rfl
 .rw[if_neg he,if_neg he]
set_option maxHeartbeats 4000000
theorem q8t(l:List Prs):qio 3 (l.map Prs.row)=true:=by simp[qio]
theorem Out13.of{m:Mch}{s0:Ste}{u:Int}{Z:Option (Int ⊕ Lg)}{e:Int}{st:St}(hz:Z=some (.inl e))(q:Nat)(hh:Nil7 st.h q)(hfit:Am.fits (qtq e) st.s):Out13 m s0 u Z { x:=.ret,st:=st }:=by
 obtain⟨f,hf,hs⟩:=qlg 0 hfit
 refine .bad e hz st.h q hh ⟨f,hf,?_⟩
 rw[<-hs]
theorem z7x{m:Mch}{s0:Ste}{u:Int}(hu:u<=1000000){Z:Option (Int ⊕ Lg)}{L:Nat}(hL:L<=4096){st:St}(a0:G13)(g0:a0.Ok m s0 u Z L 0)(h0:At (a0.T m u) (a0.H m s0) st):∃r,ev pg (.code (.goingK 33 15 L13_0) st)=some r/\Out13 m s0 u Z r:=by
 refine zjt (4097+L) (G13.T m u) (G13.H m s0) (G13.Ok m s0 u Z L) _ ?_ ?_ a0 g0 h0
 .rintro k a f hf hk hG
  have cont:∀a',G13.Ok m s0 u Z L (k+1) a'->(∃st,ev pg (.code L13_0 ⟨fill f 0 (a.T m u),a.H m s0⟩)=some { st:=st }/\At (a'.T m u) (a'.H m s0) (q6r 33 15 st))->∃r,ev pg (.code L13_0 ⟨fill f 0 (a.T m u),a.H m s0⟩)=some r/\((r.x=.normal/\∃a',G13.Ok m s0 u Z L (k+1) a'/\At (a'.T m u) (a'.H m s0) (q6r 33 15 r.st))\/(r.x ≠ .normal/\Out13 m s0 u Z r)) :=
   fun a' g ⟨st,h1,h2⟩=>⟨_,h1,.inl ⟨rfl,a',g,h2⟩⟩
  have fin:(∃r,ev pg (.code L13_0 ⟨fill f 0 (a.T m u),a.H m s0⟩)=some r/\r.x ≠ .normal/\Out13 m s0 u Z r)->∃r,ev pg (.code L13_0 ⟨fill f 0 (a.T m u),a.H m s0⟩)=some r/\((r.x=.normal/\∃a',G13.Ok m s0 u Z L (k+1) a'/\At (a'.T m u) (a'.H m s0) (q6r 33 15 r.st))\/(r.x ≠ .normal/\Out13 m s0 u Z r)) :=
   fun⟨r,h1,h2,h3⟩=>⟨r,h1,.inr ⟨h2,h3⟩⟩
  obtain⟨c,En,C,ve,vt,g,w,b,d0⟩:=a
  obtain⟨hok,hve,hvt,hw,hlin,hz,hmu,hen⟩:=hG
  simp only at hok hve hvt hw hlin hz hmu hen
  obtain⟨n,hn⟩:∃n,4097+L-k=n+1:=⟨4097+L-k-1,by omega⟩
  rw[hn]at hz
  have hn2:4097+L-(k+1)=n:=by omega
  unfold goS at hz
  cases hnx:nxD m c with
  | none =>
   rw[hnx]at hz
   simp only at hz
   refine fin ?_
   have key:∀r,qag (.exit 0) (G13.T m u ⟨c,En,C,ve,vt,g,w,b,d0⟩) (G13.H m s0 ⟨c,En,C,ve,vt,g,w,b,d0⟩) r->Out13 m s0 u Z r:=fun r he=>.ok ⟨c,En,C,ve,vt,g,w,b,d0⟩ hz.symm hw he
   simp only[G13.T,G13.H,G13.d,G13.X,hnx,Option.isSome_none,Option.getD_none]at key ⊢
   cases b with
   | true =>
    simp[qrj,L13_0,hf.ne]
    exact key _ (by simp[qrj,hf.ne])
   | false =>
    simp[qrj,L13_0,hf.ne]
    exact key _ (by simp[qrj,hf.ne])
  | some d =>
   rw[hnx]at hz
   simp only at hz
   have hdm:=qhv hnx
   obtain⟨⟨hd1,hd2⟩,hdk⟩:=hok.due d hdm
   by_cases hut:u<d.t
   .rw[if_pos hut]at hz
    refine fin ?_
    have key:∀r,qag (.exit 0) (G13.T m u ⟨c,En,C,ve,vt,g,w,b,d0⟩) (G13.H m s0 ⟨c,En,C,ve,vt,g,w,b,d0⟩) r->Out13 m s0 u Z r:=fun r he=>.ok ⟨c,En,C,ve,vt,g,w,b,d0⟩ hz.symm hw he
    have hut2:¬d.t<=u:=by omega
    simp only[G13.T,G13.H,G13.d,G13.X,hnx,Option.isSome_some,Option.getD_some]at key ⊢
    cases b with
    | true =>
     simp[qrj,L13_0,hut2,hf.ne]
     exact key _ (by simp[qrj,hf.ne])
    | false =>
     simp[qrj,L13_0,hut2,hf.ne]
     exact key _ (by simp[qrj,hf.ne])
   .rw[if_neg hut]at hz
    have hut2:d.t<=u:=by omega
    have hub:d.t<=1000000:=by omega
    by_cases hk2:d.e.kind=2
    .obtain⟨p,r,hlp⟩:=qtf hdm hk2
     obtain⟨dt,⟨dk,di,dv⟩⟩:=d
     simp only at hk2 hdk hut hut2 hub hd1 hd2 hz
     subst hk2
     obtain⟨i,rfl⟩:∃i:Nat,di=i:=⟨di.toNat,by omega⟩
     have hi:i<c.s.inputs.length:=by have:=hok.lie.rdy.shp.i;omega
     have hsz:qio 3 (p.row :: r.map Prs.row)=true:=q8t (p :: r)
     have htk:List.take r.length (r.map Prs.row)=r.map Prs.row:=kB (by simp)
     have hl1:=hve.low (k:=33) (by omega)
     have hl2:=hvt.low (k:=33) (by omega)
     have hsm:zat c ⟨dt,⟨2,i,dv⟩⟩=decide (c.s.inputs[i]=dv):=by simp[zat,hi]
     rw[hsm]at hz
     have hrl:q3p c ⟨dt,⟨2,i,dv⟩⟩=r:=by simp[q3p,hlp]
     have hmu2:k+(r.length+1)<=En.length+L:=by rw[hlp]at hmu;simpa using hmu
     by_cases hns:c.s.inputs[i]=dv
     .rw[if_pos ⟨rfl,by simpa using hns⟩]at hz
      have e40:=fun g w En C D t=>z9e (s0:=s0) hok.drop hve hvt g w En C D t
      have a1:=fun D0:Due=>G13.Ok.mk (m:=m) (s0:=s0) (u:=u) (Z:=Z) (L:=L) (k:=k+1) (a:=⟨{ c with l:=c.l.tail },En,C,ve,vt,g,w,false,D0⟩) hok.drop hve hvt hw hlin (by simp only;rw[hn2];exact hz) (by simp only[hlp,List.tail_cons];omega) hen
      cases b with
      | true =>
       refine cont _ (a1 ⟨dt,⟨2,i,dv⟩⟩) ?_
       have e40a:=e40 g w En C ⟨dt,⟨2,i,dv⟩⟩ [⟨dt,⟨2,i,dv⟩⟩]
       simp only[hlp,List.tail_cons,List.map_nil,List.append_nil,List.map_cons,List.cons_append,List.nil_append]at e40a
       simp only[G13.T,G13.H,G13.d,G13.X,hnx,hlp,List.tail_cons,Option.isSome_some,Option.getD_some]
       generalize (nxD m _).isSome=SM at *
       generalize (nxD m _).getD zah=ND at *
       simp[qrj,L13_0,hut2,hsz,htk,hi,hns,hl1,hl2,e40a,hf.ne]
      | false =>
       refine cont _ (a1 d0) ?_
       have e40a:=e40 g w En C d0 [⟨dt,⟨2,i,dv⟩⟩,⟨dt,⟨2,i,dv⟩⟩]
       simp only[hlp,List.tail_cons,List.map_nil,List.append_nil,List.map_cons,List.cons_append,List.nil_append]at e40a
       simp only[G13.T,G13.H,G13.d,G13.X,hnx,hlp,List.tail_cons,Option.isSome_some,Option.getD_some]
       generalize (nxD m _).isSome=SM at *
       generalize (nxD m _).getD zah=ND at *
       simp[qrj,L13_0,hut2,hsz,htk,hi,hns,hl1,hl2,e40a,hf.ne]
     .rw[if_neg (fun h=>hns (by simpa using h.2))]at hz
      have hnsb:(c.s.inputs[i]==dv)=false:=by simpa using hns
      by_cases h4:En.length=4096
      .rw[if_pos h4]at hz
       have h4':(En.length:Int)=4096:=by omega
       refine fin ?_
       simp only[G13.T,G13.H,G13.d,G13.X,hnx,hlp,Option.isSome_some,Option.getD_some]
       cases b with
       | true =>
        simp[qrj,L13_0,hut2,hsz,htk,hi,hns,hnsb,h4',hf.ne]
        exact .of hz.symm 33 ⟨rfl,rfl,rfl,rfl,rfl,rfl,rfl,rfl⟩ (by simp[qtq,hf.ne])
       | false =>
        simp[qrj,L13_0,hut2,hsz,htk,hi,hns,hnsb,h4',hf.ne]
        exact .of hz.symm 34 ⟨rfl,rfl,rfl,rfl,rfl,rfl,rfl,rfl⟩ (by simp[qtq,hf.ne])
      .rw[if_neg h4]at hz
       have h4':¬(En.length:Int)=4096:=by omega
       by_cases he:(qah m.c c.s ⟨2,i,dv⟩).2.2=0
       .rw[if_pos he]at hz
        have hok':=hok.go hnx hub he
        have hcl:(goC m c ⟨dt,⟨2,i,dv⟩⟩).l=r:=hrl
        have e41:∀(D:Due) (t:List Due),ev pg (.call (.fn 41 [] []) [.bptr 17 0,Due.v ⟨dt,⟨2,i,dv⟩⟩] (qza m s0 (qlh m c.s ve vt r) g w En C D++t.map fun x=>⟨0,.box x.row⟩))=some { v:=.tup [q0n (qdo c.s (qah m.c c.s ⟨2,i,dv⟩).1),qbx (qah m.c c.s ⟨2,i,dv⟩).2.1,num 0],st:=⟨[],qza m s0 (qlh m (goC m c ⟨dt,⟨2,i,dv⟩⟩).s (qbx (goC m c ⟨dt,⟨2,i,dv⟩⟩).e) (qbx (goC m c ⟨dt,⟨2,i,dv⟩⟩).t) (goC m c ⟨dt,⟨2,i,dv⟩⟩).l) g w En C D++t.map fun x=>⟨0,.box x.row⟩⟩ }:=fun D t=>by
         rw[z2u hok hve hvt g w En C D t r _,if_pos he,hcl]
         rfl
        have hcf:=qlz m.c c.s ⟨2,i,dv⟩
        have e42:=ev42 (qfs m.c) C (qah m.c c.s ⟨2,i,dv⟩).2.1 (by have:=hlin.len;have:=qhy hok.lie.rdy.mid;omega) (by have:=hcf.len;have:=qhy hok.lie.rdy.mid;omega) (fun x hx=>(jQ.1 hx).elim (hlin.b x) (hcf.b x))
        have hlin':=Lin.norm (qfs m.c) (C++(qah m.c c.s ⟨2,i,dv⟩).2.1)
        have e40:=fun g w En C D t=>z9e (s0:=s0) hok' (ve:=qbx (goC m c ⟨dt,⟨2,i,dv⟩⟩).e) (vt:=qbx (goC m c ⟨dt,⟨2,i,dv⟩⟩).t) (.inl rfl) (.inl rfl) g w En C D t
        have hap:(En.length+1)*56<=140737488355328:=by omega
        generalize goC m c ⟨dt,⟨2,i,dv⟩⟩=c' at *
        generalize qdo c.s (qah m.c c.s ⟨2,i,dv⟩).1=F at *
        generalize (qah m.c c.s ⟨2,i,dv⟩).2.1=cf at *
        generalize hC':norm (qfs m.c) (C++cf)=C' at *
        have a1:=fun D0:Due=>G13.Ok.mk (m:=m) (s0:=s0) (u:=u) (Z:=Z) (L:=L) (k:=k+1) (a:=⟨c',En++[⟨dt,⟨2,i,dv⟩,F⟩],C',qbx c'.e,qbx c'.t,g+1,5,false,D0⟩) hok' (.inl rfl) (.inl rfl) (.inl rfl) hlin' (by simp only;rw[hn2];exact hz) (by simp only[jF,List.length_cons,List.length_nil,hcl];omega) (by simp only[jF,List.length_cons,List.length_nil];omega)
        cases b with
        | true =>
         refine cont _ (a1 ⟨dt,⟨2,i,dv⟩⟩) ?_
         have e41a:=e41 ⟨dt,⟨2,i,dv⟩⟩ []
         have e40a:=e40 (g+1) 5 (En++[⟨dt,⟨2,i,dv⟩,F⟩]) C' ⟨dt,⟨2,i,dv⟩⟩ [⟨dt,⟨2,i,dv⟩⟩]
         simp only[List.map_nil,List.append_nil,List.map_cons,List.cons_append,List.nil_append,List.map_append,jF,List.length_cons,List.length_nil]at e41a e40a
         simp only[G13.T,G13.H,G13.d,G13.X,hnx,hlp,Option.isSome_some,Option.getD_some]
         generalize (nxD m c').isSome=SM at *
         generalize (nxD m c').getD zah=ND at *
         rcases hw with rfl | rfl<;>simp[qrj,L13_0,hut2,hsz,htk,hi,hns,hnsb,h4',e41a,e42,e40a,hap,hf.ne]
        | false =>
         refine cont _ (a1 d0) ?_
         have e41a:=e41 d0 [⟨dt,⟨2,i,dv⟩⟩]
         have e40a:=e40 (g+1) 5 (En++[⟨dt,⟨2,i,dv⟩,F⟩]) C' d0 [⟨dt,⟨2,i,dv⟩⟩,⟨dt,⟨2,i,dv⟩⟩]
         simp only[List.map_nil,List.append_nil,List.map_cons,List.cons_append,List.nil_append,List.map_append,jF,List.length_cons,List.length_nil]at e41a e40a
         simp only[G13.T,G13.H,G13.d,G13.X,hnx,hlp,Option.isSome_some,Option.getD_some]
         generalize (nxD m c').isSome=SM at *
         generalize (nxD m c').getD zah=ND at *
         rcases hw with rfl | rfl<;>simp[qrj,L13_0,hut2,hsz,htk,hi,hns,hnsb,h4',e41a,e42,e40a,hap,hf.ne]
       .rw[if_neg he]at hz
        have e41:∀(D:Due) (t:List Due),ev pg (.call (.fn 41 [] []) [.bptr 17 0,Due.v ⟨dt,⟨2,i,dv⟩⟩] (qza m s0 (qlh m c.s ve vt r) g w En C D++t.map fun x=>⟨0,.box x.row⟩))=some { v:=.tup [q0n [],qbx [],num (qah m.c c.s ⟨2,i,dv⟩).2.2],st:=⟨[],qza m s0 (qlh m c.s ve vt r) g w En C D++t.map fun x=>⟨0,.box x.row⟩⟩ }:=fun D t=>by
         rw[z2u hok hve hvt g w En C D t r _,if_neg he]
        have heb:((qah m.c c.s ⟨2,i,dv⟩).2.2==0)=false:=by simpa using he
        generalize (qah m.c c.s ⟨2,i,dv⟩).2.2=er at *
        refine fin ?_
        simp only[G13.T,G13.H,G13.d,G13.X,hnx,hlp,Option.isSome_some,Option.getD_some]
        cases b with
        | true =>
         have e41a:=e41 ⟨dt,⟨2,i,dv⟩⟩ []
         simp only[List.map_nil,List.append_nil,List.map_cons,List.cons_append,List.nil_append]at e41a
         simp[qrj,L13_0,hut2,hsz,htk,hi,hns,hnsb,h4',e41a,he,heb,hf.ne]
         exact .of hz.symm 33 ⟨rfl,rfl,rfl,rfl,rfl,rfl,rfl,rfl⟩ (by simp[qtq,hf.ne])
        | false =>
         have e41a:=e41 d0 [⟨dt,⟨2,i,dv⟩⟩]
         simp only[List.map_nil,List.append_nil,List.map_cons,List.cons_append,List.nil_append]at e41a
         simp[qrj,L13_0,hut2,hsz,htk,hi,hns,hnsb,h4',e41a,he,heb,hf.ne]
         exact .of hz.symm 34 ⟨rfl,rfl,rfl,rfl,rfl,rfl,rfl,rfl⟩ (by simp[qtq,hf.ne])
    .rw[if_neg (fun h=>hk2 h.1)]at hz
     have hk2b:(d.e.kind==2)=false:=by simpa using hk2
     have hrl:q3p c d=c.l:=by unfold q3p;rw[if_neg hk2]
     by_cases h4:En.length=4096
     .rw[if_pos h4]at hz
      have h4':(En.length:Int)=4096:=by omega
      refine fin ?_
      simp only[G13.T,G13.H,G13.d,G13.X,hnx,Option.isSome_some,Option.getD_some]
      cases b with
      | true =>
       simp[qrj,L13_0,hut2,hk2,hk2b,h4',hf.ne]
       exact .of hz.symm 33 ⟨rfl,rfl,rfl,rfl,rfl,rfl,rfl,rfl⟩ (by simp[qtq,hf.ne])
      | false =>
       simp[qrj,L13_0,hut2,hk2,hk2b,h4',hf.ne]
       exact .of hz.symm 34 ⟨rfl,rfl,rfl,rfl,rfl,rfl,rfl,rfl⟩ (by simp[qtq,hf.ne])
     .rw[if_neg h4]at hz
      have h4':¬(En.length:Int)=4096:=by omega
      by_cases he:(qah m.c c.s d.e).2.2=0
      .rw[if_pos he]at hz
       have hok':=hok.go hnx hub he
       have hcl:(goC m c d).l=c.l:=hrl
       have e41:∀(D:Due) (t:List Due),ev pg (.call (.fn 41 [] []) [.bptr 17 0,d.v] (qza m s0 (qlh m c.s ve vt c.l) g w En C D++t.map fun x=>⟨0,.box x.row⟩))=some { v:=.tup [q0n (qdo c.s (qah m.c c.s d.e).1),qbx (qah m.c c.s d.e).2.1,num 0],st:=⟨[],qza m s0 (qlh m (goC m c d).s (qbx (goC m c d).e) (qbx (goC m c d).t) (goC m c d).l) g w En C D++t.map fun x=>⟨0,.box x.row⟩⟩ }:=fun D t=>by
        rw[z2u hok hve hvt g w En C D t c.l d,if_pos he,hcl]
        rfl
       have hcf:=qlz m.c c.s d.e
       have e42:=ev42 (qfs m.c) C (qah m.c c.s d.e).2.1 (by have:=hlin.len;have:=qhy hok.lie.rdy.mid;omega) (by have:=hcf.len;have:=qhy hok.lie.rdy.mid;omega) (fun x hx=>(jQ.1 hx).elim (hlin.b x) (hcf.b x))
       have hlin':=Lin.norm (qfs m.c) (C++(qah m.c c.s d.e).2.1)
       have e40:=fun g w En C D t=>z9e (s0:=s0) hok' (ve:=qbx (goC m c d).e) (vt:=qbx (goC m c d).t) (.inl rfl) (.inl rfl) g w En C D t
       have hap:(En.length+1)*56<=140737488355328:=by omega
       generalize goC m c d=c' at *
       generalize qdo c.s (qah m.c c.s d.e).1=F at *
       generalize (qah m.c c.s d.e).2.1=cf at *
       generalize hC':norm (qfs m.c) (C++cf)=C' at *
       have a1:=fun D0:Due=>G13.Ok.mk (m:=m) (s0:=s0) (u:=u) (Z:=Z) (L:=L) (k:=k+1) (a:=⟨c',En++[⟨d.t,d.e,F⟩],C',qbx c'.e,qbx c'.t,g+1,5,false,D0⟩) hok' (.inl rfl) (.inl rfl) (.inl rfl) hlin' (by simp only;rw[hn2];exact hz) (by simp only[jF,List.length_cons,List.length_nil,hcl];omega) (by simp only[jF,List.length_cons,List.length_nil];omega)
       cases b with
       | true =>
        refine cont _ (a1 d) ?_
        have e41a:=e41 d []
        have e40a:=e40 (g+1) 5 (En++[⟨d.t,d.e,F⟩]) C' d [d]
        simp only[List.map_nil,List.append_nil,List.map_cons,List.cons_append,List.nil_append,List.map_append,jF,List.length_cons,List.length_nil]at e41a e40a
        simp only[G13.T,G13.H,G13.d,G13.X,hnx,Option.isSome_some,Option.getD_some]
        generalize (nxD m c').isSome=SM at *
        generalize (nxD m c').getD zah=ND at *
        rcases hw with rfl | rfl<;>simp[qrj,L13_0,hut2,hk2,hk2b,h4',e41a,e42,e40a,hap,hf.ne]
       | false =>
        refine cont _ (a1 d0) ?_
        have e41a:=e41 d0 [d]
        have e40a:=e40 (g+1) 5 (En++[⟨d.t,d.e,F⟩]) C' d0 [d,d]
        simp only[List.map_nil,List.append_nil,List.map_cons,List.cons_append,List.nil_append,List.map_append,jF,List.length_cons,List.length_nil]at e41a e40a
        simp only[G13.T,G13.H,G13.d,G13.X,hnx,Option.isSome_some,Option.getD_some]
        generalize (nxD m c').isSome=SM at *
        generalize (nxD m c').getD zah=ND at *
        rcases hw with rfl | rfl<;>simp[qrj,L13_0,hut2,hk2,hk2b,h4',e41a,e42,e40a,hap,hf.ne]
      .rw[if_neg he]at hz
       have e41:∀(D:Due) (t:List Due),ev pg (.call (.fn 41 [] []) [.bptr 17 0,d.v] (qza m s0 (qlh m c.s ve vt c.l) g w En C D++t.map fun x=>⟨0,.box x.row⟩))=some { v:=.tup [q0n [],qbx [],num (qah m.c c.s d.e).2.2],st:=⟨[],qza m s0 (qlh m c.s ve vt c.l) g w En C D++t.map fun x=>⟨0,.box x.row⟩⟩ }:=fun D t=>by
        rw[z2u hok hve hvt g w En C D t c.l d,if_neg he]
       have heb:((qah m.c c.s d.e).2.2==0)=false:=by simpa using he
       generalize (qah m.c c.s d.e).2.2=er at *
       refine fin ?_
       simp only[G13.T,G13.H,G13.d,G13.X,hnx,Option.isSome_some,Option.getD_some]
       cases b with
       | true =>
        have e41a:=e41 d []
        simp only[List.map_nil,List.append_nil,List.map_cons,List.cons_append,List.nil_append]at e41a
        simp[qrj,L13_0,hut2,hk2,hk2b,h4',e41a,he,heb,hf.ne]
        exact .of hz.symm 33 ⟨rfl,rfl,rfl,rfl,rfl,rfl,rfl,rfl⟩ (by simp[qtq,hf.ne])
       | false =>
        have e41a:=e41 d0 [d]
        simp only[List.map_nil,List.append_nil,List.map_cons,List.cons_append,List.nil_append]at e41a
        simp[qrj,L13_0,hut2,hk2,hk2b,h4',e41a,he,heb,hf.ne]
        exact .of hz.symm 34 ⟨rfl,rfl,rfl,rfl,rfl,rfl,rfl,rfl⟩ (by simp[qtq,hf.ne])
 .rintro a hG
  have h1:=hG.mu
  have h2:=hG.en
  omega
end Go.Proofs.YtlhciedghbmjjaaGreat
