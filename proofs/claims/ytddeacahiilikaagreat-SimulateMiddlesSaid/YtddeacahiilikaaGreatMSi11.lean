/- An event happens in a course, by the program. A course goes on to another state, by the reference. The law PlantStills, in Am: it returns true. A run goes on: what a run of all events, and of the first and of the other ones, come to. Courses in time, plainly. Loops of Am whose rounds hand a box on, by a picture. Courses in time, by the program. Courses in time, by the program: the loop. -/
import Derived.Test.YtddeacahiilikaaGreatMBg1
import Derived.KernelRfl
import Derived.Test.YtddeacahiilikaaGreatMGb2
import Derived.Test.YtddeacahiilikaaGreatMSi1
import Derived.Test.YtddeacahiilikaaGreatMRe1
import Derived.Test.YtddeacahiilikaaGreatMPc1
import Derived.Test.YtddeacahiilikaaGreatMSv1
set_option linter.all false
namespace Go.Proofs.YtddeacahiilikaaGreat
open Go Go.Am Go.Proofs
set_option maxRecDepth 100000
theorem q3y{h:H}(hc:qcj h){x:Nat}{o:Ob}(ho:qbm h.length o=o):qcj (h.set x o):=by
 rw[qhs]at hc ⊢
 intro q hq
 rw[jU]
 rcases jT hq with h1 | rfl
 .exact hc q h1
 .exact ho
theorem Sl.set{h:H}{l:List Int}{v:V}(hv:Sl h l v){x:Nat}{o:Ob}{cs:List V}(hx:h[x]?=some ⟨0,.box cs⟩):Sl (h.set x o) l v:=by
 rcases hv with _ | ⟨i,g,hi⟩
 .exact .imm
 .refine .own i g ?_
  have hne:x≠i:=by
   rintro rfl
   rw[hx]at hi
   cases hi
  rw[jO hne]
  exact hi
abbrev o0s:Ob:=⟨0,.arr 0 []⟩
abbrev zxs(x k:Nat)(d:Due)(n:List V):H:=[⟨0,.box [.bptr x 0]⟩,⟨0,.box d.row⟩,o0s,o0s,o0s,o0s,o0s,⟨0,.box n⟩,⟨0,.box [.fn 152 [] [.bptr (k+1) 0]]⟩]
theorem zgr{h:H}{x:Nat}{m:Mch}{s n:Ste}{ve vt:V}{l:List Prs}{d:Due}(hx:h[x]?=some ⟨0,.box (qkb m s ve vt l)⟩)(hc:qcj h){k:Nat}(hk:k=h.length)(r:H)(hr:∀o∈r,∃w rows,o=(⟨0,.arr w rows⟩:Ob)) :
  Hap (h++(zxs x k d n.cells++r)) x (k+7) k (k+8) (k+1) m s n ve vt l d:=by
 subst hk
 have hlt:=qcd hx
 refine⟨qdm hc ?_,qcz hx,?_,?_,?_,?_⟩
 .intro o ho
  rcases jQ.1 ho with ho | ho
  .have h9:(zxs x h.length d n.cells++r).length=9+r.length:=by simp;omega
   rw[h9]
   simp only[zxs,List.mem_cons,List.not_mem_nil,or_false]at ho
   rcases ho with rfl | rfl | rfl | rfl | rfl | rfl | rfl | rfl | rfl<;>simp[qbm]<;>omega
  .obtain⟨w,rows,rfl⟩:=hr o ho
   rfl
 .rw[qbe];rfl
 .rw[qbd];rfl
 .rw[qbe];rfl
 .rw[qbe];rfl
def z5g(h:H)(x:Nat)(m:Mch)(s:Ste)(e t:List Int)(l:List Prs)(d:Due):R :=
 if(qhm m.c s d.e).2.2=0 then
  if begE s (qhm m.c s d.e).1=0 then { v:=.tup [q5r (zkm s (qhm m.c s d.e).1),qck (qhm m.c s d.e).2.1,num 0],st:=⟨[],h.set x ⟨0,.box (qkb m (qhm m.c s d.e).1 (qck (qhj e d.t (onE s (qhm m.c s d.e).1 d))) (qck (qhj t d.t (onT s (qhm m.c s d.e).1 d))) l)⟩⟩ }
  else { v:=.tup [q5r [],qck [],num (begE s (qhm m.c s d.e).1)],st:=⟨[],h⟩ }
 else { v:=.tup [q5r [],qck [],num (qhm m.c s d.e).2.2],st:=⟨[],h⟩ }
theorem ev78{h:H}{x:Nat}{m:Mch}{s:Ste}{e t:List Int}{ve vt:V}{l:List Prs}(hx:h[x]?=some ⟨0,.box (qkb m s ve vt l)⟩)(hc:qcj h)(hve:Sl h e ve)(hvt:Sl h t vt)(hT:Tim m s e t)(hs:s.small)(hfew:m.c.small=true)(d:Due)
  (hn:(qhm m.c s d.e).1.small) (hl1:(qhm m.c s d.e).2.2=0->(qhm m.c s d.e).1.ends.length=s.ends.length) (hl2:(qhm m.c s d.e).2.2=0->(qhm m.c s d.e).1.timers.length=s.timers.length) :
  ev pg (.call (.fn 78 [] []) [.bptr x 0,d.v] h)=some (z5g h x m s e t l d):=by
 have hck:=qdg hc
 have hlt:=qcd hx
 have hxr:=fun r=>qcz (r:=r) hx
 have e66:=ev12 m.c s hfew hs d.e
 have e67:=ev48 s (qhm m.c s d.e).1 hs hn
 unfold z5g
 generalize hZ:qhm m.c s d.e=Z at *
 obtain⟨n,cf,er⟩:=Z
 simp only at *
 simp only[zsa]at e66
 by_cases h1:er=0
 .subst h1
  by_cases h2:begE s n=0
  .have hl1:=hl1 rfl
   have hl2:=hl2 rfl
   have le:=hT.le
   have lt:=hT.lt
   have ne:=hT.ne
   have nt:=hT.nt
   have slm:∀{a:List Int} {v:V} {h:H} (r:H),Sl h a v->Sl (h++r) a v:=fun r hv=>by
    rcases hv with _ | ⟨i,g,hi⟩
    .exact .imm
    .exact .own i g (qcz hi)
   have arrs:∀rows:List (List V),∀o∈([⟨0,.arr 1 rows⟩,⟨0,.arr 0 []⟩]:H),∃w rows,o=(⟨0,.arr w rows⟩:Ob):=fun rows o ho=>by
    simp only[List.mem_cons,List.not_mem_nil,or_false]at ho
    rcases ho with rfl | rfl
    .exact⟨1,rows,rfl⟩
    .exact⟨0,[],rfl⟩
   have hlow:∀a b c:Nat,qew 0 [.bptr a 0,.bptr b 0,.bptr c 0]=false:=fun a b c=>by simp
   -- the first list
   have hA:=zgr (n:=n) (d:=d) hx hc (k:=h.length) rfl [] (fun o ho=>by cases ho)
   rw[List.append_nil]at hA
   have e69a:=ev153 (f:=154) (caps:=[.bptr (h.length+7) 0,.bptr h.length 0,.bptr (h.length+8) 0]) (h:=h++zxs x h.length d n.cells) (l:=e) (ve:=ve) d.t (p:=onE s n d) (slm _ hve) (by omega) (hlow _ _ _) (by simp) hA.cm
    (fun rows i hi=>by
     have hB:=zgr (n:=n) (d:=d) hx hc (k:=h.length) rfl [⟨0,.arr 1 rows⟩,⟨0,.arr 0 []⟩] (arrs rows)
     rw[<-List.append_assoc]at hB
     exact ev154 hB (by omega) (by omega))
   generalize hE:qhj e d.t (onE s n d)=E at *
   -- the second list
   have hx2:(h.set x ⟨0,.box (qkb m s (qck E) vt l)⟩)[x]?=some ⟨0,.box (qkb m s (qck E) vt l)⟩:=jN hlt
   have hvt2:Sl (h.set x ⟨0,.box (qkb m s (qck E) vt l)⟩) t vt:=hvt.set hx
   have hlow2:vt.low h.length=true:=by
    rcases hvt with _ | ⟨i,g,hi⟩
    .rfl
    .simp[qcd hi]
   have hc2:qcj (h.set x ⟨0,.box (qkb m s (qck E) vt l)⟩):=q3y hc (by simp[qbm,qcm,hlow2])
   have hlen2:h.length=(h.set x ⟨0,.box (qkb m s (qck E) vt l)⟩).length:=by simp
   have hA2:=zgr (n:=n) (d:=d) hx2 hc2 (k:=h.length) hlen2 [] (fun o ho=>by cases ho)
   rw[List.append_nil]at hA2
   have e69b:=ev153 (f:=155) (caps:=[.bptr (h.length+7) 0,.bptr h.length 0,.bptr (h.length+8) 0]) (h:=h.set x ⟨0,.box (qkb m s (qck E) vt l)⟩++zxs x h.length d n.cells) (l:=t) (ve:=vt) d.t (p:=onT s n d) (slm _ hvt2) (by omega) (hlow _ _ _) (by simp) hA2.cm
    (fun rows i hi=>by
     have hB:=zgr (n:=n) (d:=d) hx2 hc2 (k:=h.length) hlen2 [⟨0,.arr 1 rows⟩,⟨0,.arr 0 []⟩] (arrs rows)
     rw[<-List.append_assoc]at hB
     exact ev155 hB (by omega) (by omega))
   generalize hT':qhj t d.t (onT s n d)=T at *
   have hck3:∀r,qan h.length (h.set x ⟨0,.box (qkb m n (qck E) (qck T) l)⟩++r)=h.set x ⟨0,.box (qkb m n (qck E) (qck T) l)⟩:=fun r=>by
    have:=qdg (h:=h.set x ⟨0,.box (qkb m n (qck E) (qck T) l)⟩) (q3y hc (by simp[qbm])) r
    rwa [jU]at this
   have setl:∀(o:Ob) (r:H),(h++r).set x o=h.set x o++r:=fun o r=>List.set_append_left _ _ hlt
   have setl2:∀(o o':Ob) (r:H),(h.set x o++r).set x o'=h.set x o'++r:=fun o o' r=>by rw[List.set_append_left _ _ (by rw[jU];exact hlt),List.set_set]
   have gx:∀(o:Ob) (r:H),(h.set x o++r)[x]?=some o:=fun o r=>qcz (jN hlt)
   have gr:∀(o:Ob) (r:H) (k:Nat),(h.set x o++r)[h.length+k]?=r[k]?:=fun o r k=>by
    have:=qbe (h:=h.set x o) (r:=r) (k:=k)
    rwa [jU]at this
   have gr0:∀(o:Ob) (r:H),(h.set x o++r)[h.length]?=r[0]?:=fun o r=>gr o r 0
   generalize zkm s n=F at *
   rw[qac,pg78]
   simp[-qan,qaa,exT,qad,ir78,hck,hxr,e66,e67,h2,qbe,qbd,qik,qil,e69a,e69b,setl,setl2,gx,gr,gr0,hck3]
  .generalize zkm s n=F at *
   generalize begE s n=q at *
   have h2b:(q==0)=false:=by simpa using h2
   rw[qac,pg78]
   simp[-qan,qaa,exT,qad,ir78,hck,hxr,e66,e67,h2,h2b,qbe,qbd,qik,qil]
 .have h1b:(er==0)=false:=by simpa using h1
  rw[qac,pg78]
  simp[-qan,qaa,exT,qad,ir78,hck,hxr,e66,h1,h1b,qbe,qbd,qik,qil]
theorem qvn(l:List Int)(now:Int)(p:Nat->Bool):(qhj l now p).length=l.length:=qxp _ _ _ _
structure Lie(c:Ct)(t:Ste):Prop where
 rdy:Rdy c t
 still:∃a,qdv c t=some (t,a)
theorem q0f{c:Ct}{s:Ste}(h:Rdy c s)(he:(qjt c s).2.2=0):Lie c (qjt c s).1/\(qjt c s).1.inputs=s.inputs:=by
 unfold qjt at he ⊢
 cases hZ:qmh c s with
 | none=>rw[hZ]at he;simp at he
 | some x =>
  obtain⟨t,m⟩:=x
  exact⟨⟨⟨h.few,qmi h.st hZ⟩,qsn hZ⟩,q0h hZ⟩
theorem Lie.rest{c:Ct}{t:Ste}(h:Lie c t):(qql c t).1=t/\(qql c t).2.2=0:=by
 obtain⟨a,ha⟩:=h.still
 unfold qql qjt
 rw[if_pos h.rdy.st,q8d ha]
 exact⟨rfl,rfl⟩
def h6(c:Ct)(s t:Ste):H:=[⟨0,.box c.cells⟩,⟨0,.box s.cells⟩,o0,o0,o0,o0,o0,⟨0,.box t.cells⟩,o0,o0,o0,o0,o0,⟨0,.box t.cells⟩,⟨0,.arr 1 ((qag t).map qia)⟩]
theorem Lie.quE{c:Ct}{t:Ste}(h:Lie c t):quE c t=0:=by
 obtain⟨a,ha⟩:=h.still
 unfold Proofs.YtddeacahiilikaaGreat.quE q0v
 rw[if_pos h.rdy.st,ha]
 simp[qvj]
theorem Lie.run{c:Ct}{t:Ste}(h:Lie c t){l:List Evn}(hl:l.length<=4096):z8s c t l=zsl c l 0 ⟨t,[],[]⟩:=by
 unfold z8s
 rw[if_pos h.quE,if_neg (by omega)]
theorem q8c{c:Ct}(hs:c.small=true)(hc:c.check=0)(he:(qcg c).2.2=0):Lie c (qcg c).1:=by
 rw[zdm c hc]at he ⊢
 unfold qql qjt at *
 rw[if_pos (qhr hc)]at *
 cases hZ:qmh c (qmp c)with
 | none=>rw[hZ]at he;simp at he
 | some x =>
  obtain⟨t,m⟩:=x
  exact⟨⟨hs,qmi (qhr hc) hZ⟩,qsn hZ⟩
structure Ent where
 t:Int
 e:Evn
 s:List (Int×Bool)
abbrev Ent.row(x:Ent):List V:=[num x.t,num x.e.kind,num x.e.idx,.bool x.e.val,q5r x.s]
abbrev z5a(l:List Ent):V:=.imm (l.map Ent.row)
structure Lg where
 en:List Ent
 cf:List Int
 st:Ste
structure Cst where
 s:Ste
 e:List Int
 t:List Int
 l:List Prs
def nxD(m:Mch)(c:Cst):Option Due:=qxb (qyk m c.s c.e c.t c.l)
def zsn(c:Cst)(d:Due):Bool:=decide ((c.s.inputs[d.e.idx.toNat]?).getD false=d.e.val)
def q7z(c:Cst)(d:Due):List Prs:=if d.e.kind=2 then c.l.tail else c.l
def goC(m:Mch)(c:Cst)(d:Due):Cst :=
 ⟨(qax m.c c.s d.e).1,qhj c.e d.t (onE c.s (qax m.c c.s d.e).1 d),qhj c.t d.t (onT c.s (qax m.c c.s d.e).1 d),q7z c d⟩
def goS(m:Mch)(u:Int):Nat->Cst->List Ent->List Int->Option (Int ⊕ Lg)
 | 0,_,_,_=>none
 | f+1,c,En,C =>
  match nxD m c with
  | none=>some (.inr ⟨En,C,c.s⟩)
  | some d =>
   if u<d.t then some (.inr ⟨En,C,c.s⟩)
   else if d.e.kind=2/\zsn c d=true then goS m u f { c with l:=c.l.tail } En C
   else if En.length=4096 then some (.inl 12)
   else if(qax m.c c.s d.e).2.2=0 then goS m u f (goC m c d) (En++[⟨d.t,d.e,qgb c.s (qax m.c c.s d.e).1⟩]) (norm (qjv m.c) (C++(qax m.c c.s d.e).2.1))
   else some (.inl (qax m.c c.s d.e).2.2)
structure Cok(m:Mch)(c:Cst):Prop where
 lie:Lie m.c c.s
 tim:Tim m c.s c.e c.t
 prs:∀p∈c.l,0<=p.t/\p.t<=1000000/\0<=p.i/\p.i<m.c.inputs.length
theorem zfp{c:Ct}(h:c.check=0):∀g∈c.signals,0<=g.delay/\g.delay<=1000000:=by
 intro g hg
 obtain⟨i,hi,rfl⟩:=List.getElem_of_mem hg
 have hz:=qxo h i c.signals[i] (jA hi)
 unfold q2y at hz
 split at hz
 .split at hz
  .omega
  .split at hz
   .split at hz
    .rename_i h1 h2 h3;exact absurd hz h3.2
    .split at hz
     .omega
     .split at hz
      .omega
      .rename_i h5
       split at hz
       .omega
       .rename_i h6
        by_cases hk:c.signals[i].kind=2
        .have:¬(c.signals[i].delay<1\/1000000<c.signals[i].delay):=fun hh=>h5 ⟨hk,hh⟩
         omega
        .have:c.signals[i].delay=0:=by
          apply Classical.byContradiction
          intro hd
          exact h6 (.inr ⟨hk,hd⟩)
         omega
   .rename_i h1 h2 h3;exact absurd hz h3
 .rename_i h1;exact absurd hz h1
theorem qvo{l:List Int}{now:Int}{p:Nat->Bool}{x:Int}(h:x∈qhj l now p):x=now\/x∈l:=by
 unfold qhj qtq at h
 rw[List.mem_map]at h
 obtain⟨i,hi,rfl⟩:=h
 have hi:=List.mem_range.1 hi
 split
 .exact .inl rfl
 .right
  rw[jA hi]
  exact jH hi
theorem Cok.due{m:Mch}{c:Cst}(h:Cok m c):∀d∈qyk m c.s c.e c.t c.l,(0<=d.t/\d.t<=11000000)/\((d.e.kind=2/\0<=d.e.idx/\d.e.idx<m.c.inputs.length)\/(d.e.kind=0/\∃i:Nat,d.e.idx=i/\i<c.s.ends.length)\/(d.e.kind=1/\∃i:Nat,d.e.idx=i/\i<c.s.timers.length)):=by
 intro d hd
 have hT:=h.tim
 rcases jQ.1 hd with hd | hd
 .cases hl:c.l with
  | nil=>rw[hl]at hd;cases hd
  | cons p r =>
   rw[hl]at hd
   simp only[qhd,List.mem_singleton]at hd
   subst hd
   obtain⟨h1,h2,h3,h4⟩:=h.prs p (by rw[hl];simp)
   exact⟨⟨h1,by simp only;omega⟩,.inl ⟨rfl,h3,h4⟩⟩
 .rcases jQ.1 hd with hd | hd
  .unfold upD at hd
   rw[List.mem_filterMap]at hd
   obtain⟨i,hi,hd⟩:=hd
   have hi:=List.mem_range.1 hi
   have hie:i<c.e.length:=by have:=hT.le;omega
   have him:i<m.ts.length:=by have:=hT.lm;omega
   have b1:=hT.be _ (jH hie)
   have b2:=hT.bm _ (jH him)
   unfold qri at hd
   simp only[jA hi,jA hie,jA him,Option.getD_some]at hd
   split at hd
   .cases hd
    exact⟨⟨by simp only;omega,by simp only;omega⟩,.inr (.inl ⟨rfl,i,rfl,hi⟩)⟩
   .split at hd
    .cases hd
     exact⟨⟨by simp only;omega,by simp only;omega⟩,.inr (.inl ⟨rfl,i,rfl,hi⟩)⟩
    .cases hd
  .unfold upD at hd
   rw[List.mem_filterMap]at hd
   obtain⟨i,hi,hd⟩:=hd
   have hi:=List.mem_range.1 hi
   have hie:i<c.t.length:=by have:=hT.lt;omega
   have him:i<m.c.signals.length:=by have:=hT.ls;omega
   have b1:=hT.bt _ (jH hie)
   have b2:=hT.bd _ (jH him)
   unfold qts at hd
   simp only[jA hi,jA hie,jA him,Option.getD_some,Option.map_some]at hd
   split at hd
   .cases hd
    exact⟨⟨by simp only;omega,by simp only;omega⟩,.inr (.inr ⟨rfl,i,rfl,hi⟩)⟩
   .cases hd
theorem q4z:∀{r:List Due} {d:Due},qxz d r∈d :: r
 | [],d=>by simp[qxz]
 | x :: r,d=>by
  unfold qxz
  rw[List.foldl_cons]
  have:=q4z (r:=r) (d:=if x.t<d.t then x else d)
  unfold qxz at this
  rcases List.mem_cons.1 this with h | h
  .rw[h]
   split<;>simp
  .exact List.mem_cons_of_mem _ (List.mem_cons_of_mem _ h)
theorem qsc{l:List Due}{d:Due}(h:qxb l=some d):d∈l:=by
 cases l with
 | nil=>cases h
 | cons x r =>
  simp only[qxb,jC]at h
  rw[<-h]
  exact q4z
theorem Cok.drop{m:Mch}{c:Cst}(h:Cok m c):Cok m { c with l:=c.l.tail }:=⟨h.lie,h.tim,fun p hp=>h.prs p (List.mem_of_mem_tail hp)⟩
theorem Cok.go{m:Mch}{c:Cst}(h:Cok m c){d:Due}(hd:nxD m c=some d)(hu:d.t<=1000000)(he:(qax m.c c.s d.e).2.2=0):Cok m (goC m c d):=by
 have hr:=h.lie.rdy
 have hdue:=h.due d (qsc hd)
 have hlie:Lie m.c (qax m.c c.s d.e).1:=by
  unfold qax at he ⊢
  split at he
  .cases he
  .rename_i hk
   rw[if_neg hk]
   split at he
   .rename_i hm
    rw[if_pos hm]
    exact(q0f ⟨hr.few,qgq hr.st hk hm⟩ he).1
   .cases he
 have s1:=hlie.rdy.shp
 have s0:=hr.shp
 have hT:=h.tim
 refine⟨hlie,⟨?_,?_,?_,?_,?_,?_,?_,?_,hT.bm,hT.bd⟩,fun p hp=>?_⟩
 .show(qhj _ _ _).length=_
  have:=hT.le;have a:=s1.e;have b:=s0.e
  rw[qvn];simp only[goC];omega
 .show(qhj _ _ _).length=_
  have:=hT.lt;have a:=s1.t;have b:=s0.t
  rw[qvn];simp only[goC];omega
 .have:=hT.lm;have a:=s1.e;have b:=s0.e
  simp only[goC];omega
 .have:=hT.ls;have a:=s1.t;have b:=s0.t
  simp only[goC];omega
 .have:=hT.ne;have a:=s1.e;have b:=s0.e
  simp only[goC];omega
 .have:=hT.nt;have a:=s1.t;have b:=s0.t
  simp only[goC];omega
 .intro x hx
  rcases qvo hx with rfl | hx
  .omega
  .exact hT.be x hx
 .intro x hx
  rcases qvo hx with rfl | hx
  .omega
  .exact hT.bt x hx
 .have:p∈c.l:=by
   simp only[goC,q7z]at hp
   split at hp
   .exact List.mem_of_mem_tail hp
   .exact hp
  exact h.prs p this
theorem Lie.ends{c:Ct}{s:Ste}(h:Lie c s):s.ends.length<=6/\s.ends.any (qes 4)=false:=by
 have a:=h.rdy.mid
 have b:=h.rdy.shp.e
 refine⟨by have:=a.hi;have:=a.act;omega,?_⟩
 have:=h.rdy.st
 unfold stE at this
 rw[if_pos h.rdy.chk]at this
 unfold zeg at this
 rw[if_pos h.rdy.shp]at this
 split at this
 .omega
 .rename_i hn
  cases e:s.ends.any (qes 4)with
  | false=>rfl
  | true=>exact absurd (.inl e) hn
theorem Lie.begE{c:Ct}{s t:Ste}(hs:Lie c s)(ht:Lie c t):begE s t=0/\zkm s t=qgb s t:=by
 obtain⟨a1,a2⟩:=hs.ends
 obtain⟨b1,b2⟩:=ht.ends
 have e1:=hs.rdy.shp.e
 have e2:=ht.rdy.shp.e
 have h:Proofs.YtddeacahiilikaaGreat.begE s t=0:=by
  rw[q9f (by omega) (by omega),List.any_append,a2,b2]
  rfl
 exact⟨h,by unfold zkm;rw[if_pos h]⟩
end Go.Proofs.YtddeacahiilikaaGreat
namespace Go.Am
theorem quq{P:Prg}{nx q:Nat}{c:C}(I:Nat->St->Prop)(N:Nat)(Q:R->Prop)
  (step:∀k st,k<N->I k st->∃r,ev P (.code c st)=some r/\((r.x=.normal/\I (k+1) (q4b nx q r.st))\/(r.x ≠ .normal/\Q r)))
  (last:∀st,¬I N st):∀(d k:Nat) (st:St),k+d=N->I k st->∃r,ev P (.code (.goingK nx q c) st)=some r/\Q r
 | 0,k,st,hk,hI=>by
  have:k=N:=by omega
  subst this
  exact absurd hI (last st)
 | d+1,k,st,hk,hI=>by
  obtain⟨r,h1,h2⟩:=step k st (by omega) hI
  rcases h2 with⟨h2,h3⟩ | ⟨h2,h3⟩
  .obtain⟨r',h4,h5⟩:=quq I N Q step last d (k+1) (q4b nx q r.st) (by omega) h3
   refine⟨r',?_,h5⟩
   rw[qza,h1]
   simp only[h2]
   exact h4
  .refine⟨r,?_,h3⟩
   rw[qza,h1]
   cases hx:r.x with
   | normal=>exact absurd hx h2
   | exit id=>simp only[hx]
   | ret=>simp only[hx]
theorem zhc{P:Prg}{nx q:Nat}{c:C}{α:Type}(N:Nat)(T:α->Tm)(Hp:α->H)(G:Nat->α->Prop)(Q:R->Prop)
  (step:∀k a f,Junk f->k<N->G k a->∃r,ev P (.code c ⟨fill f 0 (T a),Hp a⟩)=some r/\((r.x=.normal/\∃a',G (k+1) a'/\At (T a') (Hp a') (q4b nx q r.st))\/(r.x ≠ .normal/\Q r)))
  (last:∀a,¬G N a) {st:St} (a0:α) (g0:G 0 a0) (h0:At (T a0) (Hp a0) st):∃r,ev P (.code (.goingK nx q c) st)=some r/\Q r:=by
 refine quq (fun k st=>∃a,G k a/\At (T a) (Hp a) st) N Q ?_ (fun st ⟨a,g,_⟩=>last a g) N 0 st (by omega) ⟨a0,g0,h0⟩
 rintro k st hk ⟨a,g,h⟩
 obtain⟨f,hf,rfl⟩:=h.eq
 exact step k a f hf hk g
end Go.Am
namespace Go.Proofs.YtddeacahiilikaaGreat
open Go Go.Am Go.Proofs
set_option maxRecDepth 100000
theorem ev79(N:Nat)(a b:List Int)(ha:a.length<=10000)(hb:b.length<=10000)(hbd:∀x∈a++b,0<=x/\x<(N:Int)):ev pg (.call (.fn 79 [] []) [qck a,qck b] [])=some { v:=qck (norm N (a++b)),st:=⟨[],[]⟩ }:=by
 have e59:=ev113 N a b ha hb hbd
 have e:ir79=ir113:=rfl
 rw[qac,pg113]at e59
 rw[qac,pg79,e]
 exact e59
abbrev qxv(m:Mch)(s0:Ste)(X:List V)(g w:Nat)(En:List Ent)(C:List Int)(d:Due):H :=
 [⟨0,.box m.cells⟩,o0s,o0s,o0s,o0s,o0s,o0s,o0s,⟨0,.box [.sl 1 0 0 0 0,.sl 2 0 0 0 0,.sl 3 0 0 0 0,.sl 4 0 0 0 0,.sl 5 0 0 0 0,.sl 6 0 0 0 0,.sl 7 0 0 0 0]⟩,o0s,o0s,o0s,o0s,o0s,⟨0,.box s0.cells⟩,
   ⟨1,.arr 1 (List.replicate s0.ends.length [num 0])⟩,⟨1,.arr 1 (List.replicate s0.timers.length [num 0])⟩,⟨0,.box X⟩,o0s,o0s,o0s,o0s,o0s,o0s,o0s,
   ⟨0,.box [.sl 26 g w 0 En.length,qck C,.sl 27 0 0 0 0,.sl 28 0 0 0 0,.sl 29 0 0 0 0,.sl 30 0 0 0 0,.sl 31 0 0 0 0]⟩,⟨g,.arr w (En.map Ent.row)⟩,o0s,o0s,o0s,o0s,o0s,⟨0,.box d.row⟩]
structure G13 where
 c:Cst
 En:List Ent
 C:List Int
 ve:V
 vt:V
 g:Nat
 w:Nat
 b:Bool
 d0:Due
abbrev G13.X(m:Mch)(a:G13):List V:=qkb m a.c.s a.ve a.vt a.c.l
abbrev G13.d(m:Mch)(a:G13):Due:=(nxD m a.c).getD q8j
def G13.H(m:Mch)(s0:Ste)(a:G13):H:=match a.b with
 | true=>qxv m s0 (a.X m) a.g a.w a.En a.C (a.d m)
 | false=>qxv m s0 (a.X m) a.g a.w a.En a.C a.d0++[⟨0,.box (a.d m).row⟩]
def qqi(u:Int)(id:Nat)(sm:Bool):Tm:=[none,none,some (num u),none,none,none,some (.bptr 8 0),some (num 0),none,none,none,none,some (.bptr 17 0),some (.bptr 25 0),some (.fn 77 [.bptr 17 0] []),some (.bptr id 0),some (.bool sm)]++List.replicate 121 none
def qtl(e:Int):Tm:=[none,none,none,none,none,none,some (.bptr 8 0),some (num e)]++List.replicate 130 none
def G13.T(m:Mch)(u:Int)(a:G13):Tm:=qqi u (if a.b=true then 32 else 33) (nxD m a.c).isSome
def VE(i:Nat)(n:Nat)(l:List Int)(v:V):Prop:=v=qck l\/(v=.sl i 1 1 0 n/\l=List.replicate n 0)
theorem VE.sl{h:H}{i n:Nat}{l:List Int}{v:V}(hv:VE i n l v)(hi:h[i]?=some ⟨1,.arr 1 (List.replicate n [num 0])⟩):Sl h l v:=by
 rcases hv with rfl | ⟨rfl,rfl⟩
 .exact .imm
 .have:=Sl.own (h:=h) (l:=List.replicate n 0) i 1 (by rw[hi];simp)
  simpa using this
theorem VE.low{i n k:Nat}{l:List Int}{v:V}(hv:VE i n l v)(hi:i<k):v.low k=true:=by
 rcases hv with rfl | ⟨rfl,rfl⟩
 .rfl
 .simp[hi]
structure G13.Ok(m:Mch)(s0:Ste)(u:Int)(Z:Option (Int ⊕ Lg))(L k:Nat)(a:G13):Prop where
 ok:Cok m a.c
 ve:VE 15 s0.ends.length a.c.e a.ve
 vt:VE 16 s0.timers.length a.c.t a.vt
 w:a.w=5\/a.w=0
 lin:Lin (qjv m.c) a.C
 z:goS m u (4097+L-k) a.c a.En a.C=Z
 mu:k+a.c.l.length<=a.En.length+L
 en:a.En.length<=4096
structure Nil7(h:H)(q:Nat):Prop where
 b:h[8]?=some ⟨0,.box [.sl q 0 0 0 0,.sl (q+1) 0 0 0 0,.sl (q+2) 0 0 0 0,.sl (q+3) 0 0 0 0,.sl (q+4) 0 0 0 0,.sl (q+5) 0 0 0 0,.sl (q+6) 0 0 0 0]⟩
 e0:h[q]?=some o0s
 e1:h[q+1]?=some o0s
 e2:h[q+2]?=some o0s
 e3:h[q+3]?=some o0s
 e4:h[q+4]?=some o0s
 e5:h[q+5]?=some o0s
 e6:h[q+6]?=some o0s
inductive Out13 (m:Mch) (s0:Ste) (u:Int) (Z:Option (Int ⊕ Lg)) (r:R):Prop
 | ok (a:G13) (hz:Z=some (.inr ⟨a.En,a.C,a.c.s⟩)) (hw:a.w=5\/a.w=0) (he:qai (.exit 0) (a.T m u) (a.H m s0) r)
 | bad (e:Int) (hz:Z=some (.inl e)) (h:H) (q:Nat) (hh:Nil7 h q) (he:qai .ret (qtl e) h r)
theorem zix{m:Mch}{s0:Ste}{X:List V}{g w:Nat}{En:List Ent}{C:List Int}{d:Due}(hX:qew 33 X=true)(t:List Due):qcj (qxv m s0 X g w En C d++t.map fun x=>⟨0,.box x.row⟩):=by
 rw[qhs]
 intro o ho
 rw[jF]
 rcases jQ.1 ho with ho | ho
 .refine qst (show 33<=(qxv m s0 X g w En C d).length+_ from Nat.le_add_right 33 _) ?_
  simp only[qxv,List.mem_cons,List.not_mem_nil,or_false]at ho
  rcases ho with rfl | rfl | rfl | rfl | rfl | rfl | rfl | rfl | rfl | rfl | rfl | rfl | rfl | rfl | rfl | rfl | rfl | rfl | rfl | rfl | rfl | rfl | rfl | rfl | rfl | rfl | rfl | rfl | rfl | rfl | rfl | rfl | rfl<;>(try rfl)<;>simp[qbm]
  exact qij hX
 .obtain⟨x,_,rfl⟩:=List.mem_map.1 ho
  simp[qbm]
theorem q2f{m:Mch}{c:Cst}{d:Due}(hd:d∈qyk m c.s c.e c.t c.l)(hk:d.e.kind=2):∃p r,c.l=p :: r:=by
 cases hl:c.l with
 | cons p r=>exact⟨p,r,rfl⟩
 | nil =>
  exfalso
  rw[hl]at hd
  rcases jQ.1 hd with hd | hd
  .cases hd
  .rcases jQ.1 hd with hd | hd
   .unfold upD at hd
    rw[List.mem_filterMap]at hd
    obtain⟨i,hi,hd⟩:=hd
    unfold qri at hd
    split at hd
    .cases hd;cases hk
    .split at hd
     .cases hd;cases hk
     .cases hd
   .unfold upD at hd
    rw[List.mem_filterMap]at hd
    obtain⟨i,hi,hd⟩:=hd
    unfold qts at hd
    split at hd
    .cases hd;cases hk
    .cases hd
theorem z4x{m:Mch}{s0:Ste}{c:Cst}(hok:Cok m c){ve vt:V}(hve:VE 15 s0.ends.length c.e ve)(hvt:VE 16 s0.timers.length c.t vt)(g w:Nat)(En:List Ent)(C:List Int)(d:Due)(t:List Due) :
  ev pg (.call (.fn 77 [.bptr 17 0] []) [] (qxv m s0 (qkb m c.s ve vt c.l) g w En C d++t.map fun x=>⟨0,.box x.row⟩))=some { v:=.tup [((nxD m c).getD q8j).v,.bool (nxD m c).isSome],st:=⟨[],qxv m s0 (qkb m c.s ve vt c.l) g w En C d++t.map fun x=>⟨0,.box x.row⟩⟩ }:=by
 have hl1:=hve.low (k:=33) (by omega)
 have hl2:=hvt.low (k:=33) (by omega)
 refine ev77 rfl (zix (by simp[hl1,hl2]) t) (hve.sl rfl) (hvt.sl rfl) hok.tim fun d hd=>?_
 have:=(hok.due d hd).1
 exact⟨by omega,by omega⟩
theorem zyv{m:Mch}{s0:Ste}{c:Cst}(hok:Cok m c){ve vt:V}(hve:VE 15 s0.ends.length c.e ve)(hvt:VE 16 s0.timers.length c.t vt)(g w:Nat)(En:List Ent)(C:List Int)(d0:Due)(t:List Due)(l:List Prs)(d:Due) :
  ev pg (.call (.fn 78 [] []) [.bptr 17 0,d.v] (qxv m s0 (qkb m c.s ve vt l) g w En C d0++t.map fun x=>⟨0,.box x.row⟩)) =
   some (if(qax m.c c.s d.e).2.2=0 then { v:=.tup [q5r (qgb c.s (qax m.c c.s d.e).1),qck (qax m.c c.s d.e).2.1,num 0],st:=⟨[],qxv m s0 (qkb m (qax m.c c.s d.e).1 (qck (qhj c.e d.t (onE c.s (qax m.c c.s d.e).1 d))) (qck (qhj c.t d.t (onT c.s (qax m.c c.s d.e).1 d))) l) g w En C d0++t.map fun x=>⟨0,.box x.row⟩⟩ }
   else { v:=.tup [q5r [],qck [],num (qax m.c c.s d.e).2.2],st:=⟨[],qxv m s0 (qkb m c.s ve vt l) g w En C d0++t.map fun x=>⟨0,.box x.row⟩⟩ }):=by
 have hl1:=hve.low (k:=33) (by omega)
 have hl2:=hvt.low (k:=33) (by omega)
 have hr:=hok.lie.rdy
 have hnx:qhm m.c c.s d.e=qax m.c c.s d.e:=by unfold qhm;rw[if_pos hok.lie.quE]
 have hlie:(qax m.c c.s d.e).2.2=0->Lie m.c (qax m.c c.s d.e).1:=fun he=>by
  unfold qax at he ⊢
  split at he
  .cases he
  .rename_i hk
   rw[if_neg hk]
   split at he
   .rename_i hm
    rw[if_pos hm]
    exact(q0f ⟨hr.few,qgq hr.st hk hm⟩ he).1
   .cases he
 have e:=ev78 (h:=qxv m s0 (qkb m c.s ve vt l) g w En C d0++t.map fun x=>⟨0,.box x.row⟩) (x:=17) (m:=m) (s:=c.s) (e:=c.e) (t:=c.t) (ve:=ve) (vt:=vt) (l:=l) rfl (zix (by simp[hl1,hl2]) t) (hve.sl rfl) (hvt.sl rfl) hok.tim hr.small hr.few d
  (q2j hr.few c.s d.e) (fun he=>by
   rw[hnx]at he ⊢
   have a:=(hlie he).rdy.shp.e;have b:=hr.shp.e;omega) (fun he=>by
   rw[hnx]at he ⊢
   have a:=(hlie he).rdy.shp.t;have b:=hr.shp.t;omega)
 rw[e]
 unfold z5g
 rw[hnx]
 by_cases he:(qax m.c c.s d.e).2.2=0
 .rw[if_pos he,if_pos he]
  obtain⟨b1,b2⟩:=hok.lie.begE (hlie he)
  rw[if_pos b1,b2]
  rfl
 .rw[if_neg he,if_neg he]
end Go.Proofs.YtddeacahiilikaaGreat
