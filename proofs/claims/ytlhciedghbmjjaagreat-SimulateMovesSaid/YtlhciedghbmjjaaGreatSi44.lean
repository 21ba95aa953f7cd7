/- What is next in a course, by the reference. What is next in a course, by the reference: all of it. What is next in a course, by the reference: a press is left. A course begins, by the reference. Since when something goes on: the reference's two steps are the program's one. The memory of the reference's course. Courses in time, by the reference: the memory of the loop, and a round with a press. -/
import Derived.Test.YtlhciedghbmjjaaGreatSi34
import Derived.KernelRfl
import Derived.Test.YtlhciedghbmjjaaGreatSi19
import Derived.Test.YtlhciedghbmjjaaGreatSi8
import Derived.Test.YtlhciedghbmjjaaGreatQu2
import Derived.Test.YtlhciedghbmjjaaGreatAf2
set_option linter.all false
namespace Go.Proofs.YtlhciedghbmjjaaGreat
open Go Go.Am Go.Proofs
set_option maxRecDepth 100000
set_option maxHeartbeats 4000000
theorem Crf.app{h:H}{x ie it ge gt:Nat}{m:Mch}{s:Ste}{e t:List Int}{k:Nat}(c:Crf h x ie it ge gt m s e t k){r:H}(hr:qck (h++r)):Crf (h++r) x ie it ge gt m s e t k :=
 ⟨hr,qbj c.hx,qbj c.he,qbj c.ht,c.ne⟩
theorem q6x(m:Mch)(s:Ste)(e t:List Int)(l:List Prs):zkz (qpr m s e t l):=by
 have ks:∀x∈upD (qfz m s e) s.ends.length,x.e.kind=0:=by
  intro x hx
  unfold upD at hx
  rw[List.mem_filterMap]at hx
  obtain⟨i,-,hx⟩:=hx
  unfold qfz at hx
  split at hx
  .cases hx;rfl
  .split at hx
   .cases hx;rfl
   .cases hx
 have kt:∀x∈upD (qgw m s t) s.timers.length,x.e.kind=1:=by
  intro x hx
  unfold upD at hx
  rw[List.mem_filterMap]at hx
  obtain⟨i,-,hx⟩:=hx
  unfold qgw at hx
  split at hx
  .cases hx;rfl
  .cases hx
 have same:∀(k:Int) (l:List Due),(∀x∈l,x.e.kind=k)->zkz l:=by
  intro k l h
  unfold zkz
  rw[List.pairwise_iff_getElem]
  intro i j hi hj _
  rw[h _ (jH hi),h _ (jH hj)]
  exact Int.le_refl _
 unfold qpr zkz
 rw[List.pairwise_append,List.pairwise_append]
 refine⟨?_,⟨same 0 _ ks,same 1 _ kt,fun a ha b hb=>by rw[ks a ha,kt b hb];decide⟩,fun a ha b hb=>?_⟩
 .cases l with
  | nil=>exact List.Pairwise.nil
  | cons p r=>exact List.pairwise_singleton _ _
 .have:a.e.kind=2:=by
   cases l with
   | nil=>cases ha
   | cons p r=>rw[List.mem_singleton.1 ha]
  rw[this]
  unfold rkE
  simp only[if_true]
  split
  .exact Int.le_refl _
  .split<;>omega
def nxV(o:Option Due):V:=.tup [.agg (o.elim [num 0,num 0,num 0,num 0,.bool false] Due.row5),.bool o.isSome]
theorem ev76a{h:H}{x ie it ge gt:Nat}{m:Mch}{s:Ste}{e t:List Int}{k:Nat}(c:Crf h x ie it ge gt m s e t k)(hT:Tim m s e t)(l:List Prs)(hl:l.length<=100000)(hk:k=l.length) :
  ev pg (.call (.fn 76 [] []) [.bptr x 0,prs l] h)=some { v:=nxV (qky (qpr m s e t [])),st:=⟨[],h⟩ }:=by
 have hc:=c.cm
 have hck:=qdd hc
 have hxr:=fun r=>qbj (r:=r) c.hx
 have hlt:=qar c.hx
 have hne:=Nat.ne_of_lt hlt
 have hkl:¬((k:Int)<l.length):=by omega
 have c1:=c.app (r:=[⟨0,.box [num 0,num 0,num 0,num 0,.bool false]⟩]) (qcl hc (by simp[qbg]))
 have n2:=qgx (qfz m s e) s.ends.length
 have n3:=qgx (qgw m s t) s.timers.length
 have n4:=hT.ne
 have n5:=hT.nt
 have hl1:=fun st=>zmc c1 (B:=[]) (z:=h.length) (.inl rfl) (by simp) hT [] (by simp) (g0:=0) (w0:=0) (.inr ⟨rfl,rfl⟩) (st:=st)
 have hrk:=q6x m s e t []
 have hA:qpr m s e t []=upD (qfz m s e) s.ends.length++upD (qgw m s t) s.timers.length:=rfl
 rw[hA]at hrk ⊢
 simp only[List.nil_append,List.length_nil,Nat.zero_add,jF,List.length_singleton,List.append_assoc,List.singleton_append]at hl1
 have hl2:=fun(g:Nat) {w} hw st=>zgv c1 (B:=[]) (z:=h.length) (.inl rfl) (by simp) hT (upD (qfz m s e) s.ends.length) (by omega) (g0:=g) (w0:=w) hw (st:=st)
 simp only[List.length_nil,Nat.zero_add,jF,List.length_singleton,List.append_assoc,List.singleton_append]at hl2
 generalize hP:upD (qfz m s e) s.ends.length=P at *
 generalize hQ:P++upD (qgw m s t) s.timers.length=D at *
 rw[qac,pg76]
 simp[-qaq,ir76,hck,hxr,hkl,qap,qal,qaf]
 generalize hr:ev pg (.code (.going _ L76_0) _)=o
 obtain⟨r,rfl,g,w,hw,f,hf,rfl⟩:∃r,o=some r/\_:=by rw[<-hr];exact hl1 _ (by simp[qjr])
 clear hr
 simp[-qaq,qjr,qaf,hf.ne]
 generalize hr:ev pg (.code (.going _ L76_1) _)=o
 obtain⟨r,rfl,g2,w2,hw2,f2,hf2,rfl⟩:∃r,o=some r/\_:=by rw[<-hr];exact hl2 g hw _ (by simp[qku,hf.ne])
 clear hr
 cases D with
 | nil=>simp[-qaq,qku,hck,nxV,qky,qap,qal,qdk,qcv]
 | cons d D =>
  have w5:w2=5:=by rcases hw2 with h | ⟨-,h⟩;exact h;cases h
  subst w5
  have hlD:D.length<=100000:=by
   have:=congrArg List.length hQ
   simp only[jF,List.length_cons]at this
   omega
  have hl3:=fun st=>zfv (B:=[]) c1.cm (.inl rfl) (x:=x) (z:=h.length) (by simp) (d:=d) (r:=D) (g:=g2) hrk hlD (st:=st)
  simp only[List.length_nil,Nat.zero_add,jF,List.length_singleton,List.append_assoc,List.singleton_append,List.nil_append,List.map_cons,Nat.add_assoc,Nat.reduceAdd]at hl3
  have h1:¬((D.length:Int)+1=0):=by omega
  have w1:IntKind.i64.wrap 1=1:=by decide
  have w0:IntKind.i64.wrap 0=0:=by decide
  simp[-qaq,w0,w1,qku,h1,hck,nxV,qky,qap,qal,qdk,qcv,qaf,hf2.ne]
  generalize hr:ev pg (.code (.going _ L76_2) _)=o
  obtain⟨r,rfl,f3,hf3,rfl⟩:∃r,o=some r/\_:=by rw[<-hr];exact hl3 _ (by simp[qtx,hf2.ne])
  clear hr
  simp[-qaq,qtx,hck,qap,qal,qdk,qcv]
theorem ev76b{h:H}{x ie it ge gt:Nat}{m:Mch}{s:Ste}{e t:List Int}{k:Nat}(c:Crf h x ie it ge gt m s e t k)(hT:Tim m s e t)(l:List Prs)(hl:l.length<=100000)(hk:k<l.length){pr:Prs}(hpr:l[k]=pr)(q:List Prs) :
  ev pg (.call (.fn 76 [] []) [.bptr x 0,prs l] h)=some { v:=nxV (qky (qpr m s e t (pr :: q))),st:=⟨[],h⟩ }:=by
 have hc:=c.cm
 have hck:=qdd hc
 have hxr:=fun r=>qbj (r:=r) c.hx
 have hlt:=qar c.hx
 have hne:=Nat.ne_of_lt hlt
 have hkl:(k:Int)<l.length:=by omega
 have c1:=c.app (r:=[⟨0,.box [num 0,num 0,num 0,num 0,.bool false]⟩,⟨0,.box pr.row⟩]) (qcl hc (by simp[qbg]))
 have n2:=qgx (qfz m s e) s.ends.length
 have n3:=qgx (qgw m s t) s.timers.length
 have n4:=hT.ne
 have n5:=hT.nt
 have hl1:=fun st=>zmc c1 (B:=[⟨0,.arr 0 []⟩]) (z:=h.length) (.inr rfl) (by simp) hT [⟨pr.t,⟨2,pr.i,pr.b⟩⟩] (by simp) (g0:=0) (w0:=5) (.inl rfl) (st:=st)
 have hrk:=q6x m s e t (pr :: q)
 have hA:qpr m s e t (pr :: q)=([⟨pr.t,⟨2,pr.i,pr.b⟩⟩]++upD (qfz m s e) s.ends.length)++upD (qgw m s t) s.timers.length:=by simp[qpr,qga]
 rw[hA]at hrk ⊢
 have hl2:=fun(g:Nat) {w} hw st=>zgv c1 (B:=[⟨0,.arr 0 []⟩]) (z:=h.length) (.inr rfl) (by simp) hT ([⟨pr.t,⟨2,pr.i,pr.b⟩⟩]++upD (qfz m s e) s.ends.length) (by rw[jF,List.length_singleton];omega) (g0:=g) (w0:=w) hw (st:=st)
 generalize hP:[⟨pr.t,⟨2,pr.i,pr.b⟩⟩]++upD (qfz m s e) s.ends.length=P at *
 have hPl:P.length<=5000:=by rw[<-hP,jF,List.length_singleton];omega
 generalize hQ:P++upD (qgw m s t) s.timers.length=D at *
 simp only[List.length_nil,List.length_cons,Nat.zero_add,jF,List.append_assoc,List.cons_append,List.nil_append,Nat.add_assoc,Nat.reduceAdd,List.map_cons,List.map_nil]at hl1 hl2
 rw[qac,pg76]
 simp[-qaq,ir76,hck,hxr,hk,hkl,hpr,qap,qal,qaf]
 generalize hr:ev pg (.code (.going _ L76_0) _)=o
 obtain⟨r,rfl,g,w,hw,f,hf,rfl⟩:∃r,o=some r/\_:=by rw[<-hr];exact hl1 _ (by simp[qjr])
 clear hr
 simp[-qaq,qjr,qaf,hf.ne]
 generalize hr:ev pg (.code (.going _ L76_1) _)=o
 obtain⟨r,rfl,g2,w2,hw2,f2,hf2,rfl⟩:∃r,o=some r/\_:=by rw[<-hr];exact hl2 g hw _ (by simp[qku,hf.ne])
 clear hr
 cases D with
 | nil=>simp[-qaq,qku,hck,nxV,qky,qap,qal,qdk,qcv]
 | cons d D =>
  have w5:w2=5:=by rcases hw2 with h | ⟨-,h⟩;exact h;cases h
  subst w5
  have hlD:D.length<=100000:=by
   have:=congrArg List.length hQ
   simp only[jF,List.length_cons]at this
   omega
  have hl3:=fun st=>zfv (B:=[⟨0,.arr 0 []⟩]) c1.cm (.inr rfl) (x:=x) (z:=h.length) (by simp) (d:=d) (r:=D) (g:=g2) hrk hlD (st:=st)
  simp only[List.length_nil,List.length_cons,Nat.zero_add,jF,List.append_assoc,List.cons_append,List.nil_append,List.map_cons,Nat.add_assoc,Nat.reduceAdd]at hl3
  have h1:¬((D.length:Int)+1=0):=by omega
  have w1:IntKind.i64.wrap 1=1:=by decide
  have w0:IntKind.i64.wrap 0=0:=by decide
  simp[-qaq,w0,w1,qku,h1,hck,nxV,qky,qap,qal,qdk,qcv,qaf,hf2.ne]
  generalize hr:ev pg (.code (.going _ L76_2) _)=o
  obtain⟨r,rfl,f3,hf3,rfl⟩:∃r,o=some r/\_:=by rw[<-hr];exact hl3 _ (by simp[qtx,hf2.ne])
  clear hr
  simp[-qaq,qtx,hck,qap,qal,qdk,qcv]
abbrev h43(m:Mch):H:=[⟨0,.box m.cells⟩,o0s,o0s,o0s,o0s,o0s,o0s,o0s,⟨0,.box [.sl 1 0 0 0 0,.sl 2 0 0 0 0,.sl 3 0 0 0 0,.sl 4 0 0 0 0,.sl 5 0 0 0 0,.sl 6 0 0 0 0,.sl 7 0 0 0 0]⟩]
abbrev zrs(n:Nat):Ob:=⟨1,.arr 1 (List.replicate n [num 0])⟩
abbrev h75(m:Mch)(f s:Ste):H:=h43 m++[⟨0,.box m.cells⟩,o0s,o0s,o0s,o0s,o0s,⟨0,.box f.cells⟩,o0s,o0s,o0s,o0s,o0s,⟨0,.box s.cells⟩,zrs f.ends.length,zrs f.timers.length,⟨0,.box (zlh m s (.sl 22 1 1 0 f.ends.length) (.sl 23 1 1 0 f.timers.length) 0)⟩]
theorem ev75{m:Mch}(hs:m.c.small=true)(hc:m.c.check=0)(hb:(qdq m.c).ends.length<=4096/\(qdq m.c).timers.length<=4096) :
  ev pg (.call (.fn 75 [] []) [m.v] (h43 m))=some { v:=.tup [.bptr 24 0,qbx (((qfr m.c (qdq m.c)).map Prod.snd).getD []),.bool (qfr m.c (qdq m.c)).isSome],st:=⟨[],h75 m (qdq m.c) (((qfr m.c (qdq m.c)).map Prod.fst).getD zeroS)⟩ }:=by
 have e101:=ev101 hs hc
 have e102:=ev102 (Rdy.mk hs (qfq hc))
 generalize qdq m.c=f at *
 obtain⟨b1,b2⟩:=hb
 have a3:f.ends.length*8<=140737488355328:=by omega
 have a4:f.timers.length*8<=140737488355328:=by omega
 have a1:f.ends.length<=4611686018427387904:=by omega
 have a2:f.timers.length<=4611686018427387904:=by omega
 rw[qac,pg75]
 cases hr:qfr m.c f with
 | none =>
  rw[hr]at e102
  simp only[qvt]at e102
  simp[qaa,exT,qae,ir75,e101,e102,a1,a2,a3,a4]
  try rfl
 | some x =>
  obtain⟨s,l⟩:=x
  rw[hr]at e102
  simp only[qvt]at e102
  simp[qaa,exT,qae,ir75,e101,e102,a1,a2,a3,a4]
  try rfl
theorem qrh{l:List Int}{now:Int}{p q:Nat->Bool}(h:∀i,i<l.length->p i=q i):qbc l now p=qbc l now q:=by
 unfold qbc qkz
 refine List.map_congr_left fun i hi=>?_
 rw[h i (List.mem_range.1 hi)]
theorem qxr(l:List Int)(now:Int)(p q:Nat->Bool):qbc (qbc l now p) now q=qbc l now fun i=>p i&&q i:=by
 refine List.ext_getElem (by simp only[qbo]) fun i h1 h2=>?_
 have hi:i<l.length:=by simpa only[qbo]using h2
 have a:((qbc (qbc l now p) now q)[i]?).getD 0=_:=qqm (by rw[qbo];exact hi)
 have b:((qbc l now fun i=>p i&&q i)[i]?).getD 0=_:=qqm hi
 rw[qqm hi]at a
 rw[jA h1,Option.getD_some]at a
 rw[jA h2,Option.getD_some]at b
 rw[a,b]
 cases p i<;>cases q i<;>simp
theorem qxf{c:Cst}{d:Due}{t:Ste}(hm:qmt c.s d.e=true)(hle:c.e.length=c.s.ends.length):qbc (qbc c.e d.t (qhl (qcc c.s d.e).ends c.s.ends)) d.t (qhl t.ends (qcc c.s d.e).ends)=qbc c.e d.t (onE c.s t d):=by
 rw[qxr]
 refine qrh fun i hi=>?_
 unfold onE zgf qhl
 by_cases hk:d.e.kind=0
 .have h0:0<=d.e.idx:=by
   unfold qmt at hm
   split at hm
   .cases hm
   .omega
  have hu:(qcc c.s d.e).ends=c.s.ends.set d.e.idx.toNat (if c.s.ends[d.e.idx.toNat]?=some 1 then 2 else 0):=by unfold qcc;rw[if_pos hk]
  rw[hu]
  by_cases hx:d.e.idx=i
  .have hxn:d.e.idx.toNat=i:=by omega
   have hie:i<c.s.ends.length:=by omega
   have hp:c.s.ends[i]=1\/c.s.ends[i]=3:=by
    unfold qmt at hm
    rw[if_neg (by omega),if_neg (by omega)]at hm
    unfold qdb at hm
    rw[if_pos hk,hxn,jA hie]at hm
    simpa using hm
   rw[hxn,jN hie,jA hie]
   rcases hp with hp | hp<;>simp[hp,hk,hx]
  .rw[jO (by omega)]
   simp[hk,hx]
 .have hu:(qcc c.s d.e).ends=c.s.ends:=by
   unfold qcc
   rw[if_neg hk]
   split<;>rfl
  rw[hu]
  simp[hk]
theorem qqz{c:Cst}{d:Due}{t:Ste}(hm:qmt c.s d.e=true)(hle:c.t.length=c.s.timers.length):qbc (qbc c.t d.t (qhl (qcc c.s d.e).timers c.s.timers)) d.t (qhl t.timers (qcc c.s d.e).timers)=qbc c.t d.t (onT c.s t d):=by
 rw[qxr]
 refine qrh fun i hi=>?_
 unfold onT zgf qhl
 by_cases hk:d.e.kind=1
 .have h0:0<=d.e.idx:=by
   unfold qmt at hm
   split at hm
   .cases hm
   .omega
  have hu:(qcc c.s d.e).timers=c.s.timers.set d.e.idx.toNat 2:=by unfold qcc;rw[if_neg (by omega),if_pos hk]
  rw[hu]
  by_cases hx:d.e.idx=i
  .have hxn:d.e.idx.toNat=i:=by omega
   have hie:i<c.s.timers.length:=by omega
   have hp:c.s.timers[i]=1:=by
    unfold qmt at hm
    rw[if_neg (by omega),if_neg (by omega)]at hm
    unfold qdb at hm
    rw[if_neg (by omega),hxn,jA hie]at hm
    simpa using hm
   rw[hxn,jN hie,jA hie]
   simp[hp,hk,hx]
  .rw[jO (by omega)]
   simp[hk,hx]
 .have hu:(qcc c.s d.e).timers=c.s.timers:=by
   unfold qcc
   split
   .rfl
   .rfl
  rw[hu]
  simp[hk]
abbrev qvg(m:Mch)(f s0 s:Ste)(e t:List Int)(k:Nat)(g w:Nat)(En:List Ent)(C:List Int):H :=
 [⟨0,.box m.cells⟩,o0s,o0s,o0s,o0s,o0s,o0s,o0s,⟨0,.box [.sl 1 0 0 0 0,.sl 2 0 0 0 0,.sl 3 0 0 0 0,.sl 4 0 0 0 0,.sl 5 0 0 0 0,.sl 6 0 0 0 0,.sl 7 0 0 0 0]⟩,⟨0,.box m.cells⟩,o0s,o0s,o0s,o0s,o0s,⟨0,.box f.cells⟩,o0s,o0s,o0s,o0s,o0s,⟨0,.box s0.cells⟩,
   ⟨1,.arr 1 (e.map qdc)⟩,⟨1,.arr 1 (t.map qdc)⟩,⟨0,.box (zlh m s (.sl 22 1 1 0 e.length) (.sl 23 1 1 0 t.length) k)⟩,o0s,o0s,o0s,o0s,o0s,o0s,o0s,
   ⟨0,.box [.sl 33 g w 0 En.length,qbx C,.sl 34 0 0 0 0,.sl 35 0 0 0 0,.sl 36 0 0 0 0,.sl 37 0 0 0 0,.sl 38 0 0 0 0]⟩,⟨g,.arr w (En.map Ent.row)⟩,o0s,o0s,o0s,o0s,o0s]
theorem zhj(m:Mch)(f s0 s:Ste)(e t:List Int)(k g w:Nat)(En:List Ent)(C:List Int):qck (qvg m f s0 s e t k g w En C):=by
 rw[qgk]
 intro o ho
 show qbg 39 o=o
 simp only[qvg,List.mem_cons,List.not_mem_nil,or_false]at ho
 rcases ho with rfl | rfl | rfl | rfl | rfl | rfl | rfl | rfl | rfl | rfl | rfl | rfl | rfl | rfl | rfl | rfl | rfl | rfl | rfl | rfl | rfl | rfl | rfl | rfl | rfl | rfl | rfl | rfl | rfl | rfl | rfl | rfl | rfl | rfl | rfl | rfl | rfl | rfl | rfl<;>(try rfl)<;>simp[qbg]
theorem zls(m:Mch)(f s0 s:Ste)(e t:List Int)(k g w:Nat)(En:List Ent)(C:List Int):Crf (qvg m f s0 s e t k g w En C) 24 22 23 1 1 m s e t k :=
 ⟨zhj m f s0 s e t k g w En C,rfl,rfl,rfl,by decide⟩
theorem ev76{h:H}{x ie it ge gt:Nat}{m:Mch}{s:Ste}{e t:List Int}{k:Nat}(c:Crf h x ie it ge gt m s e t k)(hT:Tim m s e t)(l:List Prs)(hl:l.length<=100000)(hk:k<=l.length) :
  ev pg (.call (.fn 76 [] []) [.bptr x 0,prs l] h)=some { v:=nxV (qky (qpr m s e t (l.drop k))),st:=⟨[],h⟩ }:=by
 by_cases h1:k<l.length
 .rw[jL h1]
  exact ev76b c hT l hl h1 rfl _
 .rw[jX (by omega)]
  exact ev76a c hT l hl (by omega)
theorem z1w(m:Mch)(f s0 s:Ste)(e t:List Int)(k g w:Nat)(En:List Ent)(C:List Int){r:H}(hr:qck (qvg m f s0 s e t k g w En C++r)){u:Ste}(now:Int)(h1:u.ends.length=s.ends.length)(h2:e.length=s.ends.length)(h3:u.timers.length=s.timers.length)(h4:t.length=s.timers.length)(hl:s.ends.length<=4096)(hl2:s.timers.length<=4096) :
  ev pg (.call (.fn 79 [] []) [.bptr 24 0,u.v,num now] (qvg m f s0 s e t k g w En C++r))=some { v:=.tup [],st:=⟨[],qvg m f s0 u (qbc e now (qhl u.ends s.ends)) (qbc t now (qhl u.timers s.timers)) k g w En C++r⟩ }:=by
 rw[ev79 ((zls m f s0 s e t k g w En C).app hr) now h1 h2 h3 h4 hl hl2]
 simp[z5r,qbo]
abbrev t43(d:Due)(n:Ste):H:=[⟨0,.box d.row5⟩,o0s,o0s,o0s,o0s,o0s,⟨0,.box n.cells⟩]
theorem qzn(m:Mch)(f s0 s:Ste)(e t:List Int)(k g w:Nat)(En:List Ent)(C:List Int)(d:Due)(n:Ste):qck (qvg m f s0 s e t k g w En C++t43 d n):=qcl (zhj m f s0 s e t k g w En C) (by simp[qbg])
structure G43 where
 c:Cst
 En:List Ent
 C:List Int
 k:Nat
 g:Nat
 w:Nat
structure G43.Ok(m:Mch)(u:Int)(l:List Prs)(Z:Option (Int ⊕ Lg))(L j:Nat)(a:G43):Prop where
 ok:Cok m a.c
 cl:a.c.l=l.drop a.k
 kl:a.k<=l.length
 w:a.w=5\/a.w=0
 lin:Lin (qfs m.c) a.C
 z:goS m u (4097+L-j) a.c a.En a.C=Z
 mu:j+a.c.l.length<=a.En.length+L
 en:a.En.length<=4096
def G43.H(m:Mch)(f s0:Ste)(a:G43):H:=qvg m f s0 a.c.s a.c.e a.c.t a.k a.g a.w a.En a.C
def qnc(l:List Prs)(u:Int):Tm:=[none,some (prs l),some (num u),some (.bptr 0 0),none,none,some (.bptr 8 0),some (num 0),some (.bptr 24 0),none,none,some (.bptr 32 0)]++List.replicate 119 none
def q5n(e:Int):Tm:=[none,none,none,none,none,none,some (.bptr 8 0),some (num e)]++List.replicate 123 none
inductive Out43 (m:Mch) (f s0:Ste) (u:Int) (l:List Prs) (Z:Option (Int ⊕ Lg)) (r:R):Prop
 | ok (a:G43) (hz:Z=some (.inr ⟨a.En,a.C,a.c.s⟩)) (hw:a.w=5\/a.w=0) (cs:List V) (he:qag (.exit 0) (qnc l u) (a.H m f s0++[⟨0,.box cs⟩]) r)
 | bad (e:Int) (hz:Z=some (.inl e)) (h:H) (q:Nat) (hh:Nil7 h q) (he:qag .ret (q5n e) h r)
theorem Out43.of{m:Mch}{f s0:Ste}{u:Int}{l:List Prs}{Z:Option (Int ⊕ Lg)}{e:Int}{st:St}(hz:Z=some (.inl e))(q:Nat)(hh:Nil7 st.h q)(hfit:Am.fits (q5n e) st.s):Out43 m f s0 u l Z { x:=.ret,st:=st }:=by
 obtain⟨f,hf,hs⟩:=qlg 0 hfit
 refine .bad e hz st.h q hh ⟨f,hf,?_⟩
 rw[<-hs]
theorem qoe(s:Ste)(x:Evn):(qcc s x).ends.length=s.ends.length/\(qcc s x).timers.length=s.timers.length:=by
 unfold qcc
 split
 .simp
 .split<;>simp
theorem zle{m:Mch}{f s0:Ste}{u:Int}(hu:u<=1000000){l:List Prs}(hll:l.length<=4096){Z:Option (Int ⊕ Lg)}{L j:Nat}(hL:L<=4096){q:Nat->V}(hq:Junk q){c:Cst}{En:List Ent}{C:List Int}{k g w:Nat}(hok:Cok m c)(hcl:c.l=l.drop k)(hkl:k<=l.length)(hw:w=5\/w=0)(hlin:Lin (qfs m.c) C){n:Nat}(hn2:4097+L-(j+1)=n)(hmu:j+c.l.length<=En.length+L)(hen:En.length<=4096){dt:Int}{i:Nat}{v:Bool}(hnx:nxD m c=some ⟨dt,⟨2,i,v⟩⟩)(hut:¬u<dt)(him:i<m.c.inputs.length)
  (hz:(if zat c ⟨dt,⟨2,i,v⟩⟩=true then goS m u n { c with l:=c.l.tail } En C
   else if En.length=4096 then some (.inl 12)
   else if(qah m.c c.s ⟨2,i,v⟩).2.2=0 then goS m u n (goC m c ⟨dt,⟨2,i,v⟩⟩) (En++[⟨dt,⟨2,i,v⟩,qdo c.s (qah m.c c.s ⟨2,i,v⟩).1⟩]) (norm (qfs m.c) (C++(qah m.c c.s ⟨2,i,v⟩).2.1))
   else some (.inl (qah m.c c.s ⟨2,i,v⟩).2.2))=Z) :
  ∃r,ev pg (.code L43_0 ⟨fill q 0 (qnc l u),qvg m f s0 c.s c.e c.t k g w En C⟩)=some r/\((r.x=.normal/\∃a':G43,a'.Ok m u l Z L (j+1)/\At (qnc l u) (a'.H m f s0) (qkh 39 r.st))\/(r.x ≠ .normal/\Out43 m f s0 u l Z r)):=by
 have e76:=ev76 (zls m f s0 c.s c.e c.t k g w En C) hok.tim l (by omega) hkl
 rw[<-hcl]at e76
 have hnxd:qky (qpr m c.s c.e c.t c.l)=nxD m c:=rfl
 rw[hnxd,hnx]at e76
 simp only[nxV,Option.elim_some,Option.isSome_some]at e76
 have hub:dt<=1000000:=by omega
 obtain⟨p,r,hlp⟩:=qtf (qhv hnx) rfl
 have hi:i<c.s.inputs.length:=by have:=hok.lie.rdy.shp.i;omega
 have hkl2:k<l.length:=by
  rw[hcl]at hlp
  apply Classical.byContradiction
  intro hh
  rw[jX (by omega)]at hlp
  cases hlp
 have hdr:l.drop (k+1)=r:=by
  rw[hcl,jL hkl2]at hlp
  exact(List.cons.inj hlp).2
 have wk:=qab (n:=(k:Int)+1) (by omega) (by omega)
 have hmu2:j+(r.length+1)<=En.length+L:=by rw[hlp]at hmu;simpa using hmu
 have hsm:zat c ⟨dt,⟨2,i,v⟩⟩=decide (c.s.inputs[i]=v):=by simp[zat,hi]
 rw[hsm]at hz
 by_cases hns:c.s.inputs[i]=v
 .rw[if_pos (by simpa using hns)]at hz
  refine(?_:∃st,ev pg (.code L43_0 ⟨fill q 0 (qnc l u),qvg m f s0 c.s c.e c.t k g w En C⟩)=some { st:=st }/\At (qnc l u) (qvg m f s0 c.s c.e c.t (k+1) g w En C) (qkh 39 st)).elim fun st h=>⟨_,h.1,.inl ⟨rfl,G43.mk { c with l:=c.l.tail } En C (k+1) g w,⟨hok.drop,by simp only;rw[hlp];exact hdr.symm,by simp only;omega,hw,hlin,by simp only;rw[hn2];exact hz,by simp only[hlp,List.tail_cons];omega,hen⟩,h.2⟩⟩
  have hnsb:(c.s.inputs[i]==v)=true:=by simpa using hns
  clear hz
  simp[qnc,L43_0,e76,hut,wk,hi,hns,hnsb,hq.ne]
 .rw[if_neg (by simpa using hns)]at hz
  have hnsb:(c.s.inputs[i]==v)=false:=by simpa using hns
  by_cases h4:En.length=4096
  .rw[if_pos h4]at hz
   have h4':(En.length:Int)=4096:=by omega
   refine(?_:∃r,ev pg (.code L43_0 ⟨fill q 0 (qnc l u),qvg m f s0 c.s c.e c.t k g w En C⟩)=some r/\r.x ≠ .normal/\Out43 m f s0 u l Z r).imp fun r h=>⟨h.1,.inr ⟨h.2.1,h.2.2⟩⟩
   simp[qnc,L43_0,e76,hut,wk,hi,hns,hnsb,h4',hq.ne]
   exact .of hz.symm 40 ⟨rfl,rfl,rfl,rfl,rfl,rfl,rfl,rfl⟩ (by simp[q5n,hq.ne])
  .rw[if_neg h4]at hz
   have h4':¬(En.length:Int)=4096:=by omega
   have e77:=ev77 hok.lie.rdy (⟨2,i,v⟩:Evn)
   by_cases he:(qah m.c c.s ⟨2,i,v⟩).2.2=0
   .rw[if_pos he]at hz
    have hgo:=hok.go hnx hub he
    have hcf:=qlz m.c c.s ⟨2,i,v⟩
    have hN:qfs m.c<=200:=qhy hok.lie.rdy.mid
    have e34:=ev34 C (qah m.c c.s ⟨2,i,v⟩).2.1 (by have:=hlin.len;omega) (by have:=hcf.len;omega)
    rw[hlin.mrg hcf]at e34
    unfold zam at e77
    rw[he]at e77
    have hT:=hok.tim
    have hTg:=hgo.tim
    have hle:(qah m.c c.s ⟨2,i,v⟩).1.ends.length=c.s.ends.length:=by have a:=hTg.le;simp only[goC]at a;rw[qbo]at a;have:=hT.le;omega
    have hlt:(qah m.c c.s ⟨2,i,v⟩).1.timers.length=c.s.timers.length:=by have a:=hTg.lt;simp only[goC]at a;rw[qbo]at a;have:=hT.lt;omega
    have hsm:=hok.lie.rdy.small
    have e78:=ev78 c.s (qah m.c c.s ⟨2,i,v⟩).1 hsm hle
    have hmay:qmt c.s ⟨2,i,v⟩=true/\¬((2:Int)<0\/2<(2:Int)):=by
     refine⟨?_,by decide⟩
     unfold qah at he
     split at he
     .cases he
     .split at he
      .rename_i h2;exact h2
      .cases he
    have e80:=ev80 hok.lie.rdy.shp hsm ⟨2,i,v⟩ hmay.2 hmay.1
    have hue:=(qoe c.s ⟨2,i,v⟩).1
    have hut3:=(qoe c.s ⟨2,i,v⟩).2
    have se:=qxf (d:=⟨dt,⟨2,i,v⟩⟩) (t:=(qah m.c c.s ⟨2,i,v⟩).1) hmay.1 hT.le
    have st':=qqz (d:=⟨dt,⟨2,i,v⟩⟩) (t:=(qah m.c c.s ⟨2,i,v⟩).1) hmay.1 hT.lt
    have e79a:=z1w m f s0 c.s c.e c.t (k+1) (g+1) 5 (En++[⟨dt,⟨2,i,v⟩,qdo c.s (qah m.c c.s ⟨2,i,v⟩).1⟩]) (norm (qfs m.c) (C++(qah m.c c.s ⟨2,i,v⟩).2.1)) (r:=t43 ⟨dt,⟨2,i,v⟩⟩ (qah m.c c.s ⟨2,i,v⟩).1) (qzn ..) (u:=qcc c.s ⟨2,i,v⟩) dt hue hT.le hut3 hT.lt hT.ne hT.nt
    have e79b:=z1w m f s0 (qcc c.s ⟨2,i,v⟩) (qbc c.e dt (qhl (qcc c.s ⟨2,i,v⟩).ends c.s.ends)) (qbc c.t dt (qhl (qcc c.s ⟨2,i,v⟩).timers c.s.timers)) (k+1) (g+1) 5 (En++[⟨dt,⟨2,i,v⟩,qdo c.s (qah m.c c.s ⟨2,i,v⟩).1⟩]) (norm (qfs m.c) (C++(qah m.c c.s ⟨2,i,v⟩).2.1)) (r:=t43 ⟨dt,⟨2,i,v⟩⟩ (qah m.c c.s ⟨2,i,v⟩).1) (qzn ..) (u:=(qah m.c c.s ⟨2,i,v⟩).1) dt (by omega) (by rw[qbo,hue];exact hT.le) (by omega) (by rw[qbo,hut3];exact hT.lt) (by have:=hT.ne;omega) (by have:=hT.nt;omega)
    simp only at se st'
    rw[se,st']at e79b
    have hcl2:(goC m c ⟨dt,⟨2,i,v⟩⟩).l=r:=by simp[goC,q3p,hlp]
    have hap:(En.length+1)*56<=140737488355328:=by omega
    have hr2:rkE 2=0:=rfl
    have hlin2:=Lin.norm (qfs m.c) (C++(qah m.c c.s ⟨2,i,v⟩).2.1)
    refine(?_:∃st,ev pg (.code L43_0 ⟨fill q 0 (qnc l u),qvg m f s0 c.s c.e c.t k g w En C⟩)=some { st:=st }/\At (qnc l u) (qvg m f s0 (goC m c ⟨dt,⟨2,i,v⟩⟩).s (goC m c ⟨dt,⟨2,i,v⟩⟩).e (goC m c ⟨dt,⟨2,i,v⟩⟩).t (k+1) (g+1) 5 (En++[⟨dt,⟨2,i,v⟩,qdo c.s (qah m.c c.s ⟨2,i,v⟩).1⟩]) (norm (qfs m.c) (C++(qah m.c c.s ⟨2,i,v⟩).2.1))) (qkh 39 st)).elim fun st h=>⟨_,h.1,.inl ⟨rfl,G43.mk (goC m c ⟨dt,⟨2,i,v⟩⟩) (En++[(⟨dt,⟨2,i,v⟩,qdo c.s (qah m.c c.s ⟨2,i,v⟩).1⟩:Ent)]) ( norm (qfs m.c) (C++(qah m.c c.s ⟨2,i,v⟩).2.1)) (k+1) (g+1) 5,⟨hgo,by simp only;rw[hcl2];exact hdr.symm,by simp only;omega,.inl rfl,hlin2,by simp only;rw[hn2];exact hz,by simp only[hcl2,jF,List.length_singleton];omega,by simp only[jF,List.length_singleton];omega⟩,h.2⟩⟩
    have hgs:(goC m c ⟨dt,⟨2,i,v⟩⟩).s=(qah m.c c.s ⟨2,i,v⟩).1:=rfl
    have hge:(goC m c ⟨dt,⟨2,i,v⟩⟩).e=qbc c.e dt (onE c.s (qah m.c c.s ⟨2,i,v⟩).1 ⟨dt,⟨2,i,v⟩⟩):=rfl
    have hgt:(goC m c ⟨dt,⟨2,i,v⟩⟩).t=qbc c.t dt (onT c.s (qah m.c c.s ⟨2,i,v⟩).1 ⟨dt,⟨2,i,v⟩⟩):=rfl
    rw[hgs,hge,hgt]
    simp only[List.cons_append,List.nil_append,List.map_append,List.map_cons,List.map_nil,jF,List.length_cons,List.length_nil,zlh,t43,Due.row5,hr2,Int.natCast_add,Int.cast_ofNat_Int]at e79a e79b
    generalize qbc c.e dt (onE c.s (qah m.c c.s ⟨2,i,v⟩).1 ⟨dt,⟨2,i,v⟩⟩)=E2 at *
    generalize qbc c.t dt (onT c.s (qah m.c c.s ⟨2,i,v⟩).1 ⟨dt,⟨2,i,v⟩⟩)=T2 at *
    generalize qbc c.e dt (qhl (qcc c.s ⟨2,i,v⟩).ends c.s.ends)=E1 at *
    generalize qbc c.t dt (qhl (qcc c.s ⟨2,i,v⟩).timers c.s.timers)=T1 at *
    generalize norm (qfs m.c) (C++(qah m.c c.s ⟨2,i,v⟩).2.1)=C' at *
    generalize qdo c.s (qah m.c c.s ⟨2,i,v⟩).1=F at *
    generalize (qah m.c c.s ⟨2,i,v⟩).2.1=cf at *
    generalize (qah m.c c.s ⟨2,i,v⟩).1=n' at *
    generalize qcc c.s ⟨2,i,v⟩=hp at *
    clear hz hgo se st'
    rcases hw with rfl | rfl<;>(simp[qaa,exT,qae,qnc,L43_0,e76,hut,wk,hi,hns,hnsb,h4',e77,e78,e34,e80,e79a,e79b,hap,hq.ne])
   .rw[if_neg he]at hz
    unfold zam at e77
    have heb:((qah m.c c.s ⟨2,i,v⟩).2.2==0)=false:=by rw[beq_eq_false_iff_ne];exact he
    refine(?_:∃r,ev pg (.code L43_0 ⟨fill q 0 (qnc l u),qvg m f s0 c.s c.e c.t k g w En C⟩)=some r/\r.x ≠ .normal/\Out43 m f s0 u l Z r).imp fun r h=>⟨h.1,.inr ⟨h.2.1,h.2.2⟩⟩
    generalize (qah m.c c.s ⟨2,i,v⟩).2.2=e at *
    simp[qaa,exT,qae,qnc,L43_0,e76,hut,wk,hi,hns,hnsb,h4',e77,he,heb,hq.ne]
    exact .of hz.symm 46 ⟨rfl,rfl,rfl,rfl,rfl,rfl,rfl,rfl⟩ (by simp[q5n,hq.ne])
end Go.Proofs.YtlhciedghbmjjaaGreat
