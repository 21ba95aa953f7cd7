/- Loops of Am whose rounds hand a box on, by a picture. Courses in time, by the program. Courses in time, by the program: the loop. -/
import Derived.Test.YtlhciedghbmjjaaGreatLo1
import Derived.Test.YtlhciedghbmjjaaGreatSi9
import Derived.Test.YtlhciedghbmjjaaGreatQu3
import Derived.Test.YtlhciedghbmjjaaGreatAf1
import Derived.KernelRfl
import Derived.Test.YtlhciedghbmjjaaGreatBg1
import Derived.Test.YtlhciedghbmjjaaGreatLn1
set_option linter.all false
namespace Go.Am
theorem qve {P:Prg} {nx q:Nat} {c:C} (I:Nat→St→Prop) (N:Nat) (Q:R→Prop)
  (step:∀ k st,k < N→I k st→∃ r,ev P (.code c st)=some r∧((r.x=.normal∧I (k + 1) (q6d nx q r.st))∨(r.x ≠ .normal∧Q r)))
  (last:∀ st,¬ I N st):∀ (d k:Nat) (st:St),k + d=N→I k st→∃ r,ev P (.code (.goingK nx q c) st)=some r∧Q r
 | 0,k,st,hk,hI=>by
  have:k=N:=by omega
  subst this
  exact absurd hI (last st)
 | d + 1,k,st,hk,hI=>by
  obtain ⟨r,h1,h2⟩:=step k st (by omega) hI
  rcases h2 with ⟨h2,h3⟩ | ⟨h2,h3⟩
  ·obtain ⟨r',h4,h5⟩:=qve I N Q step last d (k + 1) (q6d nx q r.st) (by omega) h3
   refine ⟨r',?_,h5⟩
   rw [qzj,h1]
   simp only [h2]
   exact h4
  ·refine ⟨r,?_,h3⟩
   rw [qzj,h1]
   cases hx:r.x with
   | normal=>exact absurd hx h2
   | exit id=>simp only [hx]
   | ret=>simp only [hx]
theorem zfo {P:Prg} {nx q:Nat} {c:C} {α:Type} (N:Nat) (T:α→Tm) (Hp:α→H) (G:Nat→α→Prop) (Q:R→Prop)
  (step:∀ k a f,Junk f→k < N→G k a→∃ r,ev P (.code c ⟨fill f 0 (T a),Hp a⟩)=some r∧((r.x=.normal∧∃ a',G (k + 1) a'∧At (T a') (Hp a') (q6d nx q r.st))∨(r.x ≠ .normal∧Q r)))
  (last:∀ a,¬ G N a) {st:St} (a0:α) (g0:G 0 a0) (h0:At (T a0) (Hp a0) st):∃ r,ev P (.code (.goingK nx q c) st)=some r∧Q r:=by
 refine qve (fun k st=>∃ a,G k a∧At (T a) (Hp a) st) N Q ?_ (fun st ⟨a,g,_⟩=>last a g) N 0 st (by omega) ⟨a0,g0,h0⟩
 rintro k st hk ⟨a,g,h⟩
 obtain ⟨f,hf,rfl⟩:=h.eq
 exact step k a f hf hk g
end Go.Am
namespace Go.Proofs.YtlhciedghbmjjaaGreat
open Go Go.Am Go.Proofs
set_option maxRecDepth 100000
theorem ev42 (N:Nat) (a b:List Int) (ha:a.length≤10000) (hb:b.length≤10000) (hbd:∀ x ∈ a++b,0≤x∧x < (N:Int)):ev pg (.call (.fn 42 [] []) [qck a,qck b] [])=some { v:=qck (norm N (a++b)),st:=⟨[],[]⟩ }:=by
 have e59:=ev59 N a b ha hb hbd
 have e:ir42=ir59:=rfl
 rw [qac,pg59] at e59
 rw [qac,pg42,e]
 exact e59
abbrev qxr (m:Mch) (s0:Ste) (X:List V) (g w:Nat) (En:List Ent) (C:List Int) (d:Due):H :=
 [⟨0,.box m.cells⟩,o0s,o0s,o0s,o0s,o0s,o0s,o0s,⟨0,.box [.sl 1 0 0 0 0,.sl 2 0 0 0 0,.sl 3 0 0 0 0,.sl 4 0 0 0 0,.sl 5 0 0 0 0,.sl 6 0 0 0 0,.sl 7 0 0 0 0]⟩,o0s,o0s,o0s,o0s,o0s,⟨0,.box s0.cells⟩,
   ⟨1,.arr 1 (List.replicate s0.ends.length [num 0])⟩,⟨1,.arr 1 (List.replicate s0.timers.length [num 0])⟩,⟨0,.box X⟩,o0s,o0s,o0s,o0s,o0s,o0s,o0s,
   ⟨0,.box [.sl 26 g w 0 En.length,qck C,.sl 27 0 0 0 0,.sl 28 0 0 0 0,.sl 29 0 0 0 0,.sl 30 0 0 0 0,.sl 31 0 0 0 0]⟩,⟨g,.arr w (En.map Ent.row)⟩,o0s,o0s,o0s,o0s,o0s,⟨0,.box d.row⟩]
structure G13 where
 c:Cst
 En:List Ent
 C:List Int
 ve:V
 vt:V
 g:Nat
 w:Nat
 b:Bool
 d0:Due
abbrev G13.X (m:Mch) (a:G13):List V:=qkg m a.c.s a.ve a.vt a.c.l
abbrev G13.d (m:Mch) (a:G13):Due:=(nxD m a.c).getD q8l
def G13.H (m:Mch) (s0:Ste) (a:G13):H:=match a.b with
 | true=>qxr m s0 (a.X m) a.g a.w a.En a.C (a.d m)
 | false=>qxr m s0 (a.X m) a.g a.w a.En a.C a.d0++[⟨0,.box (a.d m).row⟩]
def qqr (u:Int) (id:Nat) (sm:Bool):Tm:=[none,none,some (num u),none,none,none,some (.bptr 8 0),some (num 0),none,none,none,none,some (.bptr 17 0),some (.bptr 25 0),some (.fn 40 [.bptr 17 0] []),some (.bptr id 0),some (.bool sm)]++List.replicate 121 none
def qtw (e:Int):Tm:=[none,none,none,none,none,none,some (.bptr 8 0),some (num e)]++List.replicate 130 none
def G13.T (m:Mch) (u:Int) (a:G13):Tm:=qqr u (if a.b=true then 32 else 33) (nxD m a.c).isSome
def VE (i:Nat) (n:Nat) (l:List Int) (v:V):Prop:=v=qck l∨(v=.sl i 1 1 0 n∧l=List.replicate n 0)
theorem VE.sl {h:H} {i n:Nat} {l:List Int} {v:V} (hv:VE i n l v) (hi:h[i]?=some ⟨1,.arr 1 (List.replicate n [num 0])⟩):Sl h l v:=by
 rcases hv with rfl | ⟨rfl,rfl⟩
 ·exact .imm
 ·have:=Sl.own (h:=h) (l:=List.replicate n 0) i 1 (by rw [hi]; simp)
  simpa using this
theorem VE.low {i n k:Nat} {l:List Int} {v:V} (hv:VE i n l v) (hi:i < k):v.low k=true:=by
 rcases hv with rfl | ⟨rfl,rfl⟩
 ·rfl
 ·simp [hi]
structure G13.Ok (m:Mch) (s0:Ste) (u:Int) (Z:Option (Int ⊕ Lg)) (L k:Nat) (a:G13):Prop where
 ok:Cok m a.c
 ve:VE 15 s0.ends.length a.c.e a.ve
 vt:VE 16 s0.timers.length a.c.t a.vt
 w:a.w=5∨a.w=0
 lin:Lin (qie m.c) a.C
 z:goS m u (4097 + L - k) a.c a.En a.C=Z
 mu:k + a.c.l.length≤a.En.length + L
 en:a.En.length≤4096
structure Nil7 (h:H) (q:Nat):Prop where
 b:h[8]?=some ⟨0,.box [.sl q 0 0 0 0,.sl (q + 1) 0 0 0 0,.sl (q + 2) 0 0 0 0,.sl (q + 3) 0 0 0 0,.sl (q + 4) 0 0 0 0,.sl (q + 5) 0 0 0 0,.sl (q + 6) 0 0 0 0]⟩
 e0:h[q]?=some o0s
 e1:h[q + 1]?=some o0s
 e2:h[q + 2]?=some o0s
 e3:h[q + 3]?=some o0s
 e4:h[q + 4]?=some o0s
 e5:h[q + 5]?=some o0s
 e6:h[q + 6]?=some o0s
inductive Out13 (m:Mch) (s0:Ste) (u:Int) (Z:Option (Int ⊕ Lg)) (r:R):Prop
 | ok (a:G13) (hz:Z=some (.inr ⟨a.En,a.C,a.c.s⟩)) (hw:a.w=5∨a.w=0) (he:qaj (.exit 0) (a.T m u) (a.H m s0) r)
 | bad (e:Int) (hz:Z=some (.inl e)) (h:H) (q:Nat) (hh:Nil7 h q) (he:qaj .ret (qtw e) h r)
theorem ziw {m:Mch} {s0:Ste} {X:List V} {g w:Nat} {En:List Ent} {C:List Int} {d:Due} (hX:qeu 33 X=true) (t:List Due):qci (qxr m s0 X g w En C d++t.map fun x=>⟨0,.box x.row⟩):=by
 rw [qhs]
 intro o ho
 rw [List.length_append]
 rcases List.mem_append.1 ho with ho | ho
 ·refine qtj (show 33≤(qxr m s0 X g w En C d).length + _ from Nat.le_add_right 33 _) ?_
  simp only [qxr,List.mem_cons,List.not_mem_nil,or_false] at ho
  rcases ho with rfl | rfl | rfl | rfl | rfl | rfl | rfl | rfl | rfl | rfl | rfl | rfl | rfl | rfl | rfl | rfl | rfl | rfl | rfl | rfl | rfl | rfl | rfl | rfl | rfl | rfl | rfl | rfl | rfl | rfl | rfl | rfl | rfl <;> (try rfl) <;> simp [qbl]
  exact qik hX
 ·obtain ⟨x,_,rfl⟩:=List.mem_map.1 ho
  simp [qbl]
theorem qrv {m:Mch} {c:Cst} {d:Due} (hd:d ∈ qrn m c.s c.e c.t c.l) (hk:d.e.kind=2):∃ p r,c.l=p :: r:=by
 cases hl:c.l with
 | cons p r=>exact ⟨p,r,rfl⟩
 | nil =>
  exfalso
  rw [hl] at hd
  rcases List.mem_append.1 hd with hd | hd
  ·cases hd
  ·rcases List.mem_append.1 hd with hd | hd
   ·unfold upD at hd
    rw [List.mem_filterMap] at hd
    obtain ⟨i,hi,hd⟩:=hd
    unfold qmj at hd
    split at hd
    ·cases hd; cases hk
    ·split at hd
     ·cases hd; cases hk
     ·cases hd
   ·unfold upD at hd
    rw [List.mem_filterMap] at hd
    obtain ⟨i,hi,hd⟩:=hd
    unfold qpe at hd
    split at hd
    ·cases hd; cases hk
    ·cases hd
theorem z2a {m:Mch} {s0:Ste} {c:Cst} (hok:Cok m c) {ve vt:V} (hve:VE 15 s0.ends.length c.e ve) (hvt:VE 16 s0.timers.length c.t vt) (g w:Nat) (En:List Ent) (C:List Int) (d:Due) (t:List Due) :
  ev pg (.call (.fn 40 [.bptr 17 0] []) [] (qxr m s0 (qkg m c.s ve vt c.l) g w En C d++t.map fun x=>⟨0,.box x.row⟩))=some { v:=.tup [((nxD m c).getD q8l).v,.bool (nxD m c).isSome],st:=⟨[],qxr m s0 (qkg m c.s ve vt c.l) g w En C d++t.map fun x=>⟨0,.box x.row⟩⟩ }:=by
 have hl1:=hve.low (k:=33) (by omega)
 have hl2:=hvt.low (k:=33) (by omega)
 refine ev40 rfl (ziw (by simp [hl1,hl2]) t) (hve.sl rfl) (hvt.sl rfl) hok.tim fun d hd=>?_
 have:=(hok.due d hd).1
 exact ⟨by omega,by omega⟩
theorem zyu {m:Mch} {s0:Ste} {c:Cst} (hok:Cok m c) {ve vt:V} (hve:VE 15 s0.ends.length c.e ve) (hvt:VE 16 s0.timers.length c.t vt) (g w:Nat) (En:List Ent) (C:List Int) (d0:Due) (t:List Due) (l:List Prs) (d:Due) :
  ev pg (.call (.fn 41 [] []) [.bptr 17 0,d.v] (qxr m s0 (qkg m c.s ve vt l) g w En C d0++t.map fun x=>⟨0,.box x.row⟩)) =
   some (if (qap m.c c.s d.e).2.2=0 then { v:=.tup [q6j (qcv c.s (qap m.c c.s d.e).1),qck (qap m.c c.s d.e).2.1,num 0],st:=⟨[],qxr m s0 (qkg m (qap m.c c.s d.e).1 (qck (qgg c.e d.t (onE c.s (qap m.c c.s d.e).1 d))) (qck (qgg c.t d.t (onT c.s (qap m.c c.s d.e).1 d))) l) g w En C d0++t.map fun x=>⟨0,.box x.row⟩⟩ }
   else { v:=.tup [q6j [],qck [],num (qap m.c c.s d.e).2.2],st:=⟨[],qxr m s0 (qkg m c.s ve vt l) g w En C d0++t.map fun x=>⟨0,.box x.row⟩⟩ }):=by
 have hl1:=hve.low (k:=33) (by omega)
 have hl2:=hvt.low (k:=33) (by omega)
 have hr:=hok.lie.rdy
 have hnx:qhp m.c c.s d.e=qap m.c c.s d.e:=by unfold qhp; rw [if_pos hok.lie.quE]
 have hlie:(qap m.c c.s d.e).2.2=0→Lie m.c (qap m.c c.s d.e).1:=fun he=>by
  unfold qap at he ⊢
  split at he
  ·cases he
  ·rename_i hk
   rw [if_neg hk]
   split at he
   ·rename_i hm
    rw [if_pos hm]
    exact (q0z ⟨hr.few,qgt hr.st hk hm⟩ he).1
   ·cases he
 have e:=ev41 (h:=qxr m s0 (qkg m c.s ve vt l) g w En C d0++t.map fun x=>⟨0,.box x.row⟩) (x:=17) (m:=m) (s:=c.s) (e:=c.e) (t:=c.t) (ve:=ve) (vt:=vt) (l:=l) rfl (ziw (by simp [hl1,hl2]) t) (hve.sl rfl) (hvt.sl rfl) hok.tim hr.small hr.few d
  (q2d hr.few c.s d.e) (fun he=>by
   rw [hnx] at he ⊢
   have a:=(hlie he).rdy.shp.e; have b:=hr.shp.e; omega) (fun he=>by
   rw [hnx] at he ⊢
   have a:=(hlie he).rdy.shp.t; have b:=hr.shp.t; omega)
 rw [e]
 unfold z2p
 rw [hnx]
 by_cases he:(qap m.c c.s d.e).2.2=0
 ·rw [if_pos he,if_pos he]
  obtain ⟨b1,b2⟩:=hok.lie.begE (hlie he)
  rw [if_pos b1,b2]
  rfl
 ·rw [if_neg he,if_neg he]
end Go.Proofs.YtlhciedghbmjjaaGreat
