/- Moves, by the program. The examples of the law of machines in time. The examples of the law of machines in time: they are right. Short courses, by the reference; machines and presses turned to the reference's. -/
import Derived.Test.YtlhciedghbmjjaaGreatSi14
import Derived.KernelRfl
import Derived.Test.YtlhciedghbmjjaaGreatBg1
import Derived.Test.YtlhciedghbmjjaaGreatSi2
import Derived.Test.YtlhciedghbmjjaaGreatCt2
set_option linter.all false
namespace Go.Proofs.YtlhciedghbmjjaaGreat
open Go Go.Am Go.Proofs
set_option maxRecDepth 100000
set_option maxHeartbeats 4000000
theorem q4a {m:Mch} {u:Int} (hu:u≤1000000) {P:Ent→Prop} (hP:∀ c d,Cok m c→nxD m c=some d→d.t≤u→(qap m.c c.s d.e).2.2=0→P ⟨d.t,d.e,qcv c.s (qap m.c c.s d.e).1⟩) :
  ∀ (f:Nat) (c:Cst) (En:List Ent) (C:List Int) (lg:Lg),Cok m c→(∀ y ∈ En,P y)→En.length≤4096→Lin (qie m.c) C→goS m u f c En C=some (.inr lg)→(∀ y ∈ lg.en,P y)∧lg.en.length≤4096∧Lie m.c lg.st∧Lin (qie m.c) lg.cf
 | 0,_,_,_,_,_,_,_,_,h=>by cases h
 | f + 1,c,En,C,lg,hok,hE,hn,hC,h=>by
  unfold goS at h
  split at h
  ·cases h
   exact ⟨hE,hn,hok.lie,hC⟩
  ·rename_i d hd
   split at h
   ·cases h
    exact ⟨hE,hn,hok.lie,hC⟩
   ·rename_i hut
    split at h
    ·exact q4a hu hP f _ _ _ _ hok.drop hE hn hC h
    ·split at h
     ·cases h
     ·rename_i h4
      split at h
      ·rename_i he
       refine q4a hu hP f _ _ _ _ (hok.go hd (by omega) he) ?_ ?_ (Lin.norm _ _) h
       ·intro y hy
        rcases List.mem_append.1 hy with hy | hy
        ·exact hE y hy
        ·rw [List.mem_singleton] at hy
         rw [hy]
         exact hP c d hok hd (by omega) he
       ·rw [List.length_append]
        simp
        omega
      ·cases h
theorem q8v {m:Mch} {c:Cst} (h:Cok m c) (t:Ste):(qcv c.s t).length≤6:=by
 have a:=q8t c.s t
 have b:=h.lie.ends.1
 omega
theorem zgw {m:Mch} (hs:m.c.small=true) {l:List Prs} {u:Int} (h:(qlz m l u).2=0):∃ lg,(qlz m l u).1=lg∧qez m l u=0∧(qbk m.c).2.2=0∧(qkm m l u=some (.inr lg)∨qkm m l u=none∧lg=zLg∨qkm m l u=some (.inl 0)∧lg=zLg):=by
 unfold qlz at h ⊢
 split at h
 ·rename_i h1; exact absurd h h1
 ·rename_i h1
  rw [if_neg h1]
  split at h
  ·rename_i h2; exact absurd h h2
  ·rename_i h2
   rw [if_neg h2]
   refine ⟨_,rfl,by simpa using h1,by simpa using h2,?_⟩
   cases hz:qkm m l u with
   | none=>exact .inr (.inl ⟨rfl,rfl⟩)
   | some x =>
    cases x with
    | inr lg=>exact .inl rfl
    | inl e =>
     rw [hz] at h
     simp only [zsd] at h
     subst h
     exact .inr (.inr ⟨rfl,rfl⟩)
theorem q2w {m:Mch} (hs:m.c.small=true) (l:List Prs) (u:Int):(qlz m l u).1.ok:=by
 have hz:zLg.ok:=⟨by simp [zLg],by simp [zLg]⟩
 unfold qlz
 split
 ·exact hz
 ·rename_i h1
  split
  ·exact hz
  ·rename_i h2
   have hg:qez m l u=0:=by simpa using h1
   have hst:(qbk m.c).2.2=0:=by simpa using h2
   unfold zsd
   split
   ·rename_i lg hc
    obtain ⟨g1,g2,g3,g4,g5⟩:=qey hg
    obtain ⟨r1,r2,r3,r4⟩:=q4a g5 (P:=fun y=>(y.e.kind=0∨y.e.kind=1∨y.e.kind=2)∧y.s.length≤1000) (fun c d hok hd _ _=>by
     have:=(hok.due d (qgf hd)).2
     have hf:=q8v hok (qap m.c c.s d.e).1
     exact ⟨this.elim (fun h=>.inr (.inr h.1)) (fun h=>h.elim (fun h=>.inl h.1) fun h=>.inr (.inl h.1)),by simp only; omega⟩) _ _ _ _ _ (qxs hs hg hst) (by simp) (by simp) (qpn _) hc
    exact ⟨r2,r1⟩
   ·exact hz
   ·exact hz
def qzu (m:Mch) (l:List Prs) (u:Int):List Mov × Int:=if (qlz m l u).2=0 then (qjt (qlz m l u).1.en,0) else ([],(qlz m l u).2)
theorem ev19 {m:Mch} (hs:m.c.small=true) (ht:m.ts.length≤100000) {l:List Prs} (hl:l.length≤100000) (u:Int):ev pg (.call (.fn 19 [] []) [m.v,prs l,num u] [])=some { v:=.tup [mvs (qzu m l u).1,num (qzu m l u).2],st:=⟨[],[]⟩ }:=by
 have e13:=ev13 hs ht hl u
 have hok:=q2w hs l u
 have hlp:=fun st=>z2t m (qlz m l u).1 hok (st:=st)
 unfold qzu
 rw [qac,pg19]
 by_cases h:(qlz m l u).2=0
 ·rw [if_pos h]
  rw [h] at e13
  generalize qjt (qlz m l u).1.en=M at *
  generalize (qdw (qlz m l u).1.en).2=L at *
  generalize (qlz m l u).1=x at *
  simp [ir19,e13,qag]
  generalize hr:ev pg (.code (.going _ L19_1) _)=o
  obtain ⟨r,rfl,g,w,hw,f,hf,rfl⟩:∃ r,o=some r∧_:=by rw [← hr]; exact hlp _ (by simp [q3r,zff])
  clear hr
  rcases hw with rfl | ⟨rfl,rfl⟩
  ·simp [q3r]
  ·simp [q3r]
 ·rw [if_neg h]
  have hb:((qlz m l u).2 == 0)=false:=by simpa using h
  generalize (qlz m l u).2=e at *
  generalize (qlz m l u).1=x at *
  simp [ir19,e13,h,hb]
end Go.Proofs.YtlhciedghbmjjaaGreat
namespace Go.Proofs.YtlhciedghbmjjaaGreat
open Go Go.Am Go.Proofs
set_option maxRecDepth 1000000
set_option maxHeartbeats 4000000
theorem z5m (a:List Mov) (ha:a.length≤4096) {st:St} (h0:At ([some (mvs a),some (mvs a),none,none,none,none,none,none,none,none,none,some (mvs a),some (num a.length),some (num 0)]++List.replicate 12 none) [] st) :
  ∃ r,ev pg (.code (.going 0 L38_0) st)=some r∧qaj (.exit 0) ([some (mvs a),some (mvs a),none,none,none,none,none,none,none,none,none,some (mvs a),some (num a.length),some (num a.length)]++List.replicate 12 none) [] r:=by
 refine qfi a.length (fun k=>[some (mvs a),some (mvs a),none,none,none,none,none,none,none,none,none,some (mvs a),some (num a.length),some (num k)]++List.replicate 12 none) (fun _=>[]) _ ?_ ?_ h0
 ·intro k f hf hk
  have hk':(k:Int) < a.length:=by omega
  have wk:=qab (n:=(k:Int) + 1) (by omega) (by omega)
  simp [qaa,exT,qad,L38_0,hk,hk',wk,hf.ne]
 ·intro f hf
  simp [L38_0,hf.ne]
theorem ev38 (a:List Mov) (ha:a.length≤4096):ev pg (.call (.fn 38 [] []) [mvs a,mvs a] [])=some { v:=.bool true,st:=⟨[],[]⟩ }:=by
 have hl:=@z5m a ha
 rw [qac,pg38]
 simp [ir38,qag]
 generalize hr:ev pg (.code (.going _ L38_0) _)=o
 obtain ⟨r,rfl,f,hf,rfl⟩:∃ r,o=some r∧_:=by rw [← hr]; exact hl (by simp)
 simp
def smM:Mch:=⟨one,[(100,80)]⟩
def smA:Lg:=⟨[⟨10,⟨2,0,true⟩,[(0,true)]⟩,⟨110,⟨0,0,false⟩,[(0,false)]⟩,⟨190,⟨0,0,false⟩,[(0,true)]⟩,⟨290,⟨0,0,false⟩,[(0,false)]⟩],[],⟨[3],[false],[true],[false,true],[0,0]⟩⟩
def smB:Lg:=⟨[⟨10,⟨2,0,true⟩,[(0,true)]⟩,⟨110,⟨0,0,false⟩,[(0,false)]⟩,⟨150,⟨2,0,false⟩,[]⟩,⟨190,⟨0,0,false⟩,[]⟩],[],⟨[0],[false],[false],[false,true],[0,0]⟩⟩
def smV:List Mov:=[⟨0,true,10,110⟩,⟨0,false,110,190⟩,⟨0,true,190,290⟩,⟨0,false,290,noT⟩]
theorem sm1:qlz smM [⟨10,0,true⟩] 300=(smA,0):=by kernel_rfl
theorem sm2:qlz smM [⟨10,0,true⟩,⟨150,0,false⟩] 300=(smB,0):=by kernel_rfl
theorem sm3:qjt smA.en=smV:=by kernel_rfl
theorem sm0:smM.c.small=true:=zod
def zkw (k:Nat):Tm:=[some (.bool false),some (.bptr 5 0),some (.immc [[num 10,num 0,.bool true]]),some (.bptr 13 0),none,some (mvs smV)]++List.replicate 39 none++[some (.imm [[num 10],[num 110],[num 190],[num 290]]),some (num 4),some (num k)]++List.replicate 86 none
abbrev zyy:H:=[o0s,o0s,o0s,o0s,o0s,⟨0,.box smM.cells⟩,o0s,o0s,o0s,o0s,o0s,o0s,o0s,⟨0,.box smA.cells⟩]
theorem z6m {st:St} (h0:At (zkw 0) zyy st):∃ r,ev pg (.code (.going 14 L12_0) st)=some r∧qaj (.exit 0) (zkw 4) zyy r:=by
 refine qfi 4 zkw (fun _=>zyy) _ ?_ ?_ h0
 ·intro k f hf hk
  have hk4:k=0∨k=1∨k=2∨k=3:=by omega
  have w1:IntKind.i64.wrap 1=1:=by decide
  have w2:IntKind.i64.wrap 2=2:=by decide
  have w3:IntKind.i64.wrap 3=3:=by decide
  have w4:IntKind.i64.wrap 4=4:=by decide
  rcases hk4 with rfl | rfl | rfl | rfl <;> simp [zkw,L12_0,smA,w1,w2,w3,w4,hf.ne]
 ·intro f hf
  simp [zkw,L12_0,hf.ne]
end Go.Proofs.YtlhciedghbmjjaaGreat
namespace Go.Proofs.YtlhciedghbmjjaaGreat
open Go Go.Am Go.Proofs
set_option maxRecDepth 1000000
set_option maxHeartbeats 4000000
abbrev smX:V:=.agg [num one.act,.imm (one.inputs.map q4o),.imm (one.signals.map Sg.row),qck one.plus,qck one.minus,.imm [[.int .i64 100,.int .i64 80]]]
theorem ev12:ev pg (.call (.fn 12 [] []) [] [])=some { v:=.bool true,st:=⟨[],[]⟩ }:=by
 have e13a:ev pg (.call (.fn 13 [] []) [smX,.imm [[.int .i64 10,.int .i64 0,.bool true]],.int .i64 300] [])=some { v:=.tup [smA.v,num 0],st:=⟨[],[]⟩ }:=by
  have e:=ev13 (m:=smM) sm0 (by simp [smM]) (l:=[⟨10,0,true⟩]) (by simp) 300
  rw [sm1] at e
  exact e
 have e13b:ev pg (.call (.fn 13 [] []) [smX,.imm [[.int .i64 10,.int .i64 0,.bool true],[.int .i64 150,.int .i64 0,.bool false]],.int .i64 300] [])=some { v:=.tup [smB.v,num 0],st:=⟨[],[]⟩ }:=by
  have e:=ev13 (m:=smM) sm0 (by simp [smM]) (l:=[⟨10,0,true⟩,⟨150,0,false⟩]) (by simp) 300
  rw [sm2] at e
  exact e
 have e19:ev pg (.call (.fn 19 [] []) [smX,.imm [[.int .i64 10,.int .i64 0,.bool true]],.int .i64 300] [])=some { v:=.tup [mvs smV,num 0],st:=⟨[],[]⟩ }:=by
  have e:=ev19 (m:=smM) sm0 (by simp [smM]) (l:=[⟨10,0,true⟩]) (by simp) 300
  unfold qzu at e
  rw [sm1] at e
  simp only [if_true] at e
  rw [sm3] at e
  exact e
 have e38:ev pg (.call (.fn 38 [] []) [mvs smV,.imm [[.int .i64 0,.bool true,.int .i64 10,.int .i64 110],[.int .i64 0,.bool false,.int .i64 110,.int .i64 190],[.int .i64 0,.bool true,.int .i64 190,.int .i64 290],[.int .i64 0,.bool false,.int .i64 290,.int .i64 (-1099511627776)]]] [])=some { v:=.bool true,st:=⟨[],[]⟩ }:=ev38 smV (by simp [smV])
 have w0:IntKind.i64.wrap 0=0:=by decide
 have e37:=ev37
 have l1:(smA.en.length:Int)=4:=rfl
 have l2:(smA.cf.length:Int)=0:=rfl
 rw [qac,pg12]
 simp [ir12,e37,e13a,e19,l1,l2,w0,qag]
 generalize hr:ev pg (.code (.going _ L12_0) _)=o
 obtain ⟨r,rfl,f,hf,rfl⟩:∃ r,o=some r∧_:=by
  rw [← hr]
  refine z6m ?_
  simp [zkw]
  exact ⟨rfl,rfl,rfl,rfl,rfl,rfl⟩
 clear hr
 have c0:smM.cells=[num one.act,.imm (one.inputs.map q4o),.imm (one.signals.map Sg.row),qck one.plus,qck one.minus,.imm [[.int .i64 100,.int .i64 80]]]:=rfl
 simp only [zyy,c0]
 simp [qaa,exT,qad,zkw,e38,e13b,smB]
set_option maxHeartbeats 4000000
theorem qya {α:Type} {l:List α} {k:Nat} (hk:k < l.length):l.take (k + 1)=l.take k++[l[k]]:=List.take_succ_eq_append_getElem hk
theorem q9q {α:Type} {l:List α} {k:Nat} (hk:k≤l.length):(l.take k).length=k:=by rw [List.length_take]; omega
def zim (ts D:List (Int × Int)) (g w k:Nat):Tm:=[none,some (.bptr 0 0),some (.bptr 6 0),some (.bptr 12 0)]++List.replicate 6 none++[some (tms ts),some (num ts.length),some (num k)]++List.replicate 11 none
abbrev zxi (m:Mch) (D:List (Int × Int)) (g w:Nat):H:=[⟨0,.box m.cells⟩,⟨0,.arr 0 []⟩,⟨0,.arr 0 []⟩,⟨0,.arr 0 []⟩,⟨0,.arr 0 []⟩,⟨0,.arr 0 []⟩,⟨0,.box [num 0,.sl 1 0 0 0 0,.sl 2 0 0 0 0,.sl 3 0 0 0 0,.sl 4 0 0 0 0,.sl 5 0 0 0 0]⟩,⟨0,.arr 0 []⟩,⟨0,.arr 0 []⟩,⟨0,.arr 0 []⟩,⟨0,.arr 0 []⟩,⟨0,.arr 0 []⟩,
 ⟨0,.box [num m.c.act,.imm (m.c.inputs.map q4o),.imm (m.c.signals.map Sg.row),qck m.c.plus,qck m.c.minus,.sl 13 g w 0 D.length]⟩,⟨g,.arr w (D.map zxh)⟩]
theorem z2k (m:Mch) (hx:m.ts.length * 16≤140737488355328) {st:St} (h0:At (zim m.ts [] 0 0 0) (zxi m [] 0 0) st):∃ r,ev pg (.code (.going 14 L10_0) st)=some r∧∃ g w,qaj (.exit 0) (zim m.ts m.ts g w m.ts.length) (zxi m m.ts g w) r:=by
 refine qdp (α:=Nat × Nat) m.ts.length (fun k a=>zim m.ts (m.ts.take k) a.1 a.2 k) (fun k a=>zxi m (m.ts.take k) a.1 a.2) (fun _ a=>a.2=2∨a.2=0) _ ?_ ?_ (0,0) (.inr rfl) h0
 ·rintro k ⟨g,w⟩ f hf hk hw
  have hk':(k:Int) < m.ts.length:=by omega
  have wk:=qab (n:=(k:Int) + 1) (by omega) (by omega)
  have ht:=qya hk
  have hl:=q9q (l:=m.ts) (k:=k) (by omega)
  generalize m.ts.take (k + 1)=D' at *
  generalize m.ts.take k=D at *
  subst ht
  have hap:(D.length + 1) * 16≤140737488355328:=by omega
  refine (?_:∃ st,ev pg (.code L10_0 ⟨fill f 0 (zim m.ts D g w k),zxi m D g w⟩)=some { st:=st }∧At (zim m.ts (D++[m.ts[k]]) (g + 1) 2 (k + 1)) (zxi m (D++[m.ts[k]]) (g + 1) 2) (qos 14 st)).elim fun st h=>⟨_,h.1,.inl ⟨rfl,(g + 1,2),.inl rfl,h.2⟩⟩
  rcases hw with h | h <;> (simp only at h; subst h; simp [zim,L10_0,hk,hk',wk,hap,hf.ne])
 ·rintro ⟨g,w⟩ f hf hw
  rw [List.take_length]
  simp [zim,L10_0,hf.ne]
theorem ev10 (m:Mch) (hx:m.ts.length * 16≤140737488355328):ev pg (.call (.fn 10 [] []) [m.v] [])=some { v:=m.v,st:=⟨[],[]⟩ }:=by
 have hl:=fun st=>z2k m hx (st:=st)
 rw [qac,pg10]
 simp [ir10,qag]
 generalize hr:ev pg (.code (.going _ L10_0) _)=o
 obtain ⟨r,rfl,g,w,f,hf,rfl⟩:∃ r,o=some r∧_:=by rw [← hr]; exact hl _ (by simp [zim])
 clear hr
 simp [zim]
def zfi (l D:List Prs) (g w k:Nat):Tm:=[none,none,none,some (.sl 1 g w 0 D.length),none,none,some (prs l),some (num l.length),some (num k)]++List.replicate 9 none
abbrev zsj (D:List Prs) (g w:Nat):H:=[⟨0,.arr 0 []⟩,⟨g,.arr w (D.map Prs.row)⟩]
theorem z4c (l:List Prs) (hx:l.length * 24≤140737488355328) {st:St} (h0:At (zfi l [] 0 0 0) (zsj [] 0 0) st):∃ r,ev pg (.code (.going 2 L11_0) st)=some r∧∃ g w,qaj (.exit 0) (zfi l l g w l.length) (zsj l g w) r:=by
 refine qdp (α:=Nat × Nat) l.length (fun k a=>zfi l (l.take k) a.1 a.2 k) (fun k a=>zsj (l.take k) a.1 a.2) (fun _ a=>a.2=3∨a.2=0) _ ?_ ?_ (0,0) (.inr rfl) h0
 ·rintro k ⟨g,w⟩ f hf hk hw
  have hk':(k:Int) < l.length:=by omega
  have wk:=qab (n:=(k:Int) + 1) (by omega) (by omega)
  have ht:=qya hk
  have hl:=q9q (l:=l) (k:=k) (by omega)
  generalize l.take (k + 1)=D' at *
  generalize l.take k=D at *
  subst ht
  have hap:(D.length + 1) * 24≤140737488355328:=by omega
  refine (?_:∃ st,ev pg (.code L11_0 ⟨fill f 0 (zfi l D g w k),zsj D g w⟩)=some { st:=st }∧At (zfi l (D++[l[k]]) (g + 1) 3 (k + 1)) (zsj (D++[l[k]]) (g + 1) 3) (qos 2 st)).elim fun st h=>⟨_,h.1,.inl ⟨rfl,(g + 1,3),.inl rfl,h.2⟩⟩
  rcases hw with h | h <;> (simp only at h; subst h; simp [zfi,L11_0,hk,hk',wk,hap,hf.ne])
 ·rintro ⟨g,w⟩ f hf hw
  rw [List.take_length]
  simp [zfi,L11_0,hf.ne]
theorem ev11 (l:List Prs) (hx:l.length * 24≤140737488355328):ev pg (.call (.fn 11 [] []) [prs l] [])=some { v:=prs l,st:=⟨[],[]⟩ }:=by
 have hl:=fun st=>z4c l hx (st:=st)
 rw [qac,pg11]
 simp [ir11,qag]
 generalize hr:ev pg (.code (.going _ L11_0) _)=o
 obtain ⟨r,rfl,g,w,f,hf,rfl⟩:∃ r,o=some r∧_:=by rw [← hr]; exact hl _ (by simp [zfi])
 clear hr
 simp [zfi]
 try rfl
def Mch.few (m:Mch):Bool:=m.c.few && decide (m.ts.length≤40)
theorem ev35 (m:Mch):ev pg (.call (.fn 35 [] []) [m.v] [])=some { v:=.bool m.few,st:=⟨[],[]⟩ }:=by
 have e62:=ev62 m.c
 rw [qac,pg35]
 unfold Mch.few
 generalize m.c.few=b at *
 have hl:(decide ((m.ts.length:Int)≤40))=decide (m.ts.length≤40):=by rw [Bool.eq_iff_iff]; simp only [decide_eq_true_eq]; omega
 cases b
 ·simp [ir35,e62]
 ·by_cases h:m.ts.length≤40
  ·have h':(m.ts.length:Int)≤40:=by omega
   simp [ir35,e62,h,h']
  ·have h':¬ (m.ts.length:Int)≤40:=by omega
   simp [ir35,e62,h,h']
end Go.Proofs.YtlhciedghbmjjaaGreat
