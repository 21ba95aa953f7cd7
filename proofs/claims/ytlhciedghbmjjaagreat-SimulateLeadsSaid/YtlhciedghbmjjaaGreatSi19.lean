/- Moves, by the program. The examples of the law of machines in time. The examples of the law of machines in time: they are right. The law SimulateEvents, in Am: it returns true. Short courses, by the reference; machines and presses turned to the reference's. -/
import Derived.Test.YtlhciedghbmjjaaGreatSi14
import Derived.KernelRfl
import Derived.Test.YtlhciedghbmjjaaGreatBg1
import Derived.Test.YtlhciedghbmjjaaGreatSi2
import Derived.Test.YtlhciedghbmjjaaGreatCt2
set_option linter.all false
namespace Go.Proofs.YtlhciedghbmjjaaGreat
open Go Go.Am Go.Proofs
set_option maxRecDepth 100000
set_option maxHeartbeats 4000000
theorem q2w {m:Mch} {u:Int} (hu:u≤1000000) {P:Ent→Prop} (hP:∀ c d,Cok m c→nxD m c=some d→d.t≤u→(qam m.c c.s d.e).2.2=0→P ⟨d.t,d.e,qew c.s (qam m.c c.s d.e).1⟩) :
  ∀ (f:Nat) (c:Cst) (En:List Ent) (C:List Int) (lg:Lg),Cok m c→(∀ y ∈ En,P y)→En.length≤4096→Lin (qgr m.c) C→goS m u f c En C=some (.inr lg)→(∀ y ∈ lg.en,P y)∧lg.en.length≤4096∧Lie m.c lg.st∧Lin (qgr m.c) lg.cf
 | 0,_,_,_,_,_,_,_,_,h=>by cases h
 | f + 1,c,En,C,lg,hok,hE,hn,hC,h=>by
  unfold goS at h
  split at h
  ·cases h
   exact ⟨hE,hn,hok.lie,hC⟩
  ·rename_i d hd
   split at h
   ·cases h
    exact ⟨hE,hn,hok.lie,hC⟩
   ·rename_i hut
    split at h
    ·exact q2w hu hP f _ _ _ _ hok.drop hE hn hC h
    ·split at h
     ·cases h
     ·rename_i h4
      split at h
      ·rename_i he
       refine q2w hu hP f _ _ _ _ (hok.go hd (by omega) he) ?_ ?_ (Lin.norm _ _) h
       ·intro y hy
        rcases List.mem_append.1 hy with hy | hy
        ·exact hE y hy
        ·rw [List.mem_singleton] at hy
         rw [hy]
         exact hP c d hok hd (by omega) he
       ·rw [List.length_append]
        simp
        omega
      ·cases h
theorem q8o {m:Mch} {c:Cst} (h:Cok m c) (t:Ste):(qew c.s t).length≤6:=by
 have a:=qvi c.s t
 have b:=h.lie.ends.1
 omega
theorem zet {m:Mch} (hs:m.c.small=true) {l:List Prs} {u:Int} (h:(qik m l u).2=0):∃ lg,(qik m l u).1=lg∧qds m l u=0∧(qbb m.c).2.2=0∧(qjs m l u=some (.inr lg)∨qjs m l u=none∧lg=zLg∨qjs m l u=some (.inl 0)∧lg=zLg):=by
 unfold qik at h ⊢
 split at h
 ·rename_i h1; exact absurd h h1
 ·rename_i h1
  rw [if_neg h1]
  split at h
  ·rename_i h2; exact absurd h h2
  ·rename_i h2
   rw [if_neg h2]
   refine ⟨_,rfl,by simpa using h1,by simpa using h2,?_⟩
   cases hz:qjs m l u with
   | none=>exact .inr (.inl ⟨rfl,rfl⟩)
   | some x =>
    cases x with
    | inr lg=>exact .inl rfl
    | inl e =>
     rw [hz] at h
     simp only [zvm] at h
     subst h
     exact .inr (.inr ⟨rfl,rfl⟩)
theorem qsm {m:Mch} (hs:m.c.small=true) (l:List Prs) (u:Int):(qik m l u).1.ok:=by
 have hz:zLg.ok:=⟨by simp [zLg],by simp [zLg]⟩
 unfold qik
 split
 ·exact hz
 ·rename_i h1
  split
  ·exact hz
  ·rename_i h2
   have hg:qds m l u=0:=by simpa using h1
   have hst:(qbb m.c).2.2=0:=by simpa using h2
   unfold zvm
   split
   ·rename_i lg hc
    obtain ⟨g1,g2,g3,g4,g5⟩:=qey hg
    obtain ⟨r1,r2,r3,r4⟩:=q2w g5 (P:=fun y=>(y.e.kind=0∨y.e.kind=1∨y.e.kind=2)∧y.s.length≤1000) (fun c d hok hd _ _=>by
     have:=(hok.due d (qih hd)).2
     have hf:=q8o hok (qam m.c c.s d.e).1
     exact ⟨this.elim (fun h=>.inr (.inr h.1)) (fun h=>h.elim (fun h=>.inl h.1) fun h=>.inr (.inl h.1)),by simp only; omega⟩) _ _ _ _ _ (qxy hs hg hst) (by simp) (by simp) (qpg _) hc
    exact ⟨r2,r1⟩
   ·exact hz
   ·exact hz
def q6h (m:Mch) (l:List Prs) (u:Int):List Mov × Int:=if (qik m l u).2=0 then (qvz (qik m l u).1.en,0) else ([],(qik m l u).2)
theorem ev19 {m:Mch} (hs:m.c.small=true) (ht:m.ts.length≤100000) {l:List Prs} (hl:l.length≤100000) (u:Int):ev pg (.call (.fn 19 [] []) [m.v,prs l,num u] [])=some { v:=.tup [mvs (q6h m l u).1,num (q6h m l u).2],st:=⟨[],[]⟩ }:=by
 have e13:=ev13 hs ht hl u
 have hok:=qsm hs l u
 have hlp:=fun st=>z6s m (qik m l u).1 hok (st:=st)
 unfold q6h
 rw [qac,pg19]
 by_cases h:(qik m l u).2=0
 ·rw [if_pos h]
  rw [h] at e13
  generalize qvz (qik m l u).1.en=M at *
  generalize (qgo (qik m l u).1.en).2=L at *
  generalize (qik m l u).1=x at *
  simp [ir19,e13,qae]
  generalize hr:ev pg (.code (.going _ L19_1) _)=o
  obtain ⟨r,rfl,g,w,hw,f,hf,rfl⟩:∃ r,o=some r∧_:=by rw [← hr]; exact hlp _ (by simp [q3u,zez])
  clear hr
  rcases hw with rfl | ⟨rfl,rfl⟩
  ·simp [q3u]
  ·simp [q3u]
 ·rw [if_neg h]
  have hb:((qik m l u).2 == 0)=false:=by simpa using h
  generalize (qik m l u).2=e at *
  generalize (qik m l u).1=x at *
  simp [ir19,e13,h,hb]
end Go.Proofs.YtlhciedghbmjjaaGreat
namespace Go.Proofs.YtlhciedghbmjjaaGreat
open Go Go.Am Go.Proofs
set_option maxRecDepth 1000000
set_option maxHeartbeats 4000000
theorem z7c (a:List Mov) (ha:a.length≤4096) {st:St} (h0:At ([some (mvs a),some (mvs a),none,none,none,none,none,none,none,none,none,some (mvs a),some (num a.length),some (num 0)]++List.replicate 12 none) [] st) :
  ∃ r,ev pg (.code (.going 0 L38_0) st)=some r∧qai (.exit 0) ([some (mvs a),some (mvs a),none,none,none,none,none,none,none,none,none,some (mvs a),some (num a.length),some (num a.length)]++List.replicate 12 none) [] r:=by
 refine qdv a.length (fun k=>[some (mvs a),some (mvs a),none,none,none,none,none,none,none,none,none,some (mvs a),some (num a.length),some (num k)]++List.replicate 12 none) (fun _=>[]) _ ?_ ?_ h0
 ·intro k f hf hk
  have hk':(k:Int) < a.length:=by omega
  have wk:=qab (n:=(k:Int) + 1) (by omega) (by omega)
  simp [qaa,exT,qad,L38_0,hk,hk',wk,hf.ne]
 ·intro f hf
  simp [L38_0,hf.ne]
theorem ev38 (a:List Mov) (ha:a.length≤4096):ev pg (.call (.fn 38 [] []) [mvs a,mvs a] [])=some { v:=.bool true,st:=⟨[],[]⟩ }:=by
 have hl:=@z7c a ha
 rw [qac,pg38]
 simp [ir38,qae]
 generalize hr:ev pg (.code (.going _ L38_0) _)=o
 obtain ⟨r,rfl,f,hf,rfl⟩:∃ r,o=some r∧_:=by rw [← hr]; exact hl (by simp)
 simp
def smM:Mch:=⟨one,[(100,80)]⟩
def smA:Lg:=⟨[⟨10,⟨2,0,true⟩,[(0,true)]⟩,⟨110,⟨0,0,false⟩,[(0,false)]⟩,⟨190,⟨0,0,false⟩,[(0,true)]⟩,⟨290,⟨0,0,false⟩,[(0,false)]⟩],[],⟨[3],[false],[true],[false,true],[0,0]⟩⟩
def smB:Lg:=⟨[⟨10,⟨2,0,true⟩,[(0,true)]⟩,⟨110,⟨0,0,false⟩,[(0,false)]⟩,⟨150,⟨2,0,false⟩,[]⟩,⟨190,⟨0,0,false⟩,[]⟩],[],⟨[0],[false],[false],[false,true],[0,0]⟩⟩
def smV:List Mov:=[⟨0,true,10,110⟩,⟨0,false,110,190⟩,⟨0,true,190,290⟩,⟨0,false,290,noT⟩]
theorem sm1:qik smM [⟨10,0,true⟩] 300=(smA,0):=by kernel_rfl
theorem sm2:qik smM [⟨10,0,true⟩,⟨150,0,false⟩] 300=(smB,0):=by kernel_rfl
theorem sm3:qvz smA.en=smV:=by kernel_rfl
theorem sm0:smM.c.small=true:=zqc
def zpm (k:Nat):Tm:=[some (.bool false),some (.bptr 5 0),some (.immc [[num 10,num 0,.bool true]]),some (.bptr 13 0),none,some (mvs smV)]++List.replicate 39 none++[some (.imm [[num 10],[num 110],[num 190],[num 290]]),some (num 4),some (num k)]++List.replicate 86 none
abbrev zyx:H:=[o0s,o0s,o0s,o0s,o0s,⟨0,.box smM.cells⟩,o0s,o0s,o0s,o0s,o0s,o0s,o0s,⟨0,.box smA.cells⟩]
theorem z4a {st:St} (h0:At (zpm 0) zyx st):∃ r,ev pg (.code (.going 14 L12_0) st)=some r∧qai (.exit 0) (zpm 4) zyx r:=by
 refine qdv 4 zpm (fun _=>zyx) _ ?_ ?_ h0
 ·intro k f hf hk
  have hk4:k=0∨k=1∨k=2∨k=3:=by omega
  have w1:IntKind.i64.wrap 1=1:=by decide
  have w2:IntKind.i64.wrap 2=2:=by decide
  have w3:IntKind.i64.wrap 3=3:=by decide
  have w4:IntKind.i64.wrap 4=4:=by decide
  rcases hk4 with rfl | rfl | rfl | rfl <;> simp [zpm,L12_0,smA,w1,w2,w3,w4,hf.ne]
 ·intro f hf
  simp [zpm,L12_0,hf.ne]
end Go.Proofs.YtlhciedghbmjjaaGreat
namespace Go.Proofs.YtlhciedghbmjjaaGreat
open Go Go.Am Go.Proofs
set_option maxRecDepth 1000000
set_option maxHeartbeats 4000000
abbrev smX:V:=.agg [num one.act,.imm (one.inputs.map q6l),.imm (one.signals.map Sg.row),qbw one.plus,qbw one.minus,.imm [[.int .i64 100,.int .i64 80]]]
theorem ev12:ev pg (.call (.fn 12 [] []) [] [])=some { v:=.bool true,st:=⟨[],[]⟩ }:=by
 have e13a:ev pg (.call (.fn 13 [] []) [smX,.imm [[.int .i64 10,.int .i64 0,.bool true]],.int .i64 300] [])=some { v:=.tup [smA.v,num 0],st:=⟨[],[]⟩ }:=by
  have e:=ev13 (m:=smM) sm0 (by simp [smM]) (l:=[⟨10,0,true⟩]) (by simp) 300
  rw [sm1] at e
  exact e
 have e13b:ev pg (.call (.fn 13 [] []) [smX,.imm [[.int .i64 10,.int .i64 0,.bool true],[.int .i64 150,.int .i64 0,.bool false]],.int .i64 300] [])=some { v:=.tup [smB.v,num 0],st:=⟨[],[]⟩ }:=by
  have e:=ev13 (m:=smM) sm0 (by simp [smM]) (l:=[⟨10,0,true⟩,⟨150,0,false⟩]) (by simp) 300
  rw [sm2] at e
  exact e
 have e19:ev pg (.call (.fn 19 [] []) [smX,.imm [[.int .i64 10,.int .i64 0,.bool true]],.int .i64 300] [])=some { v:=.tup [mvs smV,num 0],st:=⟨[],[]⟩ }:=by
  have e:=ev19 (m:=smM) sm0 (by simp [smM]) (l:=[⟨10,0,true⟩]) (by simp) 300
  unfold q6h at e
  rw [sm1] at e
  simp only [if_true] at e
  rw [sm3] at e
  exact e
 have e38:ev pg (.call (.fn 38 [] []) [mvs smV,.imm [[.int .i64 0,.bool true,.int .i64 10,.int .i64 110],[.int .i64 0,.bool false,.int .i64 110,.int .i64 190],[.int .i64 0,.bool true,.int .i64 190,.int .i64 290],[.int .i64 0,.bool false,.int .i64 290,.int .i64 (-1099511627776)]]] [])=some { v:=.bool true,st:=⟨[],[]⟩ }:=ev38 smV (by simp [smV])
 have w0:IntKind.i64.wrap 0=0:=by decide
 have e37:=ev37
 have l1:(smA.en.length:Int)=4:=rfl
 have l2:(smA.cf.length:Int)=0:=rfl
 rw [qac,pg12]
 simp [ir12,e37,e13a,e19,l1,l2,w0,qae]
 generalize hr:ev pg (.code (.going _ L12_0) _)=o
 obtain ⟨r,rfl,f,hf,rfl⟩:∃ r,o=some r∧_:=by
  rw [← hr]
  refine z4a ?_
  simp [zpm]
  exact ⟨rfl,rfl,rfl,rfl,rfl,rfl⟩
 clear hr
 have c0:smM.cells=[num one.act,.imm (one.inputs.map q6l),.imm (one.signals.map Sg.row),qbw one.plus,qbw one.minus,.imm [[.int .i64 100,.int .i64 80]]]:=rfl
 simp only [zyx,c0]
 simp [qaa,exT,qad,zpm,e38,e13b,smB]
set_option maxHeartbeats 4000000
abbrev evR (en:List Ent):List Evn:=en.map Ent.e
theorem q5x {α:Type} {l:List α} {k:Nat} (hk:k < l.length):l.take (k + 1)=l.take k++[l[k]]:=List.take_succ_eq_append_getElem hk
theorem q6d {α:Type} {l:List α} {k:Nat} (hk:k≤l.length):(l.take k).length=k:=by rw [List.length_take]; omega
def zgd (en:List Ent) (D:List Ent) (g w k:Nat):Tm:=[none,some (.bptr 0 0),none,some (.sl 2 g w 0 D.length),none,none,none,some (zeq en),some (num en.length),some (num k)]++List.replicate 10 none
abbrev zuc (x:Lg) (D:List Ent) (g w:Nat):H:=[⟨0,.box x.cells⟩,o0s,⟨g,.arr w (D.map fun y=>y.e.row)⟩]
theorem z4d (x:Lg) (hx:x.en.length≤100000) {st:St} (h0:At (zgd x.en [] 0 0 0) (zuc x [] 0 0) st):∃ r,ev pg (.code (.going 3 L27_0) st)=some r∧∃ g w,qai (.exit 0) (zgd x.en x.en g w x.en.length) (zuc x x.en g w) r:=by
 refine qco (α:=Nat × Nat) x.en.length (fun k a=>zgd x.en (x.en.take k) a.1 a.2 k) (fun k a=>zuc x (x.en.take k) a.1 a.2) (fun _ a=>a.2=3∨a.2=0) _ ?_ ?_ (0,0) (.inr rfl) h0
 ·rintro k ⟨g,w⟩ f hf hk hw
  have hk':(k:Int) < x.en.length:=by omega
  have wk:=qab (n:=(k:Int) + 1) (by omega) (by omega)
  have ht:=q5x hk
  have hl:=q6d (l:=x.en) (k:=k) (by omega)
  generalize x.en.take (k + 1)=D' at *
  generalize x.en.take k=D at *
  subst ht
  have hap:(D.length + 1) * 24≤140737488355328:=by omega
  refine (?_:∃ st,ev pg (.code L27_0 ⟨fill f 0 (zgd x.en D g w k),zuc x D g w⟩)=some { st:=st }∧At (zgd x.en (D++[x.en[k]]) (g + 1) 3 (k + 1)) (zuc x (D++[x.en[k]]) (g + 1) 3) (qok 3 st)).elim fun st h=>⟨_,h.1,.inl ⟨rfl,(g + 1,3),.inl rfl,h.2⟩⟩
  rcases hw with h | h <;> (simp only at h; subst h; simp [zgd,L27_0,hk,hk',wk,hap,hf.ne])
 ·rintro ⟨g,w⟩ f hf hw
  rw [List.take_length]
  simp [zgd,L27_0,hf.ne]
theorem ev27 (x:Lg) (hx:x.en.length≤100000):ev pg (.call (.fn 27 [] []) [x.v] [])=some { v:=evs (evR x.en),st:=⟨[],[]⟩ }:=by
 have hl:=fun st=>z4d x hx (st:=st)
 rw [qac,pg27]
 simp [ir27,qae]
 generalize hr:ev pg (.code (.going _ L27_0) _)=o
 obtain ⟨r,rfl,g,w,f,hf,rfl⟩:∃ r,o=some r∧_:=by rw [← hr]; exact hl _ (by simp [zgd])
 clear hr
 simp [zgd]
 try rfl
def zhz (en:List Ent) (k:Nat):Tm:=[none,some (.bptr 0 0),some (.bptr 8 0),some (.bptr 16 0)]++List.replicate 8 none++[some (zeq en),some (num en.length),some (num k)]++List.replicate 11 none
abbrev ztp (x:Lg) (D:List Ent) (g w:Nat):H:=[⟨0,.box x.cells⟩,o0s,o0s,o0s,o0s,o0s,o0s,o0s,⟨0,.box [.sl 1 0 0 0 0,.sl 2 0 0 0 0,.sl 3 0 0 0 0,.sl 4 0 0 0 0,.sl 5 0 0 0 0,.sl 6 0 0 0 0,.sl 7 0 0 0 0]⟩,o0s,o0s,o0s,o0s,o0s,o0s,o0s,
 ⟨0,.box [.sl 17 g w 0 D.length,qbw x.cf,qbw x.st.ends,qdf x.st.valves,qdf x.st.inputs,qdf x.st.values,qbw x.st.timers]⟩,⟨g,.arr w (D.map Ent.row)⟩]
theorem z6p (x:Lg) (hx:x.en.length≤100000) {st:St} (h0:At (zhz x.en 0) (ztp x [] 0 0) st):∃ r,ev pg (.code (.going 18 L18_0) st)=some r∧∃ g w,qai (.exit 0) (zhz x.en x.en.length) (ztp x x.en g w) r:=by
 refine qco (α:=Nat × Nat) x.en.length (fun k a=>zhz x.en k) (fun k a=>ztp x (x.en.take k) a.1 a.2) (fun _ a=>a.2=5∨a.2=0) _ ?_ ?_ (0,0) (.inr rfl) h0
 ·rintro k ⟨g,w⟩ f hf hk hw
  have hk':(k:Int) < x.en.length:=by omega
  have wk:=qab (n:=(k:Int) + 1) (by omega) (by omega)
  have ht:=q5x hk
  have hl:=q6d (l:=x.en) (k:=k) (by omega)
  generalize x.en.take (k + 1)=D' at *
  generalize x.en.take k=D at *
  subst ht
  have hap:(D.length + 1) * 56≤140737488355328:=by omega
  refine (?_:∃ st,ev pg (.code L18_0 ⟨fill f 0 (zhz x.en k),ztp x D g w⟩)=some { st:=st }∧At (zhz x.en (k + 1)) (ztp x (D++[x.en[k]]) (g + 1) 5) (qok 18 st)).elim fun st h=>⟨_,h.1,.inl ⟨rfl,(g + 1,5),.inl rfl,h.2⟩⟩
  rcases hw with h | h <;> (simp only at h; subst h; simp [zhz,L18_0,hk,hk',wk,hap,hf.ne])
 ·rintro ⟨g,w⟩ f hf hw
  rw [List.take_length]
  simp [zhz,L18_0,hf.ne]
theorem ev18 (x:Lg) (hx:x.en.length≤100000):ev pg (.call (.fn 18 [] []) [x.v] [])=some { v:=x.v,st:=⟨[],[]⟩ }:=by
 have hl:=fun st=>z6p x hx (st:=st)
 rw [qac,pg18]
 simp [ir18,qae]
 generalize hr:ev pg (.code (.going _ L18_0) _)=o
 obtain ⟨r,rfl,g,w,f,hf,rfl⟩:∃ r,o=some r∧_:=by rw [← hr]; exact hl _ (by simp [zhz])
 clear hr
 simp [zhz]
@[simp] theorem zes (l:List Ent):qvj (l.map Ent.row) (l.map Ent.row)=true:=qhz (fun x=>by simp [qub]; exact qhz (fun x=>by simp) x.s) l
set_option maxHeartbeats 4000000
theorem qyd {α:Type} {l:List α} {k:Nat} (hk:k < l.length):l.take (k + 1)=l.take k++[l[k]]:=List.take_succ_eq_append_getElem hk
theorem zcb {α:Type} {l:List α} {k:Nat} (hk:k≤l.length):(l.take k).length=k:=by rw [List.length_take]; omega
def zfg (ts D:List (Int × Int)) (g w k:Nat):Tm:=[none,some (.bptr 0 0),some (.bptr 6 0),some (.bptr 12 0)]++List.replicate 6 none++[some (tms ts),some (num ts.length),some (num k)]++List.replicate 11 none
abbrev ztj (m:Mch) (D:List (Int × Int)) (g w:Nat):H:=[⟨0,.box m.cells⟩,⟨0,.arr 0 []⟩,⟨0,.arr 0 []⟩,⟨0,.arr 0 []⟩,⟨0,.arr 0 []⟩,⟨0,.arr 0 []⟩,⟨0,.box [num 0,.sl 1 0 0 0 0,.sl 2 0 0 0 0,.sl 3 0 0 0 0,.sl 4 0 0 0 0,.sl 5 0 0 0 0]⟩,⟨0,.arr 0 []⟩,⟨0,.arr 0 []⟩,⟨0,.arr 0 []⟩,⟨0,.arr 0 []⟩,⟨0,.arr 0 []⟩,
 ⟨0,.box [num m.c.act,.imm (m.c.inputs.map q6l),.imm (m.c.signals.map Sg.row),qbw m.c.plus,qbw m.c.minus,.sl 13 g w 0 D.length]⟩,⟨g,.arr w (D.map zwm)⟩]
theorem z2v (m:Mch) (hx:m.ts.length * 16≤140737488355328) {st:St} (h0:At (zfg m.ts [] 0 0 0) (ztj m [] 0 0) st):∃ r,ev pg (.code (.going 14 L10_0) st)=some r∧∃ g w,qai (.exit 0) (zfg m.ts m.ts g w m.ts.length) (ztj m m.ts g w) r:=by
 refine qco (α:=Nat × Nat) m.ts.length (fun k a=>zfg m.ts (m.ts.take k) a.1 a.2 k) (fun k a=>ztj m (m.ts.take k) a.1 a.2) (fun _ a=>a.2=2∨a.2=0) _ ?_ ?_ (0,0) (.inr rfl) h0
 ·rintro k ⟨g,w⟩ f hf hk hw
  have hk':(k:Int) < m.ts.length:=by omega
  have wk:=qab (n:=(k:Int) + 1) (by omega) (by omega)
  have ht:=qyd hk
  have hl:=zcb (l:=m.ts) (k:=k) (by omega)
  generalize m.ts.take (k + 1)=D' at *
  generalize m.ts.take k=D at *
  subst ht
  have hap:(D.length + 1) * 16≤140737488355328:=by omega
  refine (?_:∃ st,ev pg (.code L10_0 ⟨fill f 0 (zfg m.ts D g w k),ztj m D g w⟩)=some { st:=st }∧At (zfg m.ts (D++[m.ts[k]]) (g + 1) 2 (k + 1)) (ztj m (D++[m.ts[k]]) (g + 1) 2) (qok 14 st)).elim fun st h=>⟨_,h.1,.inl ⟨rfl,(g + 1,2),.inl rfl,h.2⟩⟩
  rcases hw with h | h <;> (simp only at h; subst h; simp [zfg,L10_0,hk,hk',wk,hap,hf.ne])
 ·rintro ⟨g,w⟩ f hf hw
  rw [List.take_length]
  simp [zfg,L10_0,hf.ne]
theorem ev10 (m:Mch) (hx:m.ts.length * 16≤140737488355328):ev pg (.call (.fn 10 [] []) [m.v] [])=some { v:=m.v,st:=⟨[],[]⟩ }:=by
 have hl:=fun st=>z2v m hx (st:=st)
 rw [qac,pg10]
 simp [ir10,qae]
 generalize hr:ev pg (.code (.going _ L10_0) _)=o
 obtain ⟨r,rfl,g,w,f,hf,rfl⟩:∃ r,o=some r∧_:=by rw [← hr]; exact hl _ (by simp [zfg])
 clear hr
 simp [zfg]
def zfb (l D:List Prs) (g w k:Nat):Tm:=[none,none,none,some (.sl 1 g w 0 D.length),none,none,some (prs l),some (num l.length),some (num k)]++List.replicate 9 none
abbrev zvg (D:List Prs) (g w:Nat):H:=[⟨0,.arr 0 []⟩,⟨g,.arr w (D.map Prs.row)⟩]
theorem z5x (l:List Prs) (hx:l.length * 24≤140737488355328) {st:St} (h0:At (zfb l [] 0 0 0) (zvg [] 0 0) st):∃ r,ev pg (.code (.going 2 L11_0) st)=some r∧∃ g w,qai (.exit 0) (zfb l l g w l.length) (zvg l g w) r:=by
 refine qco (α:=Nat × Nat) l.length (fun k a=>zfb l (l.take k) a.1 a.2 k) (fun k a=>zvg (l.take k) a.1 a.2) (fun _ a=>a.2=3∨a.2=0) _ ?_ ?_ (0,0) (.inr rfl) h0
 ·rintro k ⟨g,w⟩ f hf hk hw
  have hk':(k:Int) < l.length:=by omega
  have wk:=qab (n:=(k:Int) + 1) (by omega) (by omega)
  have ht:=qyd hk
  have hl:=zcb (l:=l) (k:=k) (by omega)
  generalize l.take (k + 1)=D' at *
  generalize l.take k=D at *
  subst ht
  have hap:(D.length + 1) * 24≤140737488355328:=by omega
  refine (?_:∃ st,ev pg (.code L11_0 ⟨fill f 0 (zfb l D g w k),zvg D g w⟩)=some { st:=st }∧At (zfb l (D++[l[k]]) (g + 1) 3 (k + 1)) (zvg (D++[l[k]]) (g + 1) 3) (qok 2 st)).elim fun st h=>⟨_,h.1,.inl ⟨rfl,(g + 1,3),.inl rfl,h.2⟩⟩
  rcases hw with h | h <;> (simp only at h; subst h; simp [zfb,L11_0,hk,hk',wk,hap,hf.ne])
 ·rintro ⟨g,w⟩ f hf hw
  rw [List.take_length]
  simp [zfb,L11_0,hf.ne]
theorem ev11 (l:List Prs) (hx:l.length * 24≤140737488355328):ev pg (.call (.fn 11 [] []) [prs l] [])=some { v:=prs l,st:=⟨[],[]⟩ }:=by
 have hl:=fun st=>z5x l hx (st:=st)
 rw [qac,pg11]
 simp [ir11,qae]
 generalize hr:ev pg (.code (.going _ L11_0) _)=o
 obtain ⟨r,rfl,g,w,f,hf,rfl⟩:∃ r,o=some r∧_:=by rw [← hr]; exact hl _ (by simp [zfb])
 clear hr
 simp [zfb]
 try rfl
def Mch.few (m:Mch):Bool:=m.c.few && decide (m.ts.length≤40)
theorem ev35 (m:Mch):ev pg (.call (.fn 35 [] []) [m.v] [])=some { v:=.bool m.few,st:=⟨[],[]⟩ }:=by
 have e62:=ev62 m.c
 rw [qac,pg35]
 unfold Mch.few
 generalize m.c.few=b at *
 have hl:(decide ((m.ts.length:Int)≤40))=decide (m.ts.length≤40):=by rw [Bool.eq_iff_iff]; simp only [decide_eq_true_eq]; omega
 cases b
 ·simp [ir35,e62]
 ·by_cases h:m.ts.length≤40
  ·have h':(m.ts.length:Int)≤40:=by omega
   simp [ir35,e62,h,h']
  ·have h':¬ (m.ts.length:Int)≤40:=by omega
   simp [ir35,e62,h,h']
end Go.Proofs.YtlhciedghbmjjaaGreat
