/- Moves, by the program. The examples of the law of machines in time. The examples of the law of machines in time: they are right. The law SimulateEvents, in Am: it returns true. -/
import Derived.Test.YtlhciedghbmjjaaGreatSi14
import Derived.KernelRfl
import Derived.Test.YtlhciedghbmjjaaGreatBg1
set_option linter.all false
namespace Go.Proofs.YtlhciedghbmjjaaGreat
open Go Go.Am Go.Proofs
set_option maxRecDepth 100000
set_option maxHeartbeats 4000000
theorem goS_all {m:Mch} {u:Int} (hu:u≤1000000) {P:Ent→Prop} (hP:∀ c d,Cok m c→nxD m c=some d→d.t≤u→(afterV m.c c.s d.e).2.2=0→P ⟨d.t,d.e,freshV c.s (afterV m.c c.s d.e).1⟩) :
  ∀ (f:Nat) (c:Cst) (En:List Ent) (C:List Int) (lg:Lg),Cok m c→(∀ y ∈ En,P y)→En.length≤4096→Lin (allN m.c) C→goS m u f c En C=some (.inr lg)→(∀ y ∈ lg.en,P y)∧lg.en.length≤4096∧Lie m.c lg.st∧Lin (allN m.c) lg.cf
 | 0,_,_,_,_,_,_,_,_,h=>by cases h
 | f + 1,c,En,C,lg,hok,hE,hn,hC,h=>by
  unfold goS at h
  split at h
  ·cases h
   exact ⟨hE,hn,hok.lie,hC⟩
  ·rename_i d hd
   split at h
   ·cases h
    exact ⟨hE,hn,hok.lie,hC⟩
   ·rename_i hut
    split at h
    ·exact goS_all hu hP f _ _ _ _ hok.drop hE hn hC h
    ·split at h
     ·cases h
     ·rename_i h4
      split at h
      ·rename_i he
       refine goS_all hu hP f _ _ _ _ (hok.go hd (by omega) he) ?_ ?_ (Lin.norm _ _) h
       ·intro y hy
        rcases List.mem_append.1 hy with hy | hy
        ·exact hE y hy
        ·rw [List.mem_singleton] at hy
         rw [hy]
         exact hP c d hok hd (by omega) he
       ·rw [List.length_append]
        simp
        omega
      ·cases h
theorem freshV_few {m:Mch} {c:Cst} (h:Cok m c) (t:Ste):(freshV c.s t).length≤6:=by
 have a:=freshV_len c.s t
 have b:=h.lie.ends.1
 omega
theorem runS_ok {m:Mch} (hs:m.c.small=true) (l:List Prs) (u:Int):(runS m l u).1.ok:=by
 have hz:zLg.ok:=⟨by simp [zLg],by simp [zLg]⟩
 unfold runS
 split
 ·exact hz
 ·rename_i h1
  split
  ·exact hz
  ·rename_i h2
   have hg:givenE m l u=0:=by simpa using h1
   have hst:(startR m.c).2.2=0:=by simpa using h2
   unfold outC
   split
   ·rename_i lg hc
    obtain ⟨g1,g2,g3,g4,g5⟩:=given_zero hg
    obtain ⟨r1,r2,r3,r4⟩:=goS_all g5 (P:=fun y=>(y.e.kind=0∨y.e.kind=1∨y.e.kind=2)∧y.s.length≤1000) (fun c d hok hd _ _=>by
     have:=(hok.due d (nextD_mem hd)).2
     have hf:=freshV_few hok (afterV m.c c.s d.e).1
     exact ⟨this.elim (fun h=>.inr (.inr h.1)) (fun h=>h.elim (fun h=>.inl h.1) fun h=>.inr (.inl h.1)),by simp only; omega⟩) _ _ _ _ _ (begin_ok hs hg hst) (by simp) (by simp) (startR_lin _) hc
    exact ⟨r2,r1⟩
   ·exact hz
   ·exact hz
def movesR (m:Mch) (l:List Prs) (u:Int):List Mov × Int:=if (runS m l u).2=0 then (movesL (runS m l u).1.en,0) else ([],(runS m l u).2)
theorem ev19 {m:Mch} (hs:m.c.small=true) (ht:m.ts.length≤100000) {l:List Prs} (hl:l.length≤100000) (u:Int):ev pg (.call (.fn 19 [] []) [m.v,prs l,num u] [])=some { v:=.tup [mvs (movesR m l u).1,num (movesR m l u).2],st:=⟨[],[]⟩ }:=by
 have e13:=ev13 hs ht hl u
 have hok:=runS_ok hs l u
 have hlp:=fun st=>ylp19 m (runS m l u).1 hok (st:=st)
 unfold movesR
 rw [ev_call,pg19]
 by_cases h:(runS m l u).2=0
 ·rw [if_pos h]
  rw [h] at e13
  generalize movesL (runS m l u).1.en=M at *
  generalize (movesZ (runS m l u).1.en).2=L at *
  generalize (runS m l u).1=x at *
  simp [ir19,e13,ev_loop]
  generalize hr:ev pg (.code (.going _ L19_1) _)=o
  obtain ⟨r,rfl,g,w,hw,f,hf,rfl⟩:∃ r,o=some r∧_:=by rw [← hr]; exact hlp _ (by simp [yT19,latE])
  clear hr
  rcases hw with rfl | ⟨rfl,rfl⟩
  ·simp [yT19]
  ·simp [yT19]
 ·rw [if_neg h]
  have hb:((runS m l u).2 == 0)=false:=by simpa using h
  generalize (runS m l u).2=e at *
  generalize (runS m l u).1=x at *
  simp [ir19,e13,h,hb]
end Go.Proofs.YtlhciedghbmjjaaGreat
namespace Go.Proofs.YtlhciedghbmjjaaGreat
open Go Go.Am Go.Proofs
set_option maxRecDepth 1000000
set_option maxHeartbeats 4000000
theorem evl38 (a:List Mov) (ha:a.length≤4096) {st:St} (h0:At ([some (mvs a),some (mvs a),none,none,none,none,none,none,none,none,none,some (mvs a),some (num a.length),some (num 0)]++List.replicate 12 none) [] st) :
  ∃ r,ev pg (.code (.going 0 L38_0) st)=some r∧EndsAs (.exit 0) ([some (mvs a),some (mvs a),none,none,none,none,none,none,none,none,none,some (mvs a),some (num a.length),some (num a.length)]++List.replicate 12 none) [] r:=by
 refine loop_pic a.length (fun k=>[some (mvs a),some (mvs a),none,none,none,none,none,none,none,none,none,some (mvs a),some (num a.length),some (num k)]++List.replicate 12 none) (fun _=>[]) _ ?_ ?_ h0
 ·intro k f hf hk
  have hk':(k:Int) < a.length:=by omega
  have wk:=wrap_id (n:=(k:Int) + 1) (by omega) (by omega)
  simp [ev_draw1,exT,chkOk,L38_0,hk,hk',wk,hf.ne]
 ·intro f hf
  simp [L38_0,hf.ne]
theorem ev38 (a:List Mov) (ha:a.length≤4096):ev pg (.call (.fn 38 [] []) [mvs a,mvs a] [])=some { v:=.bool true,st:=⟨[],[]⟩ }:=by
 have hl:=@evl38 a ha
 rw [ev_call,pg38]
 simp [ir38,ev_loop]
 generalize hr:ev pg (.code (.going _ L38_0) _)=o
 obtain ⟨r,rfl,f,hf,rfl⟩:∃ r,o=some r∧_:=by rw [← hr]; exact hl (by simp)
 simp
def smM:Mch:=⟨one,[(100,80)]⟩
def smA:Lg:=⟨[⟨10,⟨2,0,true⟩,[(0,true)]⟩,⟨110,⟨0,0,false⟩,[(0,false)]⟩,⟨190,⟨0,0,false⟩,[(0,true)]⟩,⟨290,⟨0,0,false⟩,[(0,false)]⟩],[],⟨[3],[false],[true],[false,true],[0,0]⟩⟩
def smB:Lg:=⟨[⟨10,⟨2,0,true⟩,[(0,true)]⟩,⟨110,⟨0,0,false⟩,[(0,false)]⟩,⟨150,⟨2,0,false⟩,[]⟩,⟨190,⟨0,0,false⟩,[]⟩],[],⟨[0],[false],[false],[false,true],[0,0]⟩⟩
def smV:List Mov:=[⟨0,true,10,110⟩,⟨0,false,110,190⟩,⟨0,true,190,290⟩,⟨0,false,290,noT⟩]
theorem sm1:runS smM [⟨10,0,true⟩] 300=(smA,0):=by kernel_rfl
theorem sm2:runS smM [⟨10,0,true⟩,⟨150,0,false⟩] 300=(smB,0):=by kernel_rfl
theorem sm3:movesL smA.en=smV:=by kernel_rfl
theorem sm0:smM.c.small=true:=one_few
def yT12 (k:Nat):Tm:=[some (.bool false),some (.bptr 5 0),some (.immc [[num 10,num 0,.bool true]]),some (.bptr 13 0),none,some (mvs smV)]++List.replicate 39 none++[some (.imm [[num 10],[num 110],[num 190],[num 290]]),some (num 4),some (num k)]++List.replicate 86 none
abbrev yh12:H:=[o0s,o0s,o0s,o0s,o0s,⟨0,.box smM.cells⟩,o0s,o0s,o0s,o0s,o0s,o0s,o0s,⟨0,.box smA.cells⟩]
theorem ylp12 {st:St} (h0:At (yT12 0) yh12 st):∃ r,ev pg (.code (.going 14 L12_0) st)=some r∧EndsAs (.exit 0) (yT12 4) yh12 r:=by
 refine loop_pic 4 yT12 (fun _=>yh12) _ ?_ ?_ h0
 ·intro k f hf hk
  have hk4:k=0∨k=1∨k=2∨k=3:=by omega
  have w1:IntKind.i64.wrap 1=1:=by decide
  have w2:IntKind.i64.wrap 2=2:=by decide
  have w3:IntKind.i64.wrap 3=3:=by decide
  have w4:IntKind.i64.wrap 4=4:=by decide
  rcases hk4 with rfl | rfl | rfl | rfl <;> simp [yT12,L12_0,smA,w1,w2,w3,w4,hf.ne]
 ·intro f hf
  simp [yT12,L12_0,hf.ne]
end Go.Proofs.YtlhciedghbmjjaaGreat
namespace Go.Proofs.YtlhciedghbmjjaaGreat
open Go Go.Am Go.Proofs
set_option maxRecDepth 1000000
set_option maxHeartbeats 4000000
abbrev smX:V:=.agg [num one.act,.imm (one.inputs.map srow),.imm (one.signals.map Sg.row),ints one.plus,ints one.minus,.imm [[.int .i64 100,.int .i64 80]]]
theorem ev12:ev pg (.call (.fn 12 [] []) [] [])=some { v:=.bool true,st:=⟨[],[]⟩ }:=by
 have e13a:ev pg (.call (.fn 13 [] []) [smX,.imm [[.int .i64 10,.int .i64 0,.bool true]],.int .i64 300] [])=some { v:=.tup [smA.v,num 0],st:=⟨[],[]⟩ }:=by
  have e:=ev13 (m:=smM) sm0 (by simp [smM]) (l:=[⟨10,0,true⟩]) (by simp) 300
  rw [sm1] at e
  exact e
 have e13b:ev pg (.call (.fn 13 [] []) [smX,.imm [[.int .i64 10,.int .i64 0,.bool true],[.int .i64 150,.int .i64 0,.bool false]],.int .i64 300] [])=some { v:=.tup [smB.v,num 0],st:=⟨[],[]⟩ }:=by
  have e:=ev13 (m:=smM) sm0 (by simp [smM]) (l:=[⟨10,0,true⟩,⟨150,0,false⟩]) (by simp) 300
  rw [sm2] at e
  exact e
 have e19:ev pg (.call (.fn 19 [] []) [smX,.imm [[.int .i64 10,.int .i64 0,.bool true]],.int .i64 300] [])=some { v:=.tup [mvs smV,num 0],st:=⟨[],[]⟩ }:=by
  have e:=ev19 (m:=smM) sm0 (by simp [smM]) (l:=[⟨10,0,true⟩]) (by simp) 300
  unfold movesR at e
  rw [sm1] at e
  simp only [if_true] at e
  rw [sm3] at e
  exact e
 have e38:ev pg (.call (.fn 38 [] []) [mvs smV,.imm [[.int .i64 0,.bool true,.int .i64 10,.int .i64 110],[.int .i64 0,.bool false,.int .i64 110,.int .i64 190],[.int .i64 0,.bool true,.int .i64 190,.int .i64 290],[.int .i64 0,.bool false,.int .i64 290,.int .i64 (-1099511627776)]]] [])=some { v:=.bool true,st:=⟨[],[]⟩ }:=ev38 smV (by simp [smV])
 have w0:IntKind.i64.wrap 0=0:=by decide
 have e37:=ev37
 have l1:(smA.en.length:Int)=4:=rfl
 have l2:(smA.cf.length:Int)=0:=rfl
 rw [ev_call,pg12]
 simp [ir12,e37,e13a,e19,l1,l2,w0,ev_loop]
 generalize hr:ev pg (.code (.going _ L12_0) _)=o
 obtain ⟨r,rfl,f,hf,rfl⟩:∃ r,o=some r∧_:=by
  rw [← hr]
  refine ylp12 ?_
  simp [yT12]
  exact ⟨rfl,rfl,rfl,rfl,rfl,rfl⟩
 clear hr
 have c0:smM.cells=[num one.act,.imm (one.inputs.map srow),.imm (one.signals.map Sg.row),ints one.plus,ints one.minus,.imm [[.int .i64 100,.int .i64 80]]]:=rfl
 simp only [yh12,c0]
 simp [ev_draw1,exT,chkOk,yT12,e38,e13b,smB]
set_option maxHeartbeats 4000000
abbrev evR (en:List Ent):List Evn:=en.map Ent.e
theorem take_row {α:Type} {l:List α} {k:Nat} (hk:k < l.length):l.take (k + 1)=l.take k++[l[k]]:=List.take_succ_eq_append_getElem hk
theorem take_len {α:Type} {l:List α} {k:Nat} (hk:k≤l.length):(l.take k).length=k:=by rw [List.length_take]; omega
def yT27 (en:List Ent) (D:List Ent) (g w k:Nat):Tm:=[none,some (.bptr 0 0),none,some (.sl 2 g w 0 D.length),none,none,none,some (ents en),some (num en.length),some (num k)]++List.replicate 10 none
abbrev yh27 (x:Lg) (D:List Ent) (g w:Nat):H:=[⟨0,.box x.cells⟩,o0s,⟨g,.arr w (D.map fun y=>y.e.row)⟩]
theorem ylp27 (x:Lg) (hx:x.en.length≤100000) {st:St} (h0:At (yT27 x.en [] 0 0 0) (yh27 x [] 0 0) st):∃ r,ev pg (.code (.going 3 L27_0) st)=some r∧∃ g w,EndsAs (.exit 0) (yT27 x.en x.en g w x.en.length) (yh27 x x.en g w) r:=by
 refine loop_at (α:=Nat × Nat) x.en.length (fun k a=>yT27 x.en (x.en.take k) a.1 a.2 k) (fun k a=>yh27 x (x.en.take k) a.1 a.2) (fun _ a=>a.2=3∨a.2=0) _ ?_ ?_ (0,0) (.inr rfl) h0
 ·rintro k ⟨g,w⟩ f hf hk hw
  have hk':(k:Int) < x.en.length:=by omega
  have wk:=wrap_id (n:=(k:Int) + 1) (by omega) (by omega)
  have ht:=take_row hk
  have hl:=take_len (l:=x.en) (k:=k) (by omega)
  generalize x.en.take (k + 1)=D' at *
  generalize x.en.take k=D at *
  subst ht
  have hap:(D.length + 1) * 24≤140737488355328:=by omega
  refine (?_:∃ st,ev pg (.code L27_0 ⟨fill f 0 (yT27 x.en D g w k),yh27 x D g w⟩)=some { st:=st }∧At (yT27 x.en (D++[x.en[k]]) (g + 1) 3 (k + 1)) (yh27 x (D++[x.en[k]]) (g + 1) 3) (cutS 3 st)).elim fun st h=>⟨_,h.1,.inl ⟨rfl,(g + 1,3),.inl rfl,h.2⟩⟩
  rcases hw with h | h <;> (simp only at h; subst h; simp [yT27,L27_0,hk,hk',wk,hap,hf.ne])
 ·rintro ⟨g,w⟩ f hf hw
  rw [List.take_length]
  simp [yT27,L27_0,hf.ne]
theorem ev27 (x:Lg) (hx:x.en.length≤100000):ev pg (.call (.fn 27 [] []) [x.v] [])=some { v:=evs (evR x.en),st:=⟨[],[]⟩ }:=by
 have hl:=fun st=>ylp27 x hx (st:=st)
 rw [ev_call,pg27]
 simp [ir27,ev_loop]
 generalize hr:ev pg (.code (.going _ L27_0) _)=o
 obtain ⟨r,rfl,g,w,f,hf,rfl⟩:∃ r,o=some r∧_:=by rw [← hr]; exact hl _ (by simp [yT27])
 clear hr
 simp [yT27]
 try rfl
def yT28 (D:List Ent) (g w k:Nat):Tm:=[none,some (.bptr 0 0),none,some (.sl 2 g w 0 D.length),some (num k)]++List.replicate 17 none
theorem ylp28 (x:Lg) (hx:x.en.length≤100000) {st:St} (h0:At (yT28 [] 0 0 0) (yh27 x [] 0 0) st):∃ r,ev pg (.code (.going 3 L28_0) st)=some r∧∃ g w,EndsAs (.exit 0) (yT28 x.en g w x.en.length) (yh27 x x.en g w) r:=by
 refine loop_at (α:=Nat × Nat) x.en.length (fun k a=>yT28 (x.en.take k) a.1 a.2 k) (fun k a=>yh27 x (x.en.take k) a.1 a.2) (fun _ a=>a.2=3∨a.2=0) _ ?_ ?_ (0,0) (.inr rfl) h0
 ·rintro k ⟨g,w⟩ f hf hk hw
  have hk':(k:Int) < x.en.length:=by omega
  have wk:=wrap_id (n:=(k:Int) + 1) (by omega) (by omega)
  have ht:=take_row hk
  have hl:=take_len (l:=x.en) (k:=k) (by omega)
  generalize x.en.take (k + 1)=D' at *
  generalize x.en.take k=D at *
  subst ht
  have hap:(D.length + 1) * 24≤140737488355328:=by omega
  refine (?_:∃ st,ev pg (.code L28_0 ⟨fill f 0 (yT28 D g w k),yh27 x D g w⟩)=some { st:=st }∧At (yT28 (D++[x.en[k]]) (g + 1) 3 (k + 1)) (yh27 x (D++[x.en[k]]) (g + 1) 3) (cutS 3 st)).elim fun st h=>⟨_,h.1,.inl ⟨rfl,(g + 1,3),.inl rfl,h.2⟩⟩
  rcases hw with h | h <;> (simp only at h; subst h; simp [yT28,L28_0,hk,hk',wk,hap,hf.ne])
 ·rintro ⟨g,w⟩ f hf hw
  rw [List.take_length]
  simp [yT28,L28_0,hf.ne]
theorem ev28 (x:Lg) (hx:x.en.length≤100000):ev pg (.call (.fn 28 [] []) [x.v] [])=some { v:=evs (evR x.en),st:=⟨[],[]⟩ }:=by
 have hl:=fun st=>ylp28 x hx (st:=st)
 rw [ev_call,pg28]
 simp [ir28,ev_loop]
 generalize hr:ev pg (.code (.going _ L28_0) _)=o
 obtain ⟨r,rfl,g,w,f,hf,rfl⟩:∃ r,o=some r∧_:=by rw [← hr]; exact hl _ (by simp [yT28])
 clear hr
 simp [yT28]
 try rfl
def yT18 (en:List Ent) (k:Nat):Tm:=[none,some (.bptr 0 0),some (.bptr 8 0),some (.bptr 16 0)]++List.replicate 8 none++[some (ents en),some (num en.length),some (num k)]++List.replicate 11 none
abbrev yh18 (x:Lg) (D:List Ent) (g w:Nat):H:=[⟨0,.box x.cells⟩,o0s,o0s,o0s,o0s,o0s,o0s,o0s,⟨0,.box [.sl 1 0 0 0 0,.sl 2 0 0 0 0,.sl 3 0 0 0 0,.sl 4 0 0 0 0,.sl 5 0 0 0 0,.sl 6 0 0 0 0,.sl 7 0 0 0 0]⟩,o0s,o0s,o0s,o0s,o0s,o0s,o0s,
 ⟨0,.box [.sl 17 g w 0 D.length,ints x.cf,ints x.st.ends,bools x.st.valves,bools x.st.inputs,bools x.st.values,ints x.st.timers]⟩,⟨g,.arr w (D.map Ent.row)⟩]
theorem ylp18 (x:Lg) (hx:x.en.length≤100000) {st:St} (h0:At (yT18 x.en 0) (yh18 x [] 0 0) st):∃ r,ev pg (.code (.going 18 L18_0) st)=some r∧∃ g w,EndsAs (.exit 0) (yT18 x.en x.en.length) (yh18 x x.en g w) r:=by
 refine loop_at (α:=Nat × Nat) x.en.length (fun k a=>yT18 x.en k) (fun k a=>yh18 x (x.en.take k) a.1 a.2) (fun _ a=>a.2=5∨a.2=0) _ ?_ ?_ (0,0) (.inr rfl) h0
 ·rintro k ⟨g,w⟩ f hf hk hw
  have hk':(k:Int) < x.en.length:=by omega
  have wk:=wrap_id (n:=(k:Int) + 1) (by omega) (by omega)
  have ht:=take_row hk
  have hl:=take_len (l:=x.en) (k:=k) (by omega)
  generalize x.en.take (k + 1)=D' at *
  generalize x.en.take k=D at *
  subst ht
  have hap:(D.length + 1) * 56≤140737488355328:=by omega
  refine (?_:∃ st,ev pg (.code L18_0 ⟨fill f 0 (yT18 x.en k),yh18 x D g w⟩)=some { st:=st }∧At (yT18 x.en (k + 1)) (yh18 x (D++[x.en[k]]) (g + 1) 5) (cutS 18 st)).elim fun st h=>⟨_,h.1,.inl ⟨rfl,(g + 1,5),.inl rfl,h.2⟩⟩
  rcases hw with h | h <;> (simp only at h; subst h; simp [yT18,L18_0,hk,hk',wk,hap,hf.ne])
 ·rintro ⟨g,w⟩ f hf hw
  rw [List.take_length]
  simp [yT18,L18_0,hf.ne]
theorem ev18 (x:Lg) (hx:x.en.length≤100000):ev pg (.call (.fn 18 [] []) [x.v] [])=some { v:=x.v,st:=⟨[],[]⟩ }:=by
 have hl:=fun st=>ylp18 x hx (st:=st)
 rw [ev_call,pg18]
 simp [ir18,ev_loop]
 generalize hr:ev pg (.code (.going _ L18_0) _)=o
 obtain ⟨r,rfl,g,w,f,hf,rfl⟩:∃ r,o=some r∧_:=by rw [← hr]; exact hl _ (by simp [yT18])
 clear hr
 simp [yT18]
@[simp] theorem beqR_ent (l:List Ent):beqR (l.map Ent.row) (l.map Ent.row)=true:=beqR_map (fun x=>by simp [strs]; exact beqR_map (fun x=>by simp) x.s) l
theorem ev7 (x:Lg):ev pg (.call (.fn 7 [] []) [x.v] [])=some { v:=.bool true,st:=⟨[],[]⟩ }:=by
 have e12:=ev12
 rw [ev_call,pg7]
 by_cases h:5000 < x.en.length
 ·have h':(5000:Int) < x.en.length:=by omega
  simp [ev_draw1,exT,chkOk,ir7,h']
 ·have h':¬ (5000:Int) < x.en.length:=by omega
  have e27:=ev27 x (by omega)
  have e28:=ev28 x (by omega)
  have e18:=ev18 x (by omega)
  have e26:=ev26 (evR x.en) (evR x.en) (by simp; omega)
  simp only [decide_true] at e26
  simp [ev_draw1,exT,chkOk,ir7,h',e27,e28,e18,e26,e12]
end Go.Proofs.YtlhciedghbmjjaaGreat
