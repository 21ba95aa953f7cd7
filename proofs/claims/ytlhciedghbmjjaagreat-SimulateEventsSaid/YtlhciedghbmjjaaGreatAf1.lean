/- Gates are computed, by control; the first state. What may happen, and what happens, by the reference. Strokes that are begun, and a run, by the reference. Are lists of strokes, and of events, equal, by the program. What follows an event, by the program. -/
import Derived.Test.YtlhciedghbmjjaaGreatQu3
import Derived.KernelRfl
import Derived.Test.YtlhciedghbmjjaaGreatSv1
set_option linter.all false
namespace Go.Proofs.YtlhciedghbmjjaaGreat
open Go Go.Am Go.Proofs
set_option maxRecDepth 100000
theorem lp87 {c:Ct} {A:Nat} (hM:Mid c A) (s:Ste) (hs:s.small) (hS:Shp c s) (hok:GatesOk c (countN c A)) {st:St} (h0:At (T50 c s 0) (h50 c s (gatesTo c (firstS s) 0 (linesV s))) st):∃ r,ev pg (.code (.going 20 L87_0) st)=some r∧EndsAs (.exit 0) (T50 c s c.signals.length) (h50 c s (gatesL c s)) r:=by
 refine loop_pic c.signals.length (T50 c s) (fun k=>h50 c s (gatesTo c (firstS s) k (linesV s))) _ ?_ ?_ h0
 ·intro k f hf hk
  have hsig:=hM.sig
  have hk':(k:Int) < c.signals.length:=by omega
  have wk:=wrap_id (n:=(k:Int) + 1) (by omega) (by omega)
  have h84:=ev125 hM
  have hlen:=linesV_len s
  have hgl:=gatesTo_len c (firstS s) (linesV s) k
  have hA:s.ends.length=A:=by have:=hS.e; have:=hM.act; omega
  have hF:firstS s=firstN c A:=by unfold firstN; rw [firstS,hA,hS.i]
  have hN:(linesV s).length=countN c A:=by rw [hlen,hA,hS.i,hS.v]
  obtain ⟨hli,hch⟩:=hok _ (List.getElem_mem hk)
  have hc256:countN c A≤256:=by
   have:=hM.hi; have:=hM.inp; have:=hM.sig
   unfold countN; omega
  have h83:=ev124 c.signals[k].on (gatesTo c (firstS s) k (linesV s)) hli (by omega) (by rw [hgl,hN]; exact hch)
  have hval:s.values.length=c.signals.length:=hS.v
  have hkF:firstN c A + k < countN c A:=by unfold firstN countN; omega
  have w2:=wrap_id (n:=(firstN c A:Int) + (k:Int)) (by omega) (by omega)
  have hnn:(0:Int)≤(firstN c A:Int) + (k:Int):=by omega
  have htn:((firstN c A:Int) + (k:Int)).toNat=firstN c A + k:=by omega
  have hst:gatesTo c (firstS s) (k + 1) (linesV s)=if c.signals[k].kind=0 then (gatesTo c (firstS s) k (linesV s)).set (firstS s + k) (c.signals[k].on.holds (gatesTo c (firstS s) k (linesV s))) else gatesTo c (firstS s) k (linesV s):=by
   rw [gatesTo,gateStep,List.getElem?_eq_getElem hk]
  have hdr:(gatesTo c (firstS s) k (linesV s)).length - firstN c A=s.values.length:=by rw [hgl,hN,hval]; unfold countN firstN; omega
  unfold h50
  rw [hst]
  by_cases h0:c.signals[k].kind=0
  ·rw [if_pos h0,← List.set_drop,hF]
   rw [hF] at hgl h83 hdr
   generalize hW:gatesTo c (firstN c A) k (linesV s)=W at *
   generalize c.signals[k].on.holds W=b at *
   have hb1:k < (W.drop (firstN c A)).length:=by rw [List.length_drop]; omega
   have hb2:firstN c A + k < W.length:=by omega
   have hd1:((W.drop (firstN c A)).set k b).map brow=((W.drop (firstN c A)).map brow).set k [.bool b]:=by rw [List.map_set]
   have hd2:(W.set (firstN c A + k) b).map brow=(W.map brow).set (firstN c A + k) [.bool b]:=by rw [List.map_set]
   rw [hd1,hd2]
   have hb3:k < W.length - firstN c A:=by omega
   unfold bools at h83
   have hk4:k < s.values.length:=by omega
   have hk5:(k:Int) < s.values.length:=by omega
   have hk6:(firstN c A:Int) + (k:Int) < (linesV s).length:=by omega
   have hk7:firstN c A + k < (linesV s).length:=by omega
   generalize firstN c A=F at *
   simp [ev_draw1,exT,chkOk,T50,L87_0,hk,hk',wk,h0,h83,h84,w2,hnn,htn,hb2,hb3,hk4,hk7,hgl,hdr,hf.ne]
  ·have h0b:(c.signals[k].kind == 0)=false:=by simpa using h0
   rw [if_neg h0]
   generalize gatesTo c (firstS s) k (linesV s)=W at *
   simp [T50,L87_0,hk,hk',wk,h0b,hf.ne]
 ·intro f hf
  unfold h50 gatesL
  generalize gatesTo c (firstS s) c.signals.length (linesV s)=W at *
  simp [T50,L87_0,hf.ne]
theorem ev87 {c:Ct} {A:Nat} (hM:Mid c A) (s:Ste) (hs:s.small) (hS:Shp c s) (hok:GatesOk c (countN c A)):ev pg (.call (.fn 87 [] []) [c.v,s.v] [])=some { v:=(gated c s).v,st:=⟨[],[]⟩ }:=by
 have hl:=@lp87 c A hM s hs hS hok
 have h52:=ev123 s hs
 have hlen:=gated_len (c:=c) s
 have hd:=linesV_drop s
 obtain ⟨g1,g2,g3,g4,g5⟩:=hs
 have c1:=ev92 s.ends g1
 have c2:=ev93 s.valves g2
 have c3:=ev93 s.inputs g3
 have c4:=ev93 s.values g4
 have c5:=ev92 s.timers g5
 unfold gated at hlen ⊢
 simp only at hlen
 unfold h50 at hl
 rw [gatesTo,hd] at hl
 generalize (gatesL c s).drop (firstS s)=W at *
 rw [ev_call,pg87]
 simp [ev_draw1,exT,chkOk,ir87,ev_loop,c1,c2,c3,c4,c5,h52]
 generalize hr:ev pg (.code (.going _ L87_0) _)=o
 obtain ⟨r,rfl,f,hf,rfl⟩:∃ r,o=some r∧_:=by rw [← hr]; exact hl (by simp [T50])
 clear hr
 simp [T50,hlen]
abbrev h56 (c:Ct) (A:Nat) (k:Nat):H:=[⟨0,.box c.cells⟩,o0,o0,o0,o0,o0,⟨0,.box (nil5 1)⟩,⟨1,.arr 1 (List.replicate A [num 0])⟩,⟨1,.arr 1 (List.replicate A [.bool false])⟩,⟨1,.arr 1 (List.replicate c.inputs.length [.bool false])⟩,⟨1,.arr 1 ((ini c k).map brow)⟩,⟨1,.arr 1 (List.replicate c.signals.length [num 0])⟩,o0,o0,o0,o0,o0,⟨0,.box [.sl 7 1 1 0 A,.sl 8 1 1 0 A,.sl 9 1 1 0 c.inputs.length,.sl 10 1 1 0 c.signals.length,.sl 11 1 1 0 c.signals.length]⟩]
def T56 (c:Ct) (k:Nat):Tm:=[none,some (.bptr 0 0),some (.bptr 6 0),some (num 0),none,none,some (.bptr 17 0)]++List.replicate 27 none++[some (.imm (c.signals.map Sg.row)),some (num c.signals.length),some (num k)]++List.replicate 14 none
theorem lp56 (c:Ct) (A:Nat) (hn:c.signals.length≤128) {st:St} (h0:At (T56 c 0) (h56 c A 0) st):∃ r,ev pg (.code (.going 18 L53_0) st)=some r∧EndsAs (.exit 0) (T56 c c.signals.length) (h56 c A c.signals.length) r:=by
 refine loop_pic c.signals.length (T56 c) (h56 c A) _ ?_ ?_ h0
 ·intro k f hf hk
  have hk':(k:Int) < c.signals.length:=by omega
  have wk:=wrap_id (n:=(k:Int) + 1) (by omega) (by omega)
  have hl:=ini_len c (k:=k) (by omega)
  have e:=mix_set (A:=c.signals.map Sg.init) (B:=List.replicate c.signals.length false) (by simp) (k:=k) (by simpa using hk)
  rw [List.getElem_map] at e
  unfold h56 T56 ini
  rw [← e]
  unfold ini at hl
  generalize mix (c.signals.map Sg.init) (List.replicate c.signals.length false) k=W at *
  have hkW:k < W.length:=by omega
  simp [ev_draw1,exT,chkOk,L53_0,hk,hk',wk,hkW,hf.ne]
 ·intro f hf
  unfold h56 T56 ini
  generalize mix (c.signals.map Sg.init) (List.replicate c.signals.length false) c.signals.length=W at *
  simp [L53_0,hf.ne]
def firstR (c:Ct):Ste × Int:=if c.check=0 then (beginV c,0) else (zeroS,c.check)
theorem ev53 (c:Ct) (hfew:c.small=true):ev pg (.call (.fn 53 [] []) [c.v] [])=some { v:=.tup [(firstR c).1.v,num (firstR c).2],st:=⟨[],[]⟩ }:=by
 have e79:=ev44 c hfew
 unfold firstR
 by_cases hc:c.check=0
 ·have hF:=firstG_rdy hfew hc
  have hM:=hF.mid
  have e87:=ev87 hM (firstG c) hF.small hF.shp (gatesOk_of hc hfew)
  have hl:=@lp56 c c.act.toNat hM.sig
  have hact:=hM.act
  have hhi:=hM.hi
  have hinp:=hM.inp
  have hsig:=hM.sig
  rw [if_pos hc]
  rw [hc] at e79
  unfold beginV
  generalize gated c (firstG c)=u at *
  have z0:ini c 0=List.replicate c.signals.length false:=mix_zero _ _
  have z1:ini c c.signals.length=c.signals.map Sg.init:=by
   have:=mix_all (A:=c.signals.map Sg.init) (B:=List.replicate c.signals.length false) (by simp)
   rwa [List.length_map] at this
  unfold h56 at hl
  rw [z0,z1] at hl
  unfold firstG at e87
  generalize c.act.toNat=A at *
  have e87':ev pg (.call (.fn 87 [] []) [.agg [num c.act,.imm (c.inputs.map srow),.imm (c.signals.map Sg.row),ints c.plus,ints c.minus],.agg [.imm (List.replicate A [num 0]),.imm (List.replicate A [.bool false]),.imm (List.replicate c.inputs.length [.bool false]),.imm (c.signals.map (brow ∘ Sg.init)),.imm (List.replicate c.signals.length [num 0])]] [])=some { v:=u.v,st:=⟨[],[]⟩ }:=by
   rw [← e87]
   simp only [Ste.v,Ste.cells,ints,bools,List.map_replicate,List.map_map]
  rw [hact] at e87'
  have e79':ev pg (.call (.fn 44 [] []) [.agg [num (A:Int),.imm (c.inputs.map srow),.imm (c.signals.map Sg.row),ints c.plus,ints c.minus]] [])=some { v:=num 0,st:=⟨[],[]⟩ }:=by rw [← hact]; exact e79
  have a1:A * 8≤140737488355328:=by omega
  have a2:A≤4611686018427387904:=by omega
  have a3:A≤140737488355328:=by omega
  have i2:c.inputs.length≤4611686018427387904:=by omega
  have i3:c.inputs.length≤140737488355328:=by omega
  have s1:c.signals.length * 8≤140737488355328:=by omega
  have s2:c.signals.length≤4611686018427387904:=by omega
  have s3:c.signals.length≤140737488355328:=by omega
  rw [ev_call,pg53]
  simp [ev_draw1,exT,chkOk,ir53,e79',hact,a1,a2,a3,i2,i3,s1,s2,s3,ev_loop]
  generalize hr:ev pg (.code (.going _ L53_0) _)=o
  obtain ⟨r,rfl,f,hf,rfl⟩:∃ r,o=some r∧_:=by rw [← hr]; exact hl (by simp [T56,hact])
  simp [T56,hact,e87']
 ·rw [if_neg hc]
  have hb:(c.check == 0)=false:=by simpa using hc
  rw [ev_call,pg53]
  generalize c.check=e at *
  simp [ir53,e79,hc,hb,zeroS]
theorem ev29 (c:Ct) (hfew:c.small=true):ev pg (.call (.fn 29 [] []) [c.v] [])=some { v:=outV (startR c),st:=⟨[],[]⟩ }:=by
 have e56:=ev53 c hfew
 unfold firstR at e56
 unfold startR
 rw [ev_call,pg29]
 by_cases h:c.check=0
 ·have hR:=beginV_right h
  have e16:=ev54 c (beginV c) hfew (Rdy.small ⟨hfew,hR⟩)
  unfold restR at e16
  rw [if_pos hR] at e16
  rw [if_pos h] at e56 ⊢
  simp only at e56
  generalize restE c (beginV c)=x at *
  generalize beginV c=b at *
  simp [ir29,e56,e16]
 ·rw [if_neg h] at e56 ⊢
  simp only at e56
  have hb:(c.check == 0)=false:=by simpa using h
  generalize c.check=e at *
  simp [ir29,e56,h,hb,zeroS]
abbrev Evn.v (x:Evn):V:=.agg x.row
abbrev strow (p:Int × Bool):List V:=[num p.1,.bool p.2]
abbrev strs (l:List (Int × Bool)):V:=.imm (l.map strow)
def freshTo (a b:Ste) (k:Nat):List (Int × Bool):=(List.range k).filterMap (freshF a b)
theorem freshTo_succ (a b:Ste) (k:Nat):freshTo a b (k + 1)=freshTo a b k++(match freshF a b k with | some p=>[p] | none=>[]):=by
 unfold freshTo
 rw [List.range_succ,List.filterMap_append]
 cases h:freshF a b k <;> simp [h]
theorem freshTo_len (a b:Ste) (k:Nat):(freshTo a b k).length≤k:=by
 unfold freshTo
 exact Nat.le_trans (List.length_filterMap_le _ _) (by simp)
theorem freshV_to (a b:Ste):freshV a b=freshTo a b a.ends.length:=rfl
abbrev gm2 (a:Nat × Nat):Prop:=a.2=2∨a.2=0
abbrev h64 (x y:Ste) (k:Nat) (a:Nat × Nat):H:=[⟨0,.box x.cells⟩,⟨0,.box y.cells⟩,o0,⟨a.1,.arr a.2 ((freshTo x y k).map strow)⟩]
theorem restGo_lin {c:Ct}:∀ {d:Nat} {s:Ste} {l:List Int} {t:Ste} {m:List Int},restGo c d s l=some (t,m)→Lin (allN c) m
 | 0,_,_,_,_,h=>by cases h
 | d + 1,s,l,t,m,h=>by
  rw [restGo] at h
  cases e:roundV c s with
  | none=>rw [e] at h; cases h
  | some x =>
   rw [e] at h
   simp only at h
   split at h
   ·cases h; exact Lin.norm _ _
   ·exact restGo_lin h
theorem restE_lin (c:Ct) (s:Ste):Lin (allN c) (restE c s).2.1:=by
 unfold restE
 cases e:restV c s with
 | none=>exact Lin.nil _
 | some x=>exact restGo_lin (show restGo c 65 s []=some (x.1,x.2) from e)
theorem afterV_lin (c:Ct) (s:Ste) (x:Evn):Lin (allN c) (afterV c s x).2.1:=by
 unfold afterV
 split
 ·exact Lin.nil _
 ·split
  ·exact restE_lin _ _
  ·exact Lin.nil _
abbrev lrow (l:List (Int × Bool)):List V:=[strs l]
abbrev Crs.v (r:Crs):V:=.agg (r.st.cells++[.imm (r.strokes.map lrow),ints r.conf])
def runR (c:Ct) (s:Ste) (l:List Evn):Crs × Int × Int:=if quE c s=0 then (if 4096 < l.length then (zeroCrs,0,5) else runGo c l 0 ⟨s,[],[]⟩) else (zeroCrs,0,quE c s)
theorem quE_rdy {c:Ct} {s:Ste} (hfew:c.small=true) (h:quE c s=0):Rdy c s:=by
 unfold quE at h
 split at h
 ·exact ⟨hfew,by assumption⟩
 ·rename_i h2; exact absurd h h2
def T42r:Tm:=[none,none,none,none,some (.bool false)]++List.replicate 21 none
theorem Evn.ext' {x y:Evn} (h1:x.kind=y.kind) (h2:x.idx=y.idx) (h3:x.val=y.val):x=y:=by
 cases x; cases y
 simp only at h1 h2 h3
 subst h1 h2 h3
 rfl
def T15q (a b:List Evn) (k:Nat):Tm:=[some (evs a),some (evs b),none,none,none,none,none,none,none,none,none,none,some (num a.length),some (num k)]++List.replicate 12 none
instance (x y:Evn):Decidable (x=y) :=
 if h:x.kind=y.kind∧x.idx=y.idx∧x.val=y.val then .isTrue (Evn.ext' h.1 h.2.1 h.2.2)
 else .isFalse fun e=>h (by rw [e]; exact ⟨rfl,rfl,rfl⟩)
instance:DecidableEq Evn:=fun x y=>inferInstance
theorem lp15 (a b:List Evn) (hab:b.length=a.length) (ha:a.length≤100000) {st:St} (h0:At (T15q a b 0) [] st):∃ r,ev pg (.code (.going 0 L26_0) st)=some r∧Finds a.length (fun k=>decide (a[k]? ≠ b[k]?)) (fun _=>EndsAs .ret T42r []) (EndsAs (.exit 0) (T15q a b a.length) []) r:=by
 refine loop_first _ _ (T15q a b) [] _ _ ?_ ?_ ?_ h0
 ·intro k f hf hk hp
  have hk':(k:Int) < a.length:=by omega
  have hkb:k < b.length:=by omega
  have wk:=wrap_id (n:=(k:Int) + 1) (by omega) (by omega)
  have hb:a[k]=b[k]:=by simpa [hk,hkb] using hp
  simp [ev_draw1,exT,chkOk,T15q,L26_0,hk,hk',hkb,hb,wk,hf.ne]
 ·intro k f hf hk hp
  have hk':(k:Int) < a.length:=by omega
  have hkb:k < b.length:=by omega
  have hb:a[k] ≠ b[k]:=by simpa [hk,hkb] using hp
  by_cases h1:a[k].kind=b[k].kind
  ·by_cases h2:a[k].idx=b[k].idx
   ·have h3:¬ a[k].val=b[k].val:=fun h=>hb (Evn.ext' h1 h2 h)
    have h3b:(a[k].val == b[k].val)=false:=by simpa using h3
    simp [ev_draw1,exT,chkOk,T15q,T42r,L26_0,hk,hk',hkb,h1,h2,h3,h3b,hf.ne]
   ·have h2b:(a[k].idx == b[k].idx)=false:=by simpa using h2
    by_cases h3:a[k].val=b[k].val
    ·simp [ev_draw1,exT,chkOk,T15q,T42r,L26_0,hk,hk',hkb,h1,h2,h2b,h3,hf.ne]
    ·have h3b:(a[k].val == b[k].val)=false:=by simpa using h3
     simp [ev_draw1,exT,chkOk,T15q,T42r,L26_0,hk,hk',hkb,h1,h2,h2b,h3,h3b,hf.ne]
  ·have h1b:(a[k].kind == b[k].kind)=false:=by simpa using h1
   by_cases h2:a[k].idx=b[k].idx
   ·by_cases h3:a[k].val=b[k].val
    ·simp [ev_draw1,exT,chkOk,T15q,T42r,L26_0,hk,hk',hkb,h1,h1b,h2,h3,hf.ne]
    ·have h3b:(a[k].val == b[k].val)=false:=by simpa using h3
     simp [ev_draw1,exT,chkOk,T15q,T42r,L26_0,hk,hk',hkb,h1,h1b,h2,h3,h3b,hf.ne]
   ·have h2b:(a[k].idx == b[k].idx)=false:=by simpa using h2
    by_cases h3:a[k].val=b[k].val
    ·simp [ev_draw1,exT,chkOk,T15q,T42r,L26_0,hk,hk',hkb,h1,h1b,h2,h2b,h3,hf.ne]
    ·have h3b:(a[k].val == b[k].val)=false:=by simpa using h3
     simp [ev_draw1,exT,chkOk,T15q,T42r,L26_0,hk,hk',hkb,h1,h1b,h2,h2b,h3,h3b,hf.ne]
 ·intro f hf
  simp [T15q,L26_0,hf.ne]
theorem ev26 (a b:List Evn) (ha:a.length≤100000):ev pg (.call (.fn 26 [] []) [evs a,evs b] [])=some { v:=.bool (decide (a=b)),st:=⟨[],[]⟩ }:=by
 rw [ev_call,pg26]
 by_cases hab:b.length=a.length
 ·have hloop:=@lp15 a b hab ha
  have hab':(b.length:Int)=a.length:=by omega
  simp [ir26,ev_loop,hab']
  generalize hr:ev pg (.code (.going _ L26_0) _)=o
  obtain ⟨r,rfl,hQ⟩:∃ r,o=some r∧_:=by rw [← hr]; exact hloop (by simp [T15q])
  rcases hQ with ⟨k,hk,hp,-,f,hf,rfl⟩ | ⟨hp,f,hf,rfl⟩
  ·have:a ≠ b:=by rintro rfl; simp at hp
   simp [T42r,this]
  ·have:a=b:=by
    refine List.ext_getElem hab.symm fun k h1 h2=>?_
    have:=hp k h1
    simpa [h1,h2] using this
   simp [T15q,this]
 ·have hne:((a.length:Int) != (b.length:Int))=true:=by rw [bne_iff_ne]; omega
  have:a ≠ b:=fun e=>hab (by rw [e])
  simp [ir26,hne,this]
abbrev acts3:List V:=[.fn 94 [.bptr 14 0] [],.fn 95 [.bptr 14 0] [],.fn 96 [.bptr 14 0] []]
abbrev hF (c:Ct) (s:Ste) (x:List V) (t:Ste):H:=[⟨0,.box c.cells⟩,⟨0,.box s.cells⟩,⟨0,.box x⟩,o0,o0,o0,o0,o0,⟨0,.box (nil5 3)⟩]++ar5 t++[⟨0,.box (sl5 9 t)⟩,⟨0,.box acts3⟩]
set_option maxHeartbeats 1000000 in
set_option maxHeartbeats 1000000 in
theorem ev94 {c:Ct} {s:Ste} (hS:Shp c s) (id:Int) (vl:Bool):ev pg (.call (.fn 94 [.bptr 14 0] []) [.agg [num 0,num id,.bool vl]] (hF c s [num 0,num id,.bool vl] s))=some { v:=.bool (mayV s ⟨0,id,vl⟩),st:=⟨[],hF c s [num 0,num id,.bool vl] (if mayV s ⟨0,id,vl⟩=true then happV s ⟨0,id,vl⟩ else s)⟩ }:=by
 have hvt:s.values.length=s.timers.length:=by rw [hS.v,hS.t]
 unfold mayV happV
 simp only
 rw [ev_call,pg94]
 by_cases hi:id < 0
 ·simp [ev_draw1,exT,chkOk,ir94,hi]
 ·obtain ⟨n,rfl⟩:∃ n:Nat,id=n:=⟨id.toNat,by omega⟩
  have hi':¬ (n:Int) < 0:=by omega
  by_cases hl:s.ends.length≤n
  ·have hn:¬ n < s.ends.length:=by omega
   have hl':(s.ends.length:Int)≤n:=by omega
   simp [ev_draw1,exT,chkOk,ir94,hi',hl,hl',hn,pendB]
  ·have hn:n < s.ends.length:=by omega
   have hl':¬ (s.ends.length:Int)≤n:=by omega
   by_cases h1:s.ends[n]=1
   ·simp [ev_draw1,exT,chkOk,ir94,hl,hl',hi',hn,h1,pendB]
   ·have h1b:(s.ends[n] == 1)=false:=by simpa using h1
    by_cases h3:s.ends[n]=3
    ·simp [ev_draw1,exT,chkOk,ir94,hl,hl',hi',hn,h3,pendB]
    ·have h3b:(s.ends[n] == 3)=false:=by simpa using h3
     simp [ev_draw1,exT,chkOk,ir94,hl,hl',hi',hn,h1,h1b,h3,h3b,pendB]
set_option maxHeartbeats 1000000 in
theorem ev95 {c:Ct} {s:Ste} (hS:Shp c s) (id:Int) (vl:Bool):ev pg (.call (.fn 95 [.bptr 14 0] []) [.agg [num 1,num id,.bool vl]] (hF c s [num 1,num id,.bool vl] s))=some { v:=.bool (mayV s ⟨1,id,vl⟩),st:=⟨[],hF c s [num 1,num id,.bool vl] (if mayV s ⟨1,id,vl⟩=true then happV s ⟨1,id,vl⟩ else s)⟩ }:=by
 have hvt:s.values.length=s.timers.length:=by rw [hS.v,hS.t]
 unfold mayV happV
 simp only
 rw [ev_call,pg95]
 by_cases hi:id < 0
 ·simp [ev_draw1,exT,chkOk,ir95,hi]
 ·obtain ⟨n,rfl⟩:∃ n:Nat,id=n:=⟨id.toNat,by omega⟩
  have hi':¬ (n:Int) < 0:=by omega
  by_cases hl:s.timers.length≤n
  ·have hn:¬ n < s.timers.length:=by omega
   have hl':(s.timers.length:Int)≤n:=by omega
   simp [ev_draw1,exT,chkOk,ir95,hi',hl,hl',hn,pendB]
  ·have hn:n < s.timers.length:=by omega
   have hl':¬ (s.timers.length:Int)≤n:=by omega
   have hn2:n < s.values.length:=by omega
   by_cases h1:s.timers[n]=1
   ·simp [ev_draw1,exT,chkOk,ir95,hl,hl',hi',hn,hn2,h1,pendB]
   ·have h1b:(s.timers[n] == 1)=false:=by simpa using h1
    simp [ev_draw1,exT,chkOk,ir95,hl,hl',hi',hn,h1,h1b,pendB]
set_option maxHeartbeats 1000000 in
theorem ev96 {c:Ct} {s:Ste} (hS:Shp c s) (id:Int) (vl:Bool):ev pg (.call (.fn 96 [.bptr 14 0] []) [.agg [num 2,num id,.bool vl]] (hF c s [num 2,num id,.bool vl] s))=some { v:=.bool (mayV s ⟨2,id,vl⟩),st:=⟨[],hF c s [num 2,num id,.bool vl] (if mayV s ⟨2,id,vl⟩=true then happV s ⟨2,id,vl⟩ else s)⟩ }:=by
 have hvt:s.values.length=s.timers.length:=by rw [hS.v,hS.t]
 unfold mayV happV
 simp only
 rw [ev_call,pg96]
 by_cases hi:id < 0
 ·simp [ev_draw1,exT,chkOk,ir96,hi]
 ·obtain ⟨n,rfl⟩:∃ n:Nat,id=n:=⟨id.toNat,by omega⟩
  have hi':¬ (n:Int) < 0:=by omega
  by_cases hl:s.inputs.length≤n
  ·have hn:¬ n < s.inputs.length:=by omega
   have hl':(s.inputs.length:Int)≤n:=by omega
   simp [ev_draw1,exT,chkOk,ir96,hi',hl,hl',hn,pendB]
  ·have hn:n < s.inputs.length:=by omega
   have hl':¬ (s.inputs.length:Int)≤n:=by omega
   generalize hb:s.inputs[n]=b
   cases b <;> cases vl <;> simp [ev_draw1,exT,chkOk,ir96,hl,hl',hi',hn,hb]
end Go.Proofs.YtlhciedghbmjjaaGreat
