/- Controls: few, lines. Controls: lines and their names. Names: which bytes they have, by the reference and by the program. Names, by the program: the bytes of a text, rune after rune. -/
import Derived.Test.YtlhciedghbmjjaaGreatVs3
import Derived.Laws.RangeAny
import Derived.Laws.RangeString
set_option linter.all false
namespace Go.Proofs.YtlhciedghbmjjaaGreat
open Go Go.Am Go.Proofs
set_option maxRecDepth 100000
abbrev Txt:=List UInt8
structure Sg where
 name:Txt
 kind:Int
 on:Ex
 off:Ex
 delay:Int
 init:Bool
abbrev Sg.row (x:Sg):List V:=[.str x.name,num x.kind,num x.on.op,num x.on.idx,.imm (x.on.args.map Ex.row),num x.off.op,num x.off.idx,.imm (x.off.args.map Ex.row),num x.delay,.bool x.init]
abbrev srow (s:Txt):List V:=[.str s]
abbrev nrow (n:Int):List V:=[.int .i64 n]
abbrev ints (l:List Int):V:=.imm (l.map nrow)
structure Ct where
 act:Int
 inputs:List Txt
 signals:List Sg
 plus:List Int
 minus:List Int
abbrev Ct.cells (c:Ct):List V:=[num c.act,.imm (c.inputs.map srow),.imm (c.signals.map Sg.row),ints c.plus,ints c.minus]
abbrev Ct.v (c:Ct):V:=.agg c.cells
def fewI (s:Txt):Bool:=decide (s.length≤200)
def fewS (x:Sg):Bool:=decide (x.name.length≤200) && x.on.light && x.off.light
def Ct.few (c:Ct):Bool:=decide (c.inputs.length≤32) && !(decide (16 < c.signals.length) && decide (c.signals.length≤64)) && decide (c.signals.length≤128) && decide (c.plus.length≤40) && decide (c.minus.length≤40) && c.inputs.all fewI && c.signals.all fewS
theorem adopt_none:∀ {s:List V} (h:H),noNil s→adoptL h s=(s,h)
 | [],h,_=>rfl
 | v :: s,h,hn=>by
  have hv:=hn v (by simp)
  have ih:=adopt_none (s:=s) h fun w hw=>hn w (by simp [hw])
  cases v <;> first | exact absurd rfl hv | simp only [adoptL,ih]
structure Mid (c:Ct) (A:Nat):Prop where
 act:c.act=A
 lo:1≤A
 hi:A≤6
 inp:c.inputs.length≤32
 sig:c.signals.length≤128
abbrev firstN (c:Ct) (A:Nat):Nat:=2 * A + c.inputs.length
abbrev countN (c:Ct) (A:Nat):Nat:=2 * A + c.inputs.length + c.signals.length
theorem ev125 {c:Ct} {A:Nat} (h:Mid c A):ev pg (.call (.fn 125 [] []) [c.v] [])=some { v:=num (firstN c A:Nat),st:=⟨[],[]⟩ }:=by
 obtain ⟨hA,h1,h2,h3,h4⟩:=h
 have w1:=wrap_id (n:=2 * (A:Int)) (by omega) (by omega)
 have w2:=wrap_id (n:=2 * (A:Int) + (c.inputs.length:Int)) (by omega) (by omega)
 rw [ev_call,pg125]
 simp [ir125,hA,w1,w2]
theorem beqR_map {α:Type} {row:α→List V} (h:∀ x,beqL (row x) (row x)=true):∀ l:List α,beqR (l.map row) (l.map row)=true
 | []=>rfl
 | x :: l=>by simp only [List.map_cons,beqR,h x,beqR_map h l,Bool.and_self]
@[simp] theorem beqR_ex (l:List Ex):beqR (l.map Ex.row) (l.map Ex.row)=true:=by
 have:∀ x:Ex,beqL x.row x.row=true:=by
  refine Ex.ind fun x ih=>?_
  have hl:∀ l:List Ex,(∀ y ∈ l,beqL y.row y.row=true)→beqR (l.map Ex.row) (l.map Ex.row)=true:=by
   intro l
   induction l with
   | nil=>intro _; rfl
   | cons y l ihl =>
    intro h
    simp only [List.map_cons,beqR,h y (by simp),ihl (fun z hz=>h z (by simp [hz])),Bool.and_self]
  rw [row_eq]
  simp [hl x.args ih]
 exact beqR_map this l
@[simp] theorem beqR_sg (l:List Sg):beqR (l.map Sg.row) (l.map Sg.row)=true:=beqR_map (fun x=>by simp) l
@[simp] theorem beqR_str (l:List Txt):beqR (l.map srow) (l.map srow)=true:=beqR_map (fun x=>by simp) l
@[simp] theorem beqR_int (l:List Int):beqR (l.map nrow) (l.map nrow)=true:=beqR_map (fun x=>by simp) l
theorem ev115 {c:Ct} {A:Nat} (h:Mid c A):ev pg (.call (.fn 115 [] []) [c.v] [])=some { v:=num (countN c A:Nat),st:=⟨[],[]⟩ }:=by
 have hf:=ev125 h
 obtain ⟨hA,h1,h2,h3,h4⟩:=h
 have w3:=wrap_id (n:=2 * (A:Int) + (c.inputs.length:Int) + (c.signals.length:Int)) (by omega) (by omega)
 rw [ev_call,pg115]
 simp [ev_draw1,exT,chkOk,ir115,hf,w3]
def nameAt (c:Ct) (A k:Nat):Txt:=if k < 2 * A then [UInt8.ofNat (97 + k / 2),UInt8.ofNat (48 + k % 2)] else if k < 2 * A + c.inputs.length then (c.inputs[k - 2 * A]?).getD [] else ((c.signals[k - (2 * A + c.inputs.length)]?).map Sg.name).getD []
theorem wrap32 {n:Int} (h:0≤n) (h2:n < 2147483648):IntKind.i32.wrap n=n:=by
 unfold IntKind.wrap; simp [IntKind.bits,IntKind.signed]; omega
theorem enc_a {q:Nat} (h:q < 6):(Utf8.encode (97 + (q:Int))).data.toList=[UInt8.ofNat (97 + q)]:=by
 rcases (by omega:q=0∨q=1∨q=2∨q=3∨q=4∨q=5) with rfl | rfl | rfl | rfl | rfl | rfl <;> decide
theorem enc_0 {q:Nat} (h:q < 2):(Utf8.encode (48 + (q:Int))).data.toList=[UInt8.ofNat (48 + q)]:=by
 rcases (by omega:q=0∨q=1) with rfl | rfl <;> decide
theorem ev110 {c:Ct} {A:Nat} (h:Mid c A) (k:Nat) (hk:k < countN c A):ev pg (.call (.fn 110 [] []) [c.v,num k] [])=some { v:=.str (nameAt c A k),st:=⟨[],[]⟩ }:=by
 have hf:=ev125 h
 obtain ⟨hA,h1,h2,h3,h4⟩:=h
 have hk':k < 2 * A + c.inputs.length + c.signals.length:=hk
 have w1:=wrap_id (n:=2 * c.act) (by omega) (by omega)
 rw [ev_call,pg110]
 by_cases c1:k < 2 * A
 ·have c1':(k:Int) < 2 * c.act:=by omega
  obtain ⟨q,hq⟩:∃ q,q=k / 2:=⟨_,rfl⟩
  obtain ⟨r,hr⟩:∃ r,r=k % 2:=⟨_,rfl⟩
  have hq6:q < 6:=by omega
  have hr2:r < 2:=by omega
  have t1:(k:Int).tdiv 2=(q:Int):=by rw [hq]; rfl
  have t2:(k:Int).tmod 2=(r:Int):=by rw [hr]; rfl
  have w2:=wrap_id (n:=(q:Int)) (by omega) (by omega)
  have w3:=wrap_id (n:=97 + (q:Int)) (by omega) (by omega)
  have w4:=wrap_id (n:=48 + (r:Int)) (by omega) (by omega)
  have w5:=wrap32 (n:=97 + (q:Int)) (by omega) (by omega)
  have w6:=wrap32 (n:=48 + (r:Int)) (by omega) (by omega)
  have hn:nameAt c A k=[UInt8.ofNat (97 + q),UInt8.ofNat (48 + r)]:=by unfold nameAt; rw [if_pos c1,hq,hr]
  have l1:=enc_a hq6
  have l2:=enc_0 hr2
  rw [hn]
  simp [ir110,w1,c1',hf,t1,t2,w2,w3,w4,w5,w6,l1,l2]
 ·have c1':¬ ((k:Int) < 2 * c.act):=by omega
  by_cases c2:k < 2 * A + c.inputs.length
  ·have c2':(k:Int) < 2 * (A:Int) + (c.inputs.length:Int):=by omega
   have hsub:(k:Int) - 2 * c.act=((k - 2 * A:Nat):Int):=by omega
   have w2:=wrap_id (n:=((k - 2 * A:Nat):Int)) (by omega) (by omega)
   have hlt:k - 2 * A < c.inputs.length:=by omega
   have hn:nameAt c A k=c.inputs[k - 2 * A]:=by unfold nameAt; rw [if_neg c1,if_pos c2,List.getElem?_eq_getElem hlt]; rfl
   rw [hn]
   generalize k - 2 * A=j at *
   simp [ir110,w1,c1',hf,c2',hsub,w2,hlt]
  ·have c2':¬ ((k:Int) < 2 * (A:Int) + (c.inputs.length:Int)):=by omega
   have hsub:(k:Int) - (2 * (A:Int) + (c.inputs.length:Int))=((k - (2 * A + c.inputs.length):Nat):Int):=by omega
   have w2:=wrap_id (n:=((k - (2 * A + c.inputs.length):Nat):Int)) (by omega) (by omega)
   have hlt:k - (2 * A + c.inputs.length) < c.signals.length:=by omega
   have hn:nameAt c A k=c.signals[k - (2 * A + c.inputs.length)].name:=by unfold nameAt; rw [if_neg c1,if_neg c2,List.getElem?_eq_getElem hlt]; rfl
   rw [hn]
   generalize k - (2 * A + c.inputs.length)=j at *
   simp [ir110,w1,c1',hf,c2',hsub,w2,hlt]
def smallN (n:Nat):Bool:=decide (97≤n) && decide (n≤122)
def wordN (n:Nat):Bool:=smallN n || (decide (65≤n) && decide (n≤90)) || (decide (48≤n) && decide (n≤57)) || n == 95
theorem classes (n:Nat):(n < 48)∨(48≤n∧n≤57)∨(58≤n∧n≤64)∨(65≤n∧n≤90)∨(n=95)∨((91≤n∧n≤94)∨n=96)∨(97≤n∧n≤122)∨(123≤n):=by omega
theorem ev153 (n:Nat):ev pg (.call (.fn 153 [] []) [.int .u8 n] [])=some { v:=.bool (wordN n),st:=⟨[],[]⟩ }:=by
 rw [ev_call,pg153]
 rcases classes n with hc | hc | hc | hc | hc | hc | hc | hc
 ·have hw:wordN n=false:=by simp [wordN,smallN]; omega
  have f0:¬ 97≤n:=by omega
  have g0:¬ (97≤(n:Int)):=by omega
  have f1:¬ 65≤n:=by omega
  have g1:¬ (65≤(n:Int)):=by omega
  have f2:¬ 48≤n:=by omega
  have g2:¬ (48≤(n:Int)):=by omega
  have f3:n ≠ 95:=by omega
  have g3:(n:Int) ≠ 95:=by omega
  have f4:n < 48:=by omega
  have g4:(n:Int) < 48:=by omega
  have f95:((n:Int) == 95)=false:=by simp; omega
  simp [ir153,hw,g0,g1,g2,f95]
 ·have hw:wordN n=true:=by simp [wordN,smallN]; omega
  have f0:¬ 97≤n:=by omega
  have g0:¬ (97≤(n:Int)):=by omega
  have f1:¬ 65≤n:=by omega
  have g1:¬ (65≤(n:Int)):=by omega
  have f2:48≤n:=by omega
  have g2:48≤(n:Int):=by omega
  have f3:n≤57:=by omega
  have g3:(n:Int)≤57:=by omega
  have f4:n ≠ 95:=by omega
  have g4:(n:Int) ≠ 95:=by omega
  have f5:¬ n < 48:=by omega
  have g5:¬ ((n:Int) < 48):=by omega
  have f6:¬ 57 < n:=by omega
  have g6:¬ (57 < (n:Int)):=by omega
  have f95:((n:Int) == 95)=false:=by simp; omega
  simp [ir153,hw,g0,g1,g2,g3]
 ·have hw:wordN n=false:=by simp [wordN,smallN]; omega
  have f0:¬ 97≤n:=by omega
  have g0:¬ (97≤(n:Int)):=by omega
  have f1:¬ 65≤n:=by omega
  have g1:¬ (65≤(n:Int)):=by omega
  have f2:48≤n:=by omega
  have g2:48≤(n:Int):=by omega
  have f3:¬ n≤57:=by omega
  have g3:¬ ((n:Int)≤57):=by omega
  have f4:n ≠ 95:=by omega
  have g4:(n:Int) ≠ 95:=by omega
  have f5:¬ n < 48:=by omega
  have g5:¬ ((n:Int) < 48):=by omega
  have f6:57 < n:=by omega
  have g6:57 < (n:Int):=by omega
  have f95:((n:Int) == 95)=false:=by simp; omega
  simp [ir153,hw,g0,g1,g2,g3,f95]
 ·have hw:wordN n=true:=by simp [wordN,smallN]; omega
  have f0:¬ 97≤n:=by omega
  have g0:¬ (97≤(n:Int)):=by omega
  have f1:65≤n:=by omega
  have g1:65≤(n:Int):=by omega
  have f2:n≤90:=by omega
  have g2:(n:Int)≤90:=by omega
  simp [ir153,hw,g0,g1,g2]
 ·have hw:wordN n=true:=by simp [wordN,smallN]; omega
  have f0:¬ 97≤n:=by omega
  have g0:¬ (97≤(n:Int)):=by omega
  have f1:65≤n:=by omega
  have g1:65≤(n:Int):=by omega
  have f2:¬ n≤90:=by omega
  have g2:¬ ((n:Int)≤90):=by omega
  have f3:48≤n:=by omega
  have g3:48≤(n:Int):=by omega
  have f4:¬ n≤57:=by omega
  have g4:¬ ((n:Int)≤57):=by omega
  subst hc
  simp [ir153,hw]
 ·have hw:wordN n=false:=by simp [wordN,smallN]; omega
  have f0:¬ 97≤n:=by omega
  have g0:¬ (97≤(n:Int)):=by omega
  have f1:65≤n:=by omega
  have g1:65≤(n:Int):=by omega
  have f2:¬ n≤90:=by omega
  have g2:¬ ((n:Int)≤90):=by omega
  have f3:48≤n:=by omega
  have g3:48≤(n:Int):=by omega
  have f4:¬ n≤57:=by omega
  have g4:¬ ((n:Int)≤57):=by omega
  have f5:n ≠ 95:=by omega
  have g5:(n:Int) ≠ 95:=by omega
  have f6:¬ n < 48:=by omega
  have g6:¬ ((n:Int) < 48):=by omega
  have f7:57 < n:=by omega
  have g7:57 < (n:Int):=by omega
  have f95:((n:Int) == 95)=false:=by simp; omega
  simp [ir153,hw,g0,g1,g2,g3,g4,f95]
 ·have hw:wordN n=true:=by simp [wordN,smallN]; omega
  have f0:97≤n:=by omega
  have g0:97≤(n:Int):=by omega
  have f1:n≤122:=by omega
  have g1:(n:Int)≤122:=by omega
  have f2:65≤n:=by omega
  have g2:65≤(n:Int):=by omega
  have f3:¬ n≤90:=by omega
  have g3:¬ ((n:Int)≤90):=by omega
  simp [ir153,hw,g0,g1]
 ·have hw:wordN n=false:=by simp [wordN,smallN]; omega
  have f0:97≤n:=by omega
  have g0:97≤(n:Int):=by omega
  have f1:¬ n≤122:=by omega
  have g1:¬ ((n:Int)≤122):=by omega
  have f2:65≤n:=by omega
  have g2:65≤(n:Int):=by omega
  have f3:¬ n≤90:=by omega
  have g3:¬ ((n:Int)≤90):=by omega
  have f4:48≤n:=by omega
  have g4:48≤(n:Int):=by omega
  have f5:¬ n≤57:=by omega
  have g5:¬ ((n:Int)≤57):=by omega
  have f6:n ≠ 95:=by omega
  have g6:(n:Int) ≠ 95:=by omega
  have f7:¬ n < 48:=by omega
  have g7:¬ ((n:Int) < 48):=by omega
  have f8:57 < n:=by omega
  have g8:57 < (n:Int):=by omega
  have f95:((n:Int) == 95)=false:=by simp; omega
  simp [ir153,hw,g0,g1,g2,g3,g4,g5,f95]
def wordGo (a:Bool):Txt→Bool
 | []=>true
 | b :: r=>if (a && !smallN b.toNat) || !wordN b.toNat then false else wordGo false r
def wordB (s:Txt):Bool:=wordGo true s && s != []
theorem wrap8 {n:Int} (h:0≤n) (h2:n < 256):IntKind.u8.wrap n=n:=by
 unfold IntKind.wrap; simp [IntKind.bits,IntKind.signed]; omega
def badR (n:Nat):Bool:=decide (122 < n) || !wordN n
theorem ev152 (n:Nat):ev pg (.call (.fn 152 [] []) [.int .i32 n] [])=some { v:=.bool (badR n),st:=⟨[],[]⟩ }:=by
 rw [ev_call,pg152]
 by_cases h:122 < n
 ·have h':(122:Int) < (n:Int):=by omega
  simp [ir152,badR,h,h']
 ·have h':¬ ((122:Int) < (n:Int)):=by omega
  have hc:=ev153 n
  have w8:=wrap8 (n:=(n:Int)) (by omega) (by omega)
  simp [ir152,badR,h,h',w8,hc]
abbrev wordAll (s:Txt):Bool:=s.all fun b=>wordN b.toNat
theorem all_at' {f:UInt8→Bool} {l:Txt} {k:Nat} (hk:k < l.length):(l.drop k).all f=(f l[k] && (l.drop (k + 1)).all f):=by
 rw [List.drop_eq_getElem_cons hk]; rfl
theorem dec_low {t:Txt} {k:Nat} (hk:k < t.length) (h:t[k].toNat < 128):Utf8.decode ⟨t.toArray⟩ k=(t[k].toNat,1):=by
 have hs:k < (⟨t.toArray⟩:ByteArray).size:=by show k < t.toArray.size; simpa using hk
 have hg:(⟨t.toArray⟩:ByteArray)[k]'hs=t[k]:=by show t.toArray[k]=t[k]; simp
 have:=Go.decode_ascii ⟨t.toArray⟩ k hs (by rw [hg]; exact h)
 rw [hg] at this
 exact this
theorem dec_high {t:Txt} {k:Nat} (hk:k < t.length) (h:128≤t[k].toNat):128≤(Utf8.decode ⟨t.toArray⟩ k).1:=by
 have hs:k < (⟨t.toArray⟩:ByteArray).size:=by show k < t.toArray.size; simpa using hk
 have hg:(⟨t.toArray⟩:ByteArray)[k]'hs=t[k]:=by show t.toArray[k]=t[k]; simp
 exact (Go.decode_high ⟨t.toArray⟩ k hs (by rw [hg]; exact h)).1
def I204 (t:Txt) (k:Nat) (st:St):Prop:=st.h=[⟨0,.sit t k⟩]∧st.s.length=21∧getS st.s 1=.fn 152 [] []∧getS st.s 2=.bool true∧getS st.s 10=.sit 0∧wordAll t=wordAll (t.drop k)
def Q204 (t:Txt) (r:R):Prop:=r.st.s.length=21∧((r.x=.exit 0∧wordAll t=true)∨(r.x=.ret∧∃ k:Nat,getS r.st.s 6=num k∧wordAll t=false))
theorem loop204 (t:Txt) (st:St) (h0:I204 t 0 st):∃ r,ev pg (.code (.going 1 L187_0) st)=some r∧Q204 t r:=by
 refine loop_from (I204 t) t.length (Q204 t) h0 ?_ ?_
 ·rintro k ⟨s,h⟩ hk ⟨rfl,hl,e1,e2,e10,he⟩
  simp only at hl e1 e2 e10
  have he2:wordAll (t.drop k)=(wordN t[k].toNat && wordAll (t.drop (k + 1))):=all_at' hk
  rw [he2] at he
  rw [getS_expand hl]
  by_cases hlow:t[k].toNat < 128
  ·have hd:=dec_low hk hlow
   have hc:=ev152 t[k].toNat
   by_cases hw:wordN t[k].toNat=true
   ·have hb:badR t[k].toNat=false:=by
     have:¬ 122 < t[k].toNat:=fun h=>by simp [wordN,smallN] at hw; omega
     simp [badR,hw,this]
    rw [hw,Bool.true_and] at he
    rw [hb] at hc
    simp [L187_0,I204,List.range,List.range.loop,e1,e2,e10,hk,hd,hc,he]
   ·have hb:badR t[k].toNat=true:=by simp [badR,hw]
    have hw':wordN t[k].toNat=false:=by simpa using hw
    rw [hw',Bool.false_and] at he
    rw [hb] at hc
    simp [L187_0,Q204,List.range,List.range.loop,e1,e2,e10,hk,hd,hc,he]
    exact ⟨k,rfl⟩
  ·have hd:=dec_high hk (by omega)
   have hc:=ev152 (Utf8.decode ⟨t.toArray⟩ k).1
   have hb:badR (Utf8.decode ⟨t.toArray⟩ k).1=true:=by
    have:122 < (Utf8.decode ⟨t.toArray⟩ k).1:=by omega
    simp [badR,this]
   have hw':wordN t[k].toNat=false:=by simp [wordN,smallN]; omega
   rw [hw',Bool.false_and] at he
   rw [hb] at hc
   simp [L187_0,Q204,List.range,List.range.loop,e1,e2,e10,hk,hc,he]
   exact ⟨k,rfl⟩
 ·rintro ⟨s,h⟩ ⟨rfl,hl,e1,e2,e10,he⟩
  simp only [List.drop_length] at hl e1 e2 e10 he
  have he':wordAll t=true:=he
  rw [getS_expand hl]
  simp [L187_0,Q204,List.range,List.range.loop,e1,e2,e10,he']
theorem ev151 (t:Txt):ev pg (.call (.fn 151 [] []) [.str t,.fn 152 [] []] [])=some { v:=.bool (!wordAll t),st:=⟨[],[]⟩ }:=by
 have h204:∃ i:Int,ev pg (.call (.fn 187 [] []) [.str t,.fn 152 [] [],.bool true] [])=some { v:=num i,st:=⟨[],[]⟩ }∧decide (0≤i)=!wordAll t:=by
  rw [ev_call,pg187]
  simp [ir187,ev_loop]
  generalize hr:ev pg (.code (.going 1 L187_0) _)=o
  obtain ⟨r,rfl,hl,hQ⟩:∃ r,o=some r∧Q204 t r:=by rw [← hr]; exact loop204 t _ ⟨by simp,by simp,by simp,by simp,by simp,rfl⟩
  rcases hQ with ⟨hx,hE⟩ | ⟨hx,k,h6,hE⟩
  ·refine ⟨-1,?_⟩
   simp [hx,hl,hE]
  ·refine ⟨k,?_⟩
   simp [hx,h6,hE]
 obtain ⟨i,h204,hi⟩:=h204
 have h189:ev pg (.call (.fn 177 [] []) [.str t,.fn 152 [] []] [])=some { v:=num i,st:=⟨[],[]⟩ }:=by
  rw [ev_call,pg177]
  simp [ir177,h204]
 rw [ev_call,pg151,← hi]
 simp [ir151,h189]
end Go.Proofs.YtlhciedghbmjjaaGreat
