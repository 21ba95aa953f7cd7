/- Names, by the program: the bytes of a text, rune after rune. Names of lines: errors, by the reference and by the program. Variables of an expression: by the program, one after the other; by the reference. -/
import Derived.Test.YtbhkplbciajikaaGreatCt3
set_option linter.all false
namespace Go.Proofs.YtbhkplbciajikaaGreat
open Go Go.Am Go.Proofs
set_option maxRecDepth 100000
theorem wrap8 {n:Int} (h:0≤n) (h2:n < 256):IntKind.u8.wrap n=n:=by
 unfold IntKind.wrap; simp [IntKind.bits,IntKind.signed]; omega
def badR (n:Nat):Bool:=decide (122 < n) || !wordN n
theorem ev160 (n:Nat):ev pg (.call (.fn 160 [] []) [.int .i32 n] [])=some { v:=.bool (badR n),st:=⟨[],[]⟩ }:=by
 rw [ev_call,pg160]
 by_cases h:122 < n
 ·have h':(122:Int) < (n:Int):=by omega
  simp [ir160,badR,h,h']
 ·have h':¬ ((122:Int) < (n:Int)):=by omega
  have hc:=ev161 n
  have w8:=wrap8 (n:=(n:Int)) (by omega) (by omega)
  simp [ir160,badR,h,h',w8,hc]
abbrev wordAll (s:Txt):Bool:=s.all fun b=>wordN b.toNat
theorem all_at' {f:UInt8→Bool} {l:Txt} {k:Nat} (hk:k < l.length):(l.drop k).all f=(f l[k] && (l.drop (k + 1)).all f):=by
 rw [List.drop_eq_getElem_cons hk]; rfl
theorem dec_low {t:Txt} {k:Nat} (hk:k < t.length) (h:t[k].toNat < 128):Utf8.decode ⟨t.toArray⟩ k=(t[k].toNat,1):=by
 have hs:k < (⟨t.toArray⟩:ByteArray).size:=by show k < t.toArray.size; simpa using hk
 have hg:(⟨t.toArray⟩:ByteArray)[k]'hs=t[k]:=by show t.toArray[k]=t[k]; simp
 have:=Go.decode_ascii ⟨t.toArray⟩ k hs (by rw [hg]; exact h)
 rw [hg] at this
 exact this
theorem dec_high {t:Txt} {k:Nat} (hk:k < t.length) (h:128≤t[k].toNat):128≤(Utf8.decode ⟨t.toArray⟩ k).1:=by
 have hs:k < (⟨t.toArray⟩:ByteArray).size:=by show k < t.toArray.size; simpa using hk
 have hg:(⟨t.toArray⟩:ByteArray)[k]'hs=t[k]:=by show t.toArray[k]=t[k]; simp
 exact (Go.decode_high ⟨t.toArray⟩ k hs (by rw [hg]; exact h)).1
def I204 (t:Txt) (k:Nat) (st:St):Prop:=st.h=[⟨0,.sit t k⟩]∧st.s.length=21∧getS st.s 1=.fn 160 [] []∧getS st.s 2=.bool true∧getS st.s 10=.sit 0∧wordAll t=wordAll (t.drop k)
def Q204 (t:Txt) (r:R):Prop:=r.st.s.length=21∧((r.x=.exit 0∧wordAll t=true)∨(r.x=.ret∧∃ k:Nat,getS r.st.s 6=num k∧wordAll t=false))
theorem loop204 (t:Txt) (st:St) (h0:I204 t 0 st):∃ r,ev pg (.code (.going 1 L188_0) st)=some r∧Q204 t r:=by
 refine loop_from (I204 t) t.length (Q204 t) h0 ?_ ?_
 ·rintro k ⟨s,h⟩ hk ⟨rfl,hl,e1,e2,e10,he⟩
  simp only at hl e1 e2 e10
  have he2:wordAll (t.drop k)=(wordN t[k].toNat && wordAll (t.drop (k + 1))):=all_at' hk
  rw [he2] at he
  rw [getS_expand hl]
  by_cases hlow:t[k].toNat < 128
  ·have hd:=dec_low hk hlow
   have hc:=ev160 t[k].toNat
   by_cases hw:wordN t[k].toNat=true
   ·have hb:badR t[k].toNat=false:=by
     have:¬ 122 < t[k].toNat:=fun h=>by simp [wordN,smallN] at hw; omega
     simp [badR,hw,this]
    rw [hw,Bool.true_and] at he
    rw [hb] at hc
    simp [L188_0,I204,List.range,List.range.loop,e1,e2,e10,hk,hd,hc,he]
   ·have hb:badR t[k].toNat=true:=by simp [badR,hw]
    have hw':wordN t[k].toNat=false:=by simpa using hw
    rw [hw',Bool.false_and] at he
    rw [hb] at hc
    simp [L188_0,Q204,List.range,List.range.loop,e1,e2,e10,hk,hd,hc,he]
    exact ⟨k,rfl⟩
  ·have hd:=dec_high hk (by omega)
   have hc:=ev160 (Utf8.decode ⟨t.toArray⟩ k).1
   have hb:badR (Utf8.decode ⟨t.toArray⟩ k).1=true:=by
    have:122 < (Utf8.decode ⟨t.toArray⟩ k).1:=by omega
    simp [badR,this]
   have hw':wordN t[k].toNat=false:=by simp [wordN,smallN]; omega
   rw [hw',Bool.false_and] at he
   rw [hb] at hc
   simp [L188_0,Q204,List.range,List.range.loop,e1,e2,e10,hk,hc,he]
   exact ⟨k,rfl⟩
 ·rintro ⟨s,h⟩ ⟨rfl,hl,e1,e2,e10,he⟩
  simp only [List.drop_length] at hl e1 e2 e10 he
  have he':wordAll t=true:=he
  rw [getS_expand hl]
  simp [L188_0,Q204,List.range,List.range.loop,e1,e2,e10,he']
theorem ev159 (t:Txt):ev pg (.call (.fn 159 [] []) [.str t,.fn 160 [] []] [])=some { v:=.bool (!wordAll t),st:=⟨[],[]⟩ }:=by
 have h204:∃ i:Int,ev pg (.call (.fn 188 [] []) [.str t,.fn 160 [] [],.bool true] [])=some { v:=num i,st:=⟨[],[]⟩ }∧decide (0≤i)=!wordAll t:=by
  rw [ev_call,pg188]
  simp [ir188,ev_loop]
  generalize hr:ev pg (.code (.going 1 L188_0) _)=o
  obtain ⟨r,rfl,hl,hQ⟩:∃ r,o=some r∧Q204 t r:=by rw [← hr]; exact loop204 t _ ⟨by simp,by simp,by simp,by simp,by simp,rfl⟩
  rcases hQ with ⟨hx,hE⟩ | ⟨hx,k,h6,hE⟩
  ·refine ⟨-1,?_⟩
   simp [hx,hl,hE]
  ·refine ⟨k,?_⟩
   simp [hx,h6,hE]
 obtain ⟨i,h204,hi⟩:=h204
 have h189:ev pg (.call (.fn 173 [] []) [.str t,.fn 160 [] []] [])=some { v:=num i,st:=⟨[],[]⟩ }:=by
  rw [ev_call,pg173]
  simp [ir173,h204]
 rw [ev_call,pg159,← hi]
 simp [ir159,h189]
theorem wordGo_all:∀ l:Txt,wordGo false l=wordAll l
 | []=>rfl
 | b :: r=>by
  rw [wordGo,wordGo_all r]
  show _=(wordN b.toNat && wordAll r)
  cases wordN b.toNat <;> simp
theorem wordB_cons (b:UInt8) (r:Txt):wordB (b :: r)=(smallN b.toNat && wordAll (b :: r)):=by
 show ((if (true && !smallN b.toNat) || !wordN b.toNat then false else wordGo false r) && true)=(smallN b.toNat && (wordN b.toNat && wordAll r))
 rw [wordGo_all]
 cases smallN b.toNat <;> cases wordN b.toNat <;> simp
def nameE (K:List Txt) (s:Txt):Int:=if wordB s=true then (if 24 < s.length then 17 else if s ∈ K then 7 else 0) else 3
def namesTo (c:Ct) (A n:Nat):List Txt:=(List.range n).map (nameAt c A)
def I114 (c:Ct) (A n:Nat) (k:Nat) (st:St):Prop:=st.h=[⟨0,.box c.cells⟩]∧st.s.length=26∧getS st.s 1=num n∧getS st.s 2=.bptr 0 0∧getS st.s 5=.str (nameAt c A n)∧getS st.s 6=num k∧∀ j,j < k→nameAt c A j ≠ nameAt c A n
def Q114 (c:Ct) (A n:Nat) (r:R):Prop:=r.st.s.length=26∧((r.x=.exit 0∧¬ nameAt c A n ∈ namesTo c A n)∨(r.x=.ret∧getS r.st.s 4=num 7∧nameAt c A n ∈ namesTo c A n))
theorem loop114 {c:Ct} {A:Nat} (h:Mid c A) (n:Nat) (hn:n < countN c A) (st:St) (h0:I114 c A n 0 st):∃ r,ev pg (.code (.going 1 L69_0) st)=some r∧Q114 c A n r:=by
 have hcn:countN c A≤172:=by
  obtain ⟨hA,h1,h2,h3,h4⟩:=h
  unfold countN
  omega
 refine loop_from (I114 c A n) n (Q114 c A n) h0 ?_ ?_
 ·rintro k ⟨s,hh⟩ hk ⟨rfl,hl,e1,e2,e5,e6,he⟩
  simp only at hl e1 e2 e5 e6
  have hk':(k:Int) < n:=by omega
  have wk:=wrap_id (n:=(k:Int) + 1) (by omega) (by omega)
  have hc:=ev98 h k (by omega)
  rw [getS_expand hl]
  by_cases ha:nameAt c A k=nameAt c A n
  ·have hin:nameAt c A n ∈ namesTo c A n:=List.mem_map.2 ⟨k,List.mem_range.2 hk,ha⟩
   simp [L69_0,Q114,List.range,List.range.loop,e1,e2,e5,e6,hk',hc,ha,hin]
  ·have ha':(nameAt c A k == nameAt c A n)=false:=by simpa using ha
   simp [L69_0,I114,List.range,List.range.loop,e1,e2,e5,e6,hk',hc,ha',wk]
   intro j hj
   by_cases hjk:j=k
   ·rw [hjk]; exact ha
   ·exact he j (by omega)
 ·rintro ⟨s,hh⟩ ⟨rfl,hl,e1,e2,e5,e6,he⟩
  simp only at hl e1 e2 e5 e6
  have hno:¬ nameAt c A n ∈ namesTo c A n:=fun hin=>by
   obtain ⟨j,hj,e⟩:=List.mem_map.1 hin
   exact he j (List.mem_range.1 hj) e
  rw [getS_expand hl]
  simp [L69_0,Q114,List.range,List.range.loop,e1,e2,e5,e6,hno]
theorem ev69 {c:Ct} {A:Nat} (h:Mid c A) (n:Nat) (hn:n < countN c A) (hlen:(nameAt c A n).length < 2 ^ 62):ev pg (.call (.fn 69 [] []) [c.v,num n] [])=some { v:=num (nameE (namesTo c A n) (nameAt c A n)),st:=⟨[],[]⟩ }:=by
 have hc:=ev98 h n hn
 have hw:=ev99 (nameAt c A n) hlen
 rw [ev_call,pg69]
 by_cases h1:wordB (nameAt c A n)=true
 ·by_cases h2:24 < (nameAt c A n).length
  ·have h2':(24:Int) < ((nameAt c A n).length:Int):=by omega
   simp [ir69,nameE,hc,hw,h1,h2,h2']
  ·have h2':¬ ((24:Int) < ((nameAt c A n).length:Int)):=by omega
   simp [ir69,nameE,hc,hw,h1,h2,h2',ev_loop]
   generalize hr:ev pg (.code (.going 1 L69_0) _)=o
   obtain ⟨r,rfl,hl,hQ⟩:∃ r,o=some r∧Q114 c A n r:=by
    rw [← hr]
    exact loop114 h n hn _ ⟨by simp,by simp,by simp,by simp,by simp,by simp,fun j hj=>by omega⟩
   rcases hQ with ⟨hx,hE⟩ | ⟨hx,h4,hE⟩
   ·simp [hx,hl,hE]
   ·simp [hx,h4,hE]
 ·simp [ir69,nameE,hc,hw,h1]
abbrev mapE (l:List (Txt × Int)):List (V × V):=l.map fun p=>(V.str p.1,num p.2)
theorem find_map:∀ (l:List (Txt × Int)) (s:Txt),∃ r,findE (mapE l) (.str s)=some r∧r.isSome=decide (s ∈ l.map Prod.fst)
 | [],s=>⟨none,rfl,by simp⟩
 | (k,v) :: l,s=>by
  obtain ⟨r,h1,h2⟩:=find_map l s
  by_cases h:s=k
  ·subst h
   exact ⟨some (num v),by simp [findE],by simp⟩
  ·have h':(s == k)=false:=by simpa using h
   refine ⟨r,?_,?_⟩
   ·simp only [List.map_cons,findE,eqS,h']
    exact h1
   ·rw [h2]; simp [h]
theorem upd_map:∀ (l:List (Txt × Int)) (s:Txt) (v:Int),∃ l',updL (mapE l) (.str s) (num v)=some (mapE l')∧∀ t,t ∈ l'.map Prod.fst ↔ (t ∈ l.map Prod.fst∨t=s)
 | [],s,v=>⟨[(s,v)],rfl,fun t=>by simp⟩
 | (k,w) :: l,s,v=>by
  obtain ⟨l',h1,h2⟩:=upd_map l s v
  by_cases h:s=k
  ·subst h
   exact ⟨(s,v) :: l,by simp [updL],fun t=>by simp; intro e; exact .inl e⟩
  ·have h':(s == k)=false:=by simpa using h
   refine ⟨(k,w) :: l',?_,fun t=>?_⟩
   ·simp only [List.map_cons,updL,eqS,h']
    rw [h1]; rfl
   ·simp only [List.map_cons,List.mem_cons,h2 t]
    exact ⟨fun h=>by rcases h with h | h | h <;> simp [h],fun h=>by rcases h with (h | h) | h <;> simp [h]⟩
abbrev xcells (c:Ct):List V:=[num c.act,.imm (c.inputs.map srow),.imm (c.signals.map Sg.row),ints c.plus,ints c.minus,.map 2,.fn 140 [.bptr 3 0] [],.fn 141 [.bptr 3 0] [],.fn 142 [.bptr 3 0] []]
abbrev hX (c:Ct) (l:List (Txt × Int)) (t:H):H:=⟨0,.box c.cells⟩ :: ⟨0,.box c.cells⟩ :: ⟨0,.map (mapE l)⟩ :: ⟨0,.box (xcells c)⟩ :: t
theorem ev144 (c:Ct) (l:List (Txt × Int)) (t:H) (hc:∀ l,calm (hX c l t)) (s:Txt):∃ l',ev pg (.call (.fn 144 [] []) [.bptr 3 0,.str s] (hX c l t))=some { v:=num (nameE (l.map Prod.fst) s),st:=⟨[],hX c l' t⟩ }∧((nameE (l.map Prod.fst) s=0∧∀ q,q ∈ l'.map Prod.fst ↔ (q ∈ l.map Prod.fst∨q=s))∨(nameE (l.map Prod.fst) s ≠ 0∧l'=l)):=by
 have h158:=ev159 s
 have hck:∀ l,cutK (t.length + 1 + 1 + 1 + 1) (hX c l t)=hX c l t:=fun l=>calm_cutK (hc l)
 rw [ev_call,pg144]
 cases s with
 | nil =>
  refine ⟨l,?_,.inr ⟨by simp [nameE,wordB],rfl⟩⟩
  simp [-cutK,ir144,nameE,wordB,hck]
 | cons b r =>
  have hwb:=wordB_cons b r
  by_cases g1:b.toNat < 97
  ·have g1':(b.toNat:Int) < 97:=by omega
   have hw:wordB (b :: r)=false:=by rw [hwb]; simp [smallN]; omega
   refine ⟨l,?_,.inr ⟨by simp [nameE,hw],rfl⟩⟩
   simp [-cutK,ir144,nameE,hw,hck,g1']
  by_cases g2:122 < b.toNat
  ·have g1':¬ ((b.toNat:Int) < 97):=by omega
   have g2':(122:Int) < (b.toNat:Int):=by omega
   have hw:wordB (b :: r)=false:=by rw [hwb]; simp [smallN]; omega
   refine ⟨l,?_,.inr ⟨by simp [nameE,hw],rfl⟩⟩
   simp [-cutK,ir144,nameE,hw,hck,g1',g2']
  have g1':¬ ((b.toNat:Int) < 97):=by omega
  have g2':¬ ((122:Int) < (b.toNat:Int)):=by omega
  have hsm:smallN b.toNat=true:=by simp [smallN]; omega
  rw [hsm,Bool.true_and] at hwb
  generalize hwa:wordAll (b :: r)=wa at *
  cases wa with
  | false =>
   refine ⟨l,?_,.inr ⟨by simp [nameE,hwb],rfl⟩⟩
   simp [-cutK,ir144,nameE,hwb,hck,g1',g2',h158]
  | true =>
   by_cases g3:24 < (b :: r).length
   ·have g3':(24:Int) < (r.length:Int) + 1:=by simp only [List.length_cons] at g3; omega
    refine ⟨l,?_,.inr ⟨by rw [nameE,hwb,if_pos rfl,if_pos g3]; omega,rfl⟩⟩
    have he:nameE (l.map Prod.fst) (b :: r)=17:=by rw [nameE,hwb,if_pos rfl,if_pos g3]
    rw [he]
    simp [-cutK,ir144,hck,g1',g2',h158,g3']
   ·have g3':¬ ((24:Int) < (r.length:Int) + 1):=by simp only [List.length_cons] at g3; omega
    obtain ⟨q,hq1,hq2⟩:=find_map l (b :: r)
    by_cases hin:(b :: r) ∈ l.map Prod.fst
    ·have he:nameE (l.map Prod.fst) (b :: r)=7:=by rw [nameE,hwb,if_pos rfl,if_neg g3,if_pos hin]
     rw [decide_eq_true hin] at hq2
     refine ⟨l,?_,.inr ⟨by rw [he]; omega,rfl⟩⟩
     rw [he]
     simp [-cutK,ir144,hck,g1',g2',h158,g3',hq1,hq2]
    ·have he:nameE (l.map Prod.fst) (b :: r)=0:=by rw [nameE,hwb,if_pos rfl,if_neg g3,if_neg hin]
     rw [decide_eq_false hin] at hq2
     obtain ⟨l',hu1,hu2⟩:=upd_map l (b :: r) l.length
     refine ⟨l',?_,.inl ⟨he,hu2⟩⟩
     rw [he]
     simp [-cutK,ir144,ev_draw1,exT,chkOk,hck,g1',g2',h158,g3',hq1,hq2,hu1]
mutual
def Ex.anyV (f:Int→Bool):Ex→Bool
 | .mk o i l=>(decide (o=1) && f i) || anyVL f l
def anyVL (f:Int→Bool):List Ex→Bool
 | []=>false
 | x :: l=>x.anyV f || anyVL f l
end
theorem anyV_eq (f:Int→Bool) (x:Ex):x.anyV f=((decide (x.op=1) && f x.idx) || anyVL f x.args):=by cases x; rw [Ex.anyV]; rfl
theorem anyVL_at {f:Int→Bool} {l:List Ex} {k:Nat} (hk:k < l.length):anyVL f (l.drop k)=(l[k].anyV f || anyVL f (l.drop (k + 1))):=by
 rw [List.drop_eq_getElem_cons hk,anyVL]
theorem errL_zero {n:Int}:∀ {l:List Ex},errL n l=0→∀ y ∈ l,y.err n=0
 | [],_,y,hy=>nomatch hy
 | x :: l,h,y,hy=>by
  rw [errL] at h
  split at h
  ·rename_i hx
   rcases List.mem_cons.1 hy with rfl | hy
   ·exact hx
   ·exact errL_zero h y hy
  ·rename_i hx; exact absurd h hx
theorem err_zero {n:Int} {x:Ex} (h:x.err n=0):nodeE x.op x.idx x.args.length n=0∧∀ y ∈ x.args,y.err n=0:=by
 rw [err_eq] at h
 split at h
 ·rename_i h1; exact ⟨h1,errL_zero h⟩
 ·rename_i h1; exact absurd h h1
theorem node_var {o i n:Int} {k:Nat} (h:nodeE o i k n=0) (ho:o=1):0≤i∧i < n:=by
 subst ho
 by_cases hk:k=0
 ·have e:nodeE 1 i k n=if i < 0∨n≤i then 2 else 0:=by simp [nodeE,hk]
  rw [e] at h
  by_cases hc:i < 0∨n≤i
  ·rw [if_pos hc] at h; omega
  ·omega
 ·have e:nodeE 1 i k n=3:=by simp [nodeE,hk]
  omega
structure Eac (n:Nat) (m:Int) (f:Int→Bool) (caps:List V) (base:Bool→H):Prop where
 len:∀ b,(base b).length=n + 2
 g0:∀ b,(base b)[n]?=some ⟨0,.box [.fn 157 [] caps]⟩
 g1:∀ b,(base b)[n + 1]?=some ⟨0,.box [.fn 172 [] [.bptr n 0,.bptr (n + 1) 0]]⟩
 call:∀ b (i:Int) r,0≤i∧i < m→(∀ b,calm (base b++r))→ev pg (.call (.fn 157 [] caps) [num i] (base b++r))=some { v:=.tup [],st:=⟨[],base (b || f i)++r⟩ }
 caps:V.low 0 (.fn 157 [] caps)=false
structure Keep186 (n:Nat) (x:Ex) (k:Nat) (st:List V):Prop where
 nn:noNil st
 len:st.length=24
 t2:getS st 2=.bptr (n + 1) 0
 t14:getS st 14=.imm (x.args.map Ex.row)
 t15:getS st 15=num x.args.length
 t16:getS st 16=num k
def I186 (n:Nat) (f:Int→Bool) (base:Bool→H) (x:Ex) (r:H) (b0:Bool) (k:Nat) (st:St):Prop:=∃ b,st.h=base b++(r++[⟨0,.box x.cells⟩])∧Keep186 n x k st.s∧(b0 || anyVL f x.args)=(b || anyVL f (x.args.drop k))
def Q186 (f:Int→Bool) (base:Bool→H) (x:Ex) (r:H) (b0:Bool) (q:Am.R):Prop:=q.st.s.length=24∧q.x=.exit 0∧∃ z,q.st.h=base (b0 || anyVL f x.args)++(r++z)
theorem loop186 {n0:Nat} {m:Int} {f:Int→Bool} {caps:List V} {base:Bool→H} (hY:Eac n0 m f caps base) (x:Ex) (hx:x.nodes≤256) (hv:∀ y ∈ x.args,y.err m=0) (r:H) (hr:∀ b,calm (base b++r))
  (ih:∀ y ∈ x.args,∀ (b:Bool) (r:H),y.nodes≤256→y.err m=0→(∀ b,calm (base b++r))→ev pg (.call (.fn 172 [] [.bptr n0 0,.bptr (n0 + 1) 0]) [y.v] (base b++r))=some { v:=.tup [],st:=⟨[],base (b || y.anyV f)++r⟩ })
  (b0:Bool) (n:Nat) (hn:n=n0 + 2 + (r.length + 1)) (st:St) (h0:I186 n0 f base x r b0 0 st):∃ q,ev pg (.code (.going n L172_0) st)=some q∧Q186 f base x r b0 q:=by
 have hfew:=args_few hx
 have hrx:∀ b,calm (base b++(r++[⟨0,.box x.cells⟩])):=fun b=>by
  rw [← List.append_assoc]
  exact calm_app (hr b) (by simp)
 refine loop_from (I186 n0 f base x r b0) x.args.length (Q186 f base x r b0) h0 ?_ ?_
 ·rintro k ⟨sl,h⟩ hk ⟨b,rfl,⟨hnn,hl,e2,e14,e15,e16⟩,hw⟩
  simp only at hl e2 e14 e15 e16
  have hnl:∀ j,getS sl j ≠ .nils:=noNil_get hnn
  have hk':(k:Int) < x.args.length:=by omega
  have wk:=wrap_id (n:=(k:Int) + 1) (by omega) (by omega)
  have hmem:=List.getElem_mem hk
  have hry:∀ b,calm (base b++(r++[⟨0,.box x.cells⟩,⟨0,.arr 0 []⟩,⟨0,.box x.args[k].cells⟩])):=fun b=>by
   have e:base b++(r++[⟨0,.box x.cells⟩,⟨0,.arr 0 []⟩,⟨0,.box x.args[k].cells⟩])=(base b++(r++[⟨0,.box x.cells⟩]))++[⟨0,.arr 0 []⟩,⟨0,.box x.args[k].cells⟩]:=by simp
   rw [e]
   exact calm_app (hrx b) (by simp [scrubO])
  have hc:=ih x.args[k] hmem b _ (args_nodes hx hmem) (hv _ hmem) hry
  have e0:∀ b,base b++(r++[⟨0,.box x.cells⟩,⟨0,.arr 0 []⟩,⟨0,.box x.args[k].cells⟩])=(base b++(r++[⟨0,.box x.cells⟩]))++[⟨0,.arr 0 []⟩,⟨0,.box x.args[k].cells⟩]:=fun b=>by simp
  rw [e0,e0] at hc
  rw [anyVL_at hk,← Bool.or_assoc] at hw
  generalize hs2:(b || x.args[k].anyV f)=b2 at *
  have hl0:(base b++(r++[⟨0,.box x.cells⟩]):H).length=n:=by simp [hY.len,hn]
  have hl2:(base b2++(r++[⟨0,.box x.cells⟩]):H).length=n:=by simp [hY.len,hn]
  have g1:=app_low (r++[⟨0,.box x.cells⟩]) (hY.g1 b)
  have hc2:=hrx b2
  have hcut:=cutL_app hc2
  rw [hl2] at hcut
  generalize hG:base b++(r++[⟨0,.box x.cells⟩])=G at *
  generalize hG2:base b2++(r++[⟨0,.box x.cells⟩])=G2 at *
  have g1':∀ z,(G++z)[n0 + 1]?=some ⟨0,.box [.fn 172 [] [.bptr n0 0,.bptr (n0 + 1) 0]]⟩:=fun z=>app_low z g1
  have t1:=set1 hl0
  rw [getS_expand hl]
  simp [-cutL,L172_0,List.range,List.range.loop,e2,e14,e15,e16,hk,hk',wk,hl0,t1,g1',hc,hcut]
  have h9:n0 + 1 < n:=by omega
  exact ⟨b2,hG2.symm,⟨by simp [noNil,hnl],rfl,by simp [h9],rfl,rfl,rfl⟩,hw⟩
 ·rintro ⟨sl,h⟩ ⟨b,rfl,⟨hnn,hl,e2,e14,e15,e16⟩,hw⟩
  simp only [List.drop_length] at hl e2 e14 e15 e16 hw
  rw [anyVL,Bool.or_false] at hw
  rw [getS_expand hl]
  simp [L172_0,Q186,List.range,List.range.loop,e2,e14,e15,e16,hw]
theorem ev172 {n0:Nat} {m:Int} {f:Int→Bool} {caps:List V} {base:Bool→H} (hY:Eac n0 m f caps base):∀ (x:Ex) (b:Bool) (r:H),x.nodes≤256→x.err m=0→(∀ b,calm (base b++r))→ev pg (.call (.fn 172 [] [.bptr n0 0,.bptr (n0 + 1) 0]) [x.v] (base b++r))=some { v:=.tup [],st:=⟨[],base (b || x.anyV f)++r⟩ }:=by
 refine Ex.ind fun x ih b r hx hv hr=>?_
 obtain ⟨hv1,hv2⟩:=err_zero hv
 have hrx:∀ b,calm (base b++(r++[⟨0,.box x.cells⟩])):=fun b=>by
  rw [← List.append_assoc]
  exact calm_app (hr b) (by simp)
 have hloop:=fun b1=>loop186 hY x hx hv2 r hr ih b1 (n0 + 2 + (r.length + 1)) rfl
 rw [anyV_eq]
 have hl0:(base b++r:H).length=n0 + 2 + r.length:=by simp [hY.len]
 have g0:=app_low r (hY.g0 b)
 have gx:∀ b,(base b++(r++[⟨0,.box x.cells⟩]))[n0 + 2 + r.length]?=some ⟨0,.box x.cells⟩:=fun b=>by
  have:=app0 (h:=base b++r) (n:=n0 + 2 + r.length) (by simp [hY.len]) ⟨0,.box x.cells⟩
  rwa [List.append_assoc] at this
 have g0':=app_low [⟨0,.box x.cells⟩] g0
 rw [List.append_assoc] at g0'
 have hcut:∀ b z,cutK (n0 + 2 + r.length) (base b++(r++z))=base b++r:=fun b z=>by
  have:=cutK_app (hr b) z
  rw [List.append_assoc] at this
  rw [show (base b++r:H).length=n0 + 2 + r.length by simp [hY.len]] at this
  exact this
 rw [ev_call,pg172]
 by_cases ho:x.op=1
 ·have hcl:=hY.call b x.idx (r++[⟨0,.box x.cells⟩]) (node_var hv1 ho) hrx
  have e:(b || (decide (x.op=1) && f x.idx || anyVL f x.args))=((b || f x.idx) || anyVL f x.args):=by simp [ho,Bool.or_assoc]
  rw [e]
  have hloop:=hloop (b || f x.idx)
  generalize (b || f x.idx)=b1 at *
  have hcp:=hY.caps
  have hob:(x.op == 1)=true:=by simpa using ho
  simp at hcp
  simp [-cutK,ir172,hY.len,g0',hob,hcp,hcl,ev_loop]
  generalize hq:ev pg (.code (.going _ L172_0) _)=o
  obtain ⟨q,rfl,hl,hx,z,hh⟩:∃ q,o=some q∧Q186 f base x r b1 q:=by
   rw [← hq]
   refine hloop _ ⟨b1,rfl,⟨?_,?_,?_,?_,?_,?_⟩,rfl⟩
   all_goals simp [noNil]
  simp [-cutK,hx,hh,hcut]
 ·have e:(b || (decide (x.op=1) && f x.idx || anyVL f x.args))=(b || anyVL f x.args):=by simp [ho]
  rw [e]
  have hob:(x.op == 1)=false:=by simpa using ho
  simp [-cutK,ir172,hY.len,hob,ev_loop]
  generalize hq:ev pg (.code (.going _ L172_0) _)=o
  obtain ⟨q,rfl,hl,hx,z,hh⟩:∃ q,o=some q∧Q186 f base x r b q:=by
   rw [← hq]
   refine hloop b _ ⟨b,rfl,⟨?_,?_,?_,?_,?_,?_⟩,rfl⟩
   all_goals simp [noNil]
  simp [-cutK,hx,hh,hcut]
end Go.Proofs.YtbhkplbciajikaaGreat
