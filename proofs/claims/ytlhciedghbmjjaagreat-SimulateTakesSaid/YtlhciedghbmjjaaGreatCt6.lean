/- Names, by the program: the bytes of a text, rune after rune. Names of lines: errors, by the reference and by the program. Variables of an expression: by the program, one after the other; by the reference. -/
import Derived.Test.YtlhciedghbmjjaaGreatCt3
set_option linter.all false
namespace Go.Proofs.YtlhciedghbmjjaaGreat
open Go Go.Am Go.Proofs
set_option maxRecDepth 100000
theorem z3r {n:Int} (h:0≤n) (h2:n < 256):IntKind.u8.wrap n=n:=by
 unfold IntKind.wrap; simp [IntKind.bits,IntKind.signed]; omega
def zgj (n:Nat):Bool:=decide (122 < n) || !qcp n
theorem ev152 (n:Nat):ev pg (.call (.fn 152 [] []) [.int .i32 n] [])=some { v:=.bool (zgj n),st:=⟨[],[]⟩ }:=by
 rw [qac,pg152]
 by_cases h:122 < n
 ·have h':(122:Int) < (n:Int):=by omega
  simp [ir152,zgj,h,h']
 ·have h':¬ ((122:Int) < (n:Int)):=by omega
  have hc:=ev153 n
  have w8:=z3r (n:=(n:Int)) (by omega) (by omega)
  simp [ir152,zgj,h,h',w8,hc]
abbrev qfk (s:Txt):Bool:=s.all fun b=>qcp b.toNat
theorem zqb {f:UInt8→Bool} {l:Txt} {k:Nat} (hk:k < l.length):(l.drop k).all f=(f l[k] && (l.drop (k + 1)).all f):=by
 rw [List.drop_eq_getElem_cons hk]; rfl
theorem zkz {t:Txt} {k:Nat} (hk:k < t.length) (h:t[k].toNat < 128):Utf8.decode ⟨t.toArray⟩ k=(t[k].toNat,1):=by
 have hs:k < (⟨t.toArray⟩:ByteArray).size:=by show k < t.toArray.size; simpa using hk
 have hg:(⟨t.toArray⟩:ByteArray)[k]'hs=t[k]:=by show t.toArray[k]=t[k]; simp
 have:=Go.decode_ascii ⟨t.toArray⟩ k hs (by rw [hg]; exact h)
 rw [hg] at this
 exact this
theorem zfy {t:Txt} {k:Nat} (hk:k < t.length) (h:128≤t[k].toNat):128≤(Utf8.decode ⟨t.toArray⟩ k).1:=by
 have hs:k < (⟨t.toArray⟩:ByteArray).size:=by show k < t.toArray.size; simpa using hk
 have hg:(⟨t.toArray⟩:ByteArray)[k]'hs=t[k]:=by show t.toArray[k]=t[k]; simp
 exact (Go.decode_high ⟨t.toArray⟩ k hs (by rw [hg]; exact h)).1
def z4b (t:Txt) (k:Nat) (st:St):Prop:=st.h=[⟨0,.sit t k⟩]∧st.s.length=21∧qaq st.s 1=.fn 152 [] []∧qaq st.s 2=.bool true∧qaq st.s 10=.sit 0∧qfk t=qfk (t.drop k)
def zrs (t:Txt) (r:R):Prop:=r.st.s.length=21∧((r.x=.exit 0∧qfk t=true)∨(r.x=.ret∧∃ k:Nat,qaq r.st.s 6=num k∧qfk t=false))
theorem znd (t:Txt) (st:St) (h0:z4b t 0 st):∃ r,ev pg (.code (.going 1 L187_0) st)=some r∧zrs t r:=by
 refine qbq (z4b t) t.length (zrs t) h0 ?_ ?_
 ·rintro k ⟨s,h⟩ hk ⟨rfl,hl,e1,e2,e10,he⟩
  simp only at hl e1 e2 e10
  have he2:qfk (t.drop k)=(qcp t[k].toNat && qfk (t.drop (k + 1))):=zqb hk
  rw [he2] at he
  rw [qah hl]
  by_cases hlow:t[k].toNat < 128
  ·have hd:=zkz hk hlow
   have hc:=ev152 t[k].toNat
   by_cases hw:qcp t[k].toNat=true
   ·have hb:zgj t[k].toNat=false:=by
     have:¬ 122 < t[k].toNat:=fun h=>by simp [qcp,qbo] at hw; omega
     simp [zgj,hw,this]
    rw [hw,Bool.true_and] at he
    rw [hb] at hc
    simp [L187_0,z4b,List.range,List.range.loop,e1,e2,e10,hk,hd,hc,he]
   ·have hb:zgj t[k].toNat=true:=by simp [zgj,hw]
    have hw':qcp t[k].toNat=false:=by simpa using hw
    rw [hw',Bool.false_and] at he
    rw [hb] at hc
    simp [L187_0,zrs,List.range,List.range.loop,e1,e2,e10,hk,hd,hc,he]
    exact ⟨k,rfl⟩
  ·have hd:=zfy hk (by omega)
   have hc:=ev152 (Utf8.decode ⟨t.toArray⟩ k).1
   have hb:zgj (Utf8.decode ⟨t.toArray⟩ k).1=true:=by
    have:122 < (Utf8.decode ⟨t.toArray⟩ k).1:=by omega
    simp [zgj,this]
   have hw':qcp t[k].toNat=false:=by simp [qcp,qbo]; omega
   rw [hw',Bool.false_and] at he
   rw [hb] at hc
   simp [L187_0,zrs,List.range,List.range.loop,e1,e2,e10,hk,hc,he]
   exact ⟨k,rfl⟩
 ·rintro ⟨s,h⟩ ⟨rfl,hl,e1,e2,e10,he⟩
  simp only [List.drop_length] at hl e1 e2 e10 he
  have he':qfk t=true:=he
  rw [qah hl]
  simp [L187_0,zrs,List.range,List.range.loop,e1,e2,e10,he']
theorem ev151 (t:Txt):ev pg (.call (.fn 151 [] []) [.str t,.fn 152 [] []] [])=some { v:=.bool (!qfk t),st:=⟨[],[]⟩ }:=by
 have h204:∃ i:Int,ev pg (.call (.fn 187 [] []) [.str t,.fn 152 [] [],.bool true] [])=some { v:=num i,st:=⟨[],[]⟩ }∧decide (0≤i)=!qfk t:=by
  rw [qac,pg187]
  simp [ir187,qag]
  generalize hr:ev pg (.code (.going 1 L187_0) _)=o
  obtain ⟨r,rfl,hl,hQ⟩:∃ r,o=some r∧zrs t r:=by rw [← hr]; exact znd t _ ⟨by simp,by simp,by simp,by simp,by simp,rfl⟩
  rcases hQ with ⟨hx,hE⟩ | ⟨hx,k,h6,hE⟩
  ·refine ⟨-1,?_⟩
   simp [hx,hl,hE]
  ·refine ⟨k,?_⟩
   simp [hx,h6,hE]
 obtain ⟨i,h204,hi⟩:=h204
 have h189:ev pg (.call (.fn 177 [] []) [.str t,.fn 152 [] []] [])=some { v:=num i,st:=⟨[],[]⟩ }:=by
  rw [qac,pg177]
  simp [ir177,h204]
 rw [qac,pg151,← hi]
 simp [ir151,h189]
theorem qwh:∀ l:Txt,qcq false l=qfk l
 | []=>rfl
 | b :: r=>by
  rw [qcq,qwh r]
  show _=(qcp b.toNat && qfk r)
  cases qcp b.toNat <;> simp
theorem q7d (b:UInt8) (r:Txt):qtk (b :: r)=(qbo b.toNat && qfk (b :: r)):=by
 show ((if (true && !qbo b.toNat) || !qcp b.toNat then false else qcq false r) && true)=(qbo b.toNat && (qcp b.toNat && qfk r))
 rw [qwh]
 cases qbo b.toNat <;> cases qcp b.toNat <;> simp
def qdm (K:List Txt) (s:Txt):Int:=if qtk s=true then (if 24 < s.length then 17 else if s ∈ K then 7 else 0) else 3
def qdh (c:Ct) (A n:Nat):List Txt:=(List.range n).map (qbp c A)
def z5d (c:Ct) (A n:Nat) (k:Nat) (st:St):Prop:=st.h=[⟨0,.box c.cells⟩]∧st.s.length=26∧qaq st.s 1=num n∧qaq st.s 2=.bptr 0 0∧qaq st.s 5=.str (qbp c A n)∧qaq st.s 6=num k∧∀ j,j < k→qbp c A j ≠ qbp c A n
def zuc (c:Ct) (A n:Nat) (r:R):Prop:=r.st.s.length=26∧((r.x=.exit 0∧¬ qbp c A n ∈ qdh c A n)∨(r.x=.ret∧qaq r.st.s 4=num 7∧qbp c A n ∈ qdh c A n))
theorem zks {c:Ct} {A:Nat} (h:Mid c A) (n:Nat) (hn:n < qai c A) (st:St) (h0:z5d c A n 0 st):∃ r,ev pg (.code (.going 1 L82_0) st)=some r∧zuc c A n r:=by
 have hcn:qai c A≤172:=by
  obtain ⟨hA,h1,h2,h3,h4⟩:=h
  unfold qai
  omega
 refine qbq (z5d c A n) n (zuc c A n) h0 ?_ ?_
 ·rintro k ⟨s,hh⟩ hk ⟨rfl,hl,e1,e2,e5,e6,he⟩
  simp only at hl e1 e2 e5 e6
  have hk':(k:Int) < n:=by omega
  have wk:=qab (n:=(k:Int) + 1) (by omega) (by omega)
  have hc:=ev116 h k (by omega)
  rw [qah hl]
  by_cases ha:qbp c A k=qbp c A n
  ·have hin:qbp c A n ∈ qdh c A n:=List.mem_map.2 ⟨k,List.mem_range.2 hk,ha⟩
   simp [L82_0,zuc,List.range,List.range.loop,e1,e2,e5,e6,hk',hc,ha,hin]
  ·have ha':(qbp c A k == qbp c A n)=false:=by simpa using ha
   simp [L82_0,z5d,List.range,List.range.loop,e1,e2,e5,e6,hk',hc,ha',wk]
   intro j hj
   by_cases hjk:j=k
   ·rw [hjk]; exact ha
   ·exact he j (by omega)
 ·rintro ⟨s,hh⟩ ⟨rfl,hl,e1,e2,e5,e6,he⟩
  simp only at hl e1 e2 e5 e6
  have hno:¬ qbp c A n ∈ qdh c A n:=fun hin=>by
   obtain ⟨j,hj,e⟩:=List.mem_map.1 hin
   exact he j (List.mem_range.1 hj) e
  rw [qah hl]
  simp [L82_0,zuc,List.range,List.range.loop,e1,e2,e5,e6,hno]
theorem ev82 {c:Ct} {A:Nat} (h:Mid c A) (n:Nat) (hn:n < qai c A) (hlen:(qbp c A n).length < 2 ^ 62):ev pg (.call (.fn 82 [] []) [c.v,num n] [])=some { v:=num (qdm (qdh c A n) (qbp c A n)),st:=⟨[],[]⟩ }:=by
 have hc:=ev116 h n hn
 have hw:=ev117 (qbp c A n) hlen
 rw [qac,pg82]
 by_cases h1:qtk (qbp c A n)=true
 ·by_cases h2:24 < (qbp c A n).length
  ·have h2':(24:Int) < ((qbp c A n).length:Int):=by omega
   simp [ir82,qdm,hc,hw,h1,h2,h2']
  ·have h2':¬ ((24:Int) < ((qbp c A n).length:Int)):=by omega
   simp [ir82,qdm,hc,hw,h1,h2,h2',qag]
   generalize hr:ev pg (.code (.going 1 L82_0) _)=o
   obtain ⟨r,rfl,hl,hQ⟩:∃ r,o=some r∧zuc c A n r:=by
    rw [← hr]
    exact zks h n hn _ ⟨by simp,by simp,by simp,by simp,by simp,by simp,fun j hj=>by omega⟩
   rcases hQ with ⟨hx,hE⟩ | ⟨hx,h4,hE⟩
   ·simp [hx,hl,hE]
   ·simp [hx,h4,hE]
 ·simp [ir82,qdm,hc,hw,h1]
abbrev z1e (l:List (Txt × Int)):List (V × V):=l.map fun p=>(V.str p.1,num p.2)
theorem q5f:∀ (l:List (Txt × Int)) (s:Txt),∃ r,qnu (z1e l) (.str s)=some r∧r.isSome=decide (s ∈ l.map Prod.fst)
 | [],s=>⟨none,rfl,by simp⟩
 | (k,v) :: l,s=>by
  obtain ⟨r,h1,h2⟩:=q5f l s
  by_cases h:s=k
  ·subst h
   exact ⟨some (num v),by simp [qnu],by simp⟩
  ·have h':(s == k)=false:=by simpa using h
   refine ⟨r,?_,?_⟩
   ·simp only [List.map_cons,qnu,eqS,h']
    exact h1
   ·rw [h2]; simp [h]
theorem q2r:∀ (l:List (Txt × Int)) (s:Txt) (v:Int),∃ l',qyt (z1e l) (.str s) (num v)=some (z1e l')∧∀ t,t ∈ l'.map Prod.fst ↔ (t ∈ l.map Prod.fst∨t=s)
 | [],s,v=>⟨[(s,v)],rfl,fun t=>by simp⟩
 | (k,w) :: l,s,v=>by
  obtain ⟨l',h1,h2⟩:=q2r l s v
  by_cases h:s=k
  ·subst h
   exact ⟨(s,v) :: l,by simp [qyt],fun t=>by simp; intro e; exact .inl e⟩
  ·have h':(s == k)=false:=by simpa using h
   refine ⟨(k,w) :: l',?_,fun t=>?_⟩
   ·simp only [List.map_cons,qyt,eqS,h']
    rw [h1]; rfl
   ·simp only [List.map_cons,List.mem_cons,h2 t]
    exact ⟨fun h=>by rcases h with h | h | h <;> simp [h],fun h=>by rcases h with (h | h) | h <;> simp [h]⟩
abbrev ztn (c:Ct):List V:=[num c.act,.imm (c.inputs.map q4o),.imm (c.signals.map Sg.row),qck c.plus,qck c.minus,.map 2,.fn 107 [.bptr 3 0] [],.fn 108 [.bptr 3 0] [],.fn 109 [.bptr 3 0] []]
abbrev hX (c:Ct) (l:List (Txt × Int)) (t:H):H:=⟨0,.box c.cells⟩ :: ⟨0,.box c.cells⟩ :: ⟨0,.map (z1e l)⟩ :: ⟨0,.box (ztn c)⟩ :: t
theorem ev111 (c:Ct) (l:List (Txt × Int)) (t:H) (hc:∀ l,qci (hX c l t)) (s:Txt):∃ l',ev pg (.call (.fn 111 [] []) [.bptr 3 0,.str s] (hX c l t))=some { v:=num (qdm (l.map Prod.fst) s),st:=⟨[],hX c l' t⟩ }∧((qdm (l.map Prod.fst) s=0∧∀ q,q ∈ l'.map Prod.fst ↔ (q ∈ l.map Prod.fst∨q=s))∨(qdm (l.map Prod.fst) s ≠ 0∧l'=l)):=by
 have h158:=ev151 s
 have hck:∀ l,qam (t.length + 1 + 1 + 1 + 1) (hX c l t)=hX c l t:=fun l=>qdg (hc l)
 rw [qac,pg111]
 cases s with
 | nil =>
  refine ⟨l,?_,.inr ⟨by simp [qdm,qtk],rfl⟩⟩
  simp [-qam,ir111,qdm,qtk,hck]
 | cons b r =>
  have hwb:=q7d b r
  by_cases g1:b.toNat < 97
  ·have g1':(b.toNat:Int) < 97:=by omega
   have hw:qtk (b :: r)=false:=by rw [hwb]; simp [qbo]; omega
   refine ⟨l,?_,.inr ⟨by simp [qdm,hw],rfl⟩⟩
   simp [-qam,ir111,qdm,hw,hck,g1']
  by_cases g2:122 < b.toNat
  ·have g1':¬ ((b.toNat:Int) < 97):=by omega
   have g2':(122:Int) < (b.toNat:Int):=by omega
   have hw:qtk (b :: r)=false:=by rw [hwb]; simp [qbo]; omega
   refine ⟨l,?_,.inr ⟨by simp [qdm,hw],rfl⟩⟩
   simp [-qam,ir111,qdm,hw,hck,g1',g2']
  have g1':¬ ((b.toNat:Int) < 97):=by omega
  have g2':¬ ((122:Int) < (b.toNat:Int)):=by omega
  have hsm:qbo b.toNat=true:=by simp [qbo]; omega
  rw [hsm,Bool.true_and] at hwb
  generalize hwa:qfk (b :: r)=wa at *
  cases wa with
  | false =>
   refine ⟨l,?_,.inr ⟨by simp [qdm,hwb],rfl⟩⟩
   simp [-qam,ir111,qdm,hwb,hck,g1',g2',h158]
  | true =>
   by_cases g3:24 < (b :: r).length
   ·have g3':(24:Int) < (r.length:Int) + 1:=by simp only [List.length_cons] at g3; omega
    refine ⟨l,?_,.inr ⟨by rw [qdm,hwb,if_pos rfl,if_pos g3]; omega,rfl⟩⟩
    have he:qdm (l.map Prod.fst) (b :: r)=17:=by rw [qdm,hwb,if_pos rfl,if_pos g3]
    rw [he]
    simp [-qam,ir111,hck,g1',g2',h158,g3']
   ·have g3':¬ ((24:Int) < (r.length:Int) + 1):=by simp only [List.length_cons] at g3; omega
    obtain ⟨q,hq1,hq2⟩:=q5f l (b :: r)
    by_cases hin:(b :: r) ∈ l.map Prod.fst
    ·have he:qdm (l.map Prod.fst) (b :: r)=7:=by rw [qdm,hwb,if_pos rfl,if_neg g3,if_pos hin]
     rw [decide_eq_true hin] at hq2
     refine ⟨l,?_,.inr ⟨by rw [he]; omega,rfl⟩⟩
     rw [he]
     simp [-qam,ir111,hck,g1',g2',h158,g3',hq1,hq2]
    ·have he:qdm (l.map Prod.fst) (b :: r)=0:=by rw [qdm,hwb,if_pos rfl,if_neg g3,if_neg hin]
     rw [decide_eq_false hin] at hq2
     obtain ⟨l',hu1,hu2⟩:=q2r l (b :: r) l.length
     refine ⟨l',?_,.inl ⟨he,hu2⟩⟩
     rw [he]
     simp [-qam,ir111,qaa,exT,qad,hck,g1',g2',h158,g3',hq1,hq2,hu1]
mutual
def Ex.anyV (f:Int→Bool):Ex→Bool
 | .mk o i l=>(decide (o=1) && f i) || qia f l
def qia (f:Int→Bool):List Ex→Bool
 | []=>false
 | x :: l=>x.anyV f || qia f l
end
theorem q3e (f:Int→Bool) (x:Ex):x.anyV f=((decide (x.op=1) && f x.idx) || qia f x.args):=by cases x; rw [Ex.anyV]; rfl
theorem zhd {f:Int→Bool} {l:List Ex} {k:Nat} (hk:k < l.length):qia f (l.drop k)=(l[k].anyV f || qia f (l.drop (k + 1))):=by
 rw [List.drop_eq_getElem_cons hk,qia]
theorem q0s {n:Int}:∀ {l:List Ex},q1d n l=0→∀ y ∈ l,y.err n=0
 | [],_,y,hy=>nomatch hy
 | x :: l,h,y,hy=>by
  rw [q1d] at h
  split at h
  ·rename_i hx
   rcases List.mem_cons.1 hy with rfl | hy
   ·exact hx
   ·exact q0s h y hy
  ·rename_i hx; exact absurd h hx
theorem qrr {n:Int} {x:Ex} (h:x.err n=0):qbi x.op x.idx x.args.length n=0∧∀ y ∈ x.args,y.err n=0:=by
 rw [q5c] at h
 split at h
 ·rename_i h1; exact ⟨h1,q0s h⟩
 ·rename_i h1; exact absurd h h1
theorem qxz {o i n:Int} {k:Nat} (h:qbi o i k n=0) (ho:o=1):0≤i∧i < n:=by
 subst ho
 by_cases hk:k=0
 ·have e:qbi 1 i k n=if i < 0∨n≤i then 2 else 0:=by simp [qbi,hk]
  rw [e] at h
  by_cases hc:i < 0∨n≤i
  ·rw [if_pos hc] at h; omega
  ·omega
 ·have e:qbi 1 i k n=3:=by simp [qbi,hk]
  omega
structure Eac (n:Nat) (m:Int) (f:Int→Bool) (caps:List V) (base:Bool→H):Prop where
 len:∀ b,(base b).length=n + 2
 g0:∀ b,(base b)[n]?=some ⟨0,.box [.fn 148 [] caps]⟩
 g1:∀ b,(base b)[n + 1]?=some ⟨0,.box [.fn 173 [] [.bptr n 0,.bptr (n + 1) 0]]⟩
 call:∀ b (i:Int) r,0≤i∧i < m→(∀ b,qci (base b++r))→ev pg (.call (.fn 148 [] caps) [num i] (base b++r))=some { v:=.tup [],st:=⟨[],base (b || f i)++r⟩ }
 caps:V.low 0 (.fn 148 [] caps)=false
structure Keep186 (n:Nat) (x:Ex) (k:Nat) (st:List V):Prop where
 nn:qdd st
 len:st.length=24
 t2:qaq st 2=.bptr (n + 1) 0
 t14:qaq st 14=.imm (x.args.map Ex.row)
 t15:qaq st 15=num x.args.length
 t16:qaq st 16=num k
def z7j (n:Nat) (f:Int→Bool) (base:Bool→H) (x:Ex) (r:H) (b0:Bool) (k:Nat) (st:St):Prop:=∃ b,st.h=base b++(r++[⟨0,.box x.cells⟩])∧Keep186 n x k st.s∧(b0 || qia f x.args)=(b || qia f (x.args.drop k))
def zvy (f:Int→Bool) (base:Bool→H) (x:Ex) (r:H) (b0:Bool) (q:Am.R):Prop:=q.st.s.length=24∧q.x=.exit 0∧∃ z,q.st.h=base (b0 || qia f x.args)++(r++z)
theorem zof {n0:Nat} {m:Int} {f:Int→Bool} {caps:List V} {base:Bool→H} (hY:Eac n0 m f caps base) (x:Ex) (hx:x.nodes≤256) (hv:∀ y ∈ x.args,y.err m=0) (r:H) (hr:∀ b,qci (base b++r))
  (ih:∀ y ∈ x.args,∀ (b:Bool) (r:H),y.nodes≤256→y.err m=0→(∀ b,qci (base b++r))→ev pg (.call (.fn 173 [] [.bptr n0 0,.bptr (n0 + 1) 0]) [y.v] (base b++r))=some { v:=.tup [],st:=⟨[],base (b || y.anyV f)++r⟩ })
  (b0:Bool) (n:Nat) (hn:n=n0 + 2 + (r.length + 1)) (st:St) (h0:z7j n0 f base x r b0 0 st):∃ q,ev pg (.code (.going n L173_0) st)=some q∧zvy f base x r b0 q:=by
 have hfew:=qga hx
 have hrx:∀ b,qci (base b++(r++[⟨0,.box x.cells⟩])):=fun b=>by
  rw [← List.append_assoc]
  exact qdo (hr b) (by simp)
 refine qbq (z7j n0 f base x r b0) x.args.length (zvy f base x r b0) h0 ?_ ?_
 ·rintro k ⟨sl,h⟩ hk ⟨b,rfl,⟨hnn,hl,e2,e14,e15,e16⟩,hw⟩
  simp only at hl e2 e14 e15 e16
  have hnl:∀ j,qaq sl j ≠ .nils:=qcb hnn
  have hk':(k:Int) < x.args.length:=by omega
  have wk:=qab (n:=(k:Int) + 1) (by omega) (by omega)
  have hmem:=List.getElem_mem hk
  have hry:∀ b,qci (base b++(r++[⟨0,.box x.cells⟩,⟨0,.arr 0 []⟩,⟨0,.box x.args[k].cells⟩])):=fun b=>by
   have e:base b++(r++[⟨0,.box x.cells⟩,⟨0,.arr 0 []⟩,⟨0,.box x.args[k].cells⟩])=(base b++(r++[⟨0,.box x.cells⟩]))++[⟨0,.arr 0 []⟩,⟨0,.box x.args[k].cells⟩]:=by simp
   rw [e]
   exact qdo (hrx b) (by simp [qbl])
  have hc:=ih x.args[k] hmem b _ (qft hx hmem) (hv _ hmem) hry
  have e0:∀ b,base b++(r++[⟨0,.box x.cells⟩,⟨0,.arr 0 []⟩,⟨0,.box x.args[k].cells⟩])=(base b++(r++[⟨0,.box x.cells⟩]))++[⟨0,.arr 0 []⟩,⟨0,.box x.args[k].cells⟩]:=fun b=>by simp
  rw [e0,e0] at hc
  rw [zhd hk,← Bool.or_assoc] at hw
  generalize hs2:(b || x.args[k].anyV f)=b2 at *
  have hl0:(base b++(r++[⟨0,.box x.cells⟩]):H).length=n:=by simp [hY.len,hn]
  have hl2:(base b2++(r++[⟨0,.box x.cells⟩]):H).length=n:=by simp [hY.len,hn]
  have g1:=qhl (r++[⟨0,.box x.cells⟩]) (hY.g1 b)
  have hc2:=hrx b2
  have hcut:=qye hc2
  rw [hl2] at hcut
  generalize hG:base b++(r++[⟨0,.box x.cells⟩])=G at *
  generalize hG2:base b2++(r++[⟨0,.box x.cells⟩])=G2 at *
  have g1':∀ z,(G++z)[n0 + 1]?=some ⟨0,.box [.fn 173 [] [.bptr n0 0,.bptr (n0 + 1) 0]]⟩:=fun z=>qhl z g1
  have t1:=z0u hl0
  rw [qah hl]
  simp [-qay,L173_0,List.range,List.range.loop,e2,e14,e15,e16,hk,hk',wk,hl0,t1,g1',hc,hcut]
  have h9:n0 + 1 < n:=by omega
  exact ⟨b2,hG2.symm,⟨by simp [qdd,hnl],rfl,by simp [h9],rfl,rfl,rfl⟩,hw⟩
 ·rintro ⟨sl,h⟩ ⟨b,rfl,⟨hnn,hl,e2,e14,e15,e16⟩,hw⟩
  simp only [List.drop_length] at hl e2 e14 e15 e16 hw
  rw [qia,Bool.or_false] at hw
  rw [qah hl]
  simp [L173_0,zvy,List.range,List.range.loop,e2,e14,e15,e16,hw]
theorem ev173 {n0:Nat} {m:Int} {f:Int→Bool} {caps:List V} {base:Bool→H} (hY:Eac n0 m f caps base):∀ (x:Ex) (b:Bool) (r:H),x.nodes≤256→x.err m=0→(∀ b,qci (base b++r))→ev pg (.call (.fn 173 [] [.bptr n0 0,.bptr (n0 + 1) 0]) [x.v] (base b++r))=some { v:=.tup [],st:=⟨[],base (b || x.anyV f)++r⟩ }:=by
 refine Ex.ind fun x ih b r hx hv hr=>?_
 obtain ⟨hv1,hv2⟩:=qrr hv
 have hrx:∀ b,qci (base b++(r++[⟨0,.box x.cells⟩])):=fun b=>by
  rw [← List.append_assoc]
  exact qdo (hr b) (by simp)
 have hloop:=fun b1=>zof hY x hx hv2 r hr ih b1 (n0 + 2 + (r.length + 1)) rfl
 rw [q3e]
 have hl0:(base b++r:H).length=n0 + 2 + r.length:=by simp [hY.len]
 have g0:=qhl r (hY.g0 b)
 have gx:∀ b,(base b++(r++[⟨0,.box x.cells⟩]))[n0 + 2 + r.length]?=some ⟨0,.box x.cells⟩:=fun b=>by
  have:=z6z (h:=base b++r) (n:=n0 + 2 + r.length) (by simp [hY.len]) ⟨0,.box x.cells⟩
  rwa [List.append_assoc] at this
 have g0':=qhl [⟨0,.box x.cells⟩] g0
 rw [List.append_assoc] at g0'
 have hcut:∀ b z,qam (n0 + 2 + r.length) (base b++(r++z))=base b++r:=fun b z=>by
  have:=qde (hr b) z
  rw [List.append_assoc] at this
  rw [show (base b++r:H).length=n0 + 2 + r.length by simp [hY.len]] at this
  exact this
 rw [qac,pg173]
 by_cases ho:x.op=1
 ·have hcl:=hY.call b x.idx (r++[⟨0,.box x.cells⟩]) (qxz hv1 ho) hrx
  have e:(b || (decide (x.op=1) && f x.idx || qia f x.args))=((b || f x.idx) || qia f x.args):=by simp [ho,Bool.or_assoc]
  rw [e]
  have hloop:=hloop (b || f x.idx)
  generalize (b || f x.idx)=b1 at *
  have hcp:=hY.caps
  have hob:(x.op == 1)=true:=by simpa using ho
  simp at hcp
  simp [-qam,ir173,hY.len,g0',hob,hcp,hcl,qag]
  generalize hq:ev pg (.code (.going _ L173_0) _)=o
  obtain ⟨q,rfl,hl,hx,z,hh⟩:∃ q,o=some q∧zvy f base x r b1 q:=by
   rw [← hq]
   refine hloop _ ⟨b1,rfl,⟨?_,?_,?_,?_,?_,?_⟩,rfl⟩
   all_goals simp [qdd]
  simp [-qam,hx,hh,hcut]
 ·have e:(b || (decide (x.op=1) && f x.idx || qia f x.args))=(b || qia f x.args):=by simp [ho]
  rw [e]
  have hob:(x.op == 1)=false:=by simpa using ho
  simp [-qam,ir173,hY.len,hob,qag]
  generalize hq:ev pg (.code (.going _ L173_0) _)=o
  obtain ⟨q,rfl,hl,hx,z,hh⟩:∃ q,o=some q∧zvy f base x r b q:=by
   rw [← hq]
   refine hloop b _ ⟨b,rfl,⟨?_,?_,?_,?_,?_,?_⟩,rfl⟩
   all_goals simp [qdd]
  simp [-qam,hx,hh,hcut]
end Go.Proofs.YtlhciedghbmjjaaGreat
