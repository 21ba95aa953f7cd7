/- Signals: errors, by the reference. Controls: errors, by the reference. Controls: errors, by the reference, on. Gates: errors, by the program. Signals: errors, by the program. -/
import Derived.Test.YtlhciedghbmjjaaGreatCt6
set_option linter.all false
namespace Go.Proofs.YtlhciedghbmjjaaGreat
open Go Go.Am Go.Proofs
set_option maxRecDepth 100000
mutual
def Ex.occ (v:Int):Ex→Bool
 | .mk o i l=>if o=1 then i == v else occL v l
def occL (v:Int):List Ex→Bool
 | []=>false
 | x :: l=>x.occ v || occL v l
end
theorem occ_eq (v:Int) (x:Ex):x.occ v=if x.op=1 then x.idx == v else occL v x.args:=by cases x; rw [Ex.occ]; rfl
def Ex.zero (x:Ex):Bool:=decide (x.op=0) && decide (x.idx=0) && decide (x.args.length=0)
theorem ev149 (x:Ex):ev pg (.call (.fn 149 [] []) [x.v] [])=some { v:=.bool x.zero,st:=⟨[],[]⟩ }:=by
 rw [ev_call,pg149]
 by_cases h1:(x.op == 0)=true
 ·have h1':x.op=0:=by simpa using h1
  by_cases h2:(x.idx == 0)=true
  ·have h2':x.idx=0:=by simpa using h2
   by_cases h3:x.args.length=0
   ·have h3':((x.args.length:Int) == 0)=true:=by rw [h3]; rfl
    simp [ir149,Ex.zero,h1',h2',h3]
   ·have h3':((x.args.length:Int) == 0)=false:=by simp; simpa using h3
    simp [ir149,Ex.zero,h1,h2,h3,h3']
  ·have h2':¬ x.idx=0:=by simpa using h2
   have h2b:(x.idx == 0)=false:=by simpa using h2
   simp [ir149,Ex.zero,h1,h2b,h2']
 ·have h1':¬ x.op=0:=by simpa using h1
  have h1b:(x.op == 0)=false:=by simpa using h1
  simp [ir149,Ex.zero,h1b,h1']
def lateGo (on:Ex) (F:Nat):Nat→List Sg→Bool
 | _,[]=>false
 | k,x :: l=>(decide (x.kind=0) && on.occ (F + k:Nat)) || lateGo on F (k + 1) l
def sigE (c:Ct) (A:Nat) (K:List Txt) (i:Nat) (x:Sg):Int :=
 if nameE K x.name=0 then
  if x.kind < 0∨3≤x.kind then 1
  else if x.on.check (countN c A)=0 then
   if x.kind=1∧x.off.check (countN c A) ≠ 0 then x.off.check (countN c A)
   else if x.kind=0∧lateGo x.on (firstN c A) i (c.signals.drop i)=true then 9
   else if x.kind=2∧(x.delay < 1∨1000000 < x.delay) then 2
   else if (x.kind ≠ 1∧(x.off.zero=false∨x.init=true))∨(x.kind ≠ 2∧x.delay ≠ 0) then 3 else 0
  else x.on.check (countN c A)
 else nameE K x.name
theorem nameAt_sig (c:Ct) (A i:Nat) (hi:i < c.signals.length):nameAt c A (firstN c A + i)=c.signals[i].name:=by
 unfold nameAt
 rw [if_neg (by unfold firstN; omega),if_neg (by unfold firstN; omega)]
 rw [show firstN c A + i - (2 * A + c.inputs.length)=i by unfold firstN; omega,List.getElem?_eq_getElem hi]
 rfl
def goE (f:Nat→Int):Nat→Nat→Int
 | _,0=>0
 | k,n + 1=>if f k=0 then goE f (k + 1) n else f k
theorem goE_at {f:Nat→Int} {k n:Nat} (hk:k < n):goE f k (n - k)=if f k=0 then goE f (k + 1) (n - (k + 1)) else f k:=by
 obtain ⟨m,hm⟩:∃ m,n - k=m + 1:=⟨n - k - 1,by omega⟩
 rw [hm,show n - (k + 1)=m by omega,goE]
abbrev badL (n:Int) (x:Int):Bool:=decide (x < 0) || decide (n≤x)
def pilE (c:Ct) (A:Nat):Int:=if c.plus.length ≠ A∨c.minus.length ≠ A then 8 else if (c.plus.any (badL (countN c A)))=true∨(c.minus.any (badL (countN c A)))=true then 6 else 0
theorem any_at {α:Type} {f:α→Bool} {l:List α} {k:Nat} (hk:k < l.length):(l.drop k).any f=(f l[k] || (l.drop (k + 1)).any f):=by
 rw [List.drop_eq_getElem_cons hk]; rfl
abbrev inpF (c:Ct) (A:Nat) (j:Nat):Int:=nameE (namesTo c A (2 * A + j)) (nameAt c A (2 * A + j))
abbrev sigF (c:Ct) (A:Nat) (i:Nat):Int:=match c.signals[i]? with
 | some x=>sigE c A (namesTo c A (firstN c A + i)) i x
 | none=>0
def ctE (c:Ct) (A:Nat):Int :=
 if goE (inpF c A) 0 c.inputs.length=0 then (if goE (sigF c A) 0 c.signals.length=0 then pilE c A else goE (sigF c A) 0 c.signals.length) else goE (inpF c A) 0 c.inputs.length
def Ct.check (c:Ct):Int:=if c.act < 1∨6 < c.act then 2 else if 16 < c.inputs.length∨64 < c.signals.length then 5 else ctE c c.act.toNat
def Ct.small (c:Ct):Bool:=decide (c.inputs.length≤32) && decide (c.signals.length≤128) && decide (c.plus.length≤40) && decide (c.minus.length≤40) && c.inputs.all fewI && c.signals.all fewS
theorem few_parts {c:Ct} (h:c.small=true):c.inputs.length≤32∧c.signals.length≤128∧c.plus.length≤40∧c.minus.length≤40∧(∀ s ∈ c.inputs,s.length≤200)∧(∀ x ∈ c.signals,x.name.length≤200∧x.on.light=true∧x.off.light=true):=by
 simp only [Ct.small,Bool.and_eq_true,decide_eq_true_eq,List.all_eq_true,fewI,fewS] at h
 obtain ⟨⟨⟨⟨⟨h1,h2⟩,h3⟩,h4⟩,h5⟩,h6⟩:=h
 exact ⟨h1,h2,h3,h4,h5,fun x hx=>by
  obtain ⟨⟨a,b⟩,d⟩:=h6 x hx
  exact ⟨a,b,d⟩⟩
def lateF (c:Ct) (F i:Nat) (n:Int):Bool:=decide ((i:Int)≤n - F) && ((c.signals[(n - F).toNat]?).map fun x=>decide (x.kind=0)).getD false
abbrev gT (x:Sg) (i:Nat) (b:Bool) (r:H):H:=⟨0,.arr 0 []⟩ :: ⟨0,.arr 0 []⟩ :: ⟨0,.box x.row⟩ :: ⟨0,.box [.bptr 3 0]⟩ :: ⟨0,.box [num i]⟩ :: ⟨0,.arr 0 []⟩ :: ⟨0,.arr 0 []⟩ :: ⟨0,.box x.row⟩ :: ⟨0,.box [.bool b]⟩ :: r
abbrev eT (x:Sg):H:=[⟨0,.box x.on.cells⟩,⟨0,.box [.fn 148 [] [.bptr 7 0,.bptr 12 0,.bptr 8 0]]⟩,⟨0,.box [.fn 173 [] [.bptr 14 0,.bptr 15 0]]⟩]
abbrev gB (c:Ct) (l:List (Txt × Int)) (x:Sg) (i:Nat) (b:Bool):H:=hX c l (gT x i b (eT x))
theorem ev148 {c:Ct} {A:Nat} (h:Mid c A) (l:List (Txt × Int)) (x:Sg) (i:Nat) (b:Bool) (n:Int) (r:H) (hn:0≤n∧n < (countN c A:Nat)) (hr:∀ b,calm (gB c l x i b++r)):ev pg (.call (.fn 148 [] [.bptr 7 0,.bptr 12 0,.bptr 8 0]) [num n] (gB c l x i b++r))=some { v:=.tup [],st:=⟨[],gB c l x i (b || lateF c (firstN c A) i n)++r⟩ }:=by
 have hf:=ev125 h
 obtain ⟨hA,h1,h2,h3,h4⟩:=h
 obtain ⟨n,rfl⟩:∃ k:Nat,n=k:=⟨n.toNat,by omega⟩
 have hnc:n < 2 * A + c.inputs.length + c.signals.length:=by have:=hn.2; unfold countN at this; omega
 have hck:∀ b,cutK (16 + r.length) (gB c l x i b++r)=gB c l x i b++r:=fun b=>by
  have:=calm_cutK (hr b)
  rw [show (gB c l x i b++r:H).length=16 + r.length by simp; omega] at this
  exact this
 have hlen:r.length + 1 + 1 + 1 + 1 + 1 + 1 + 1 + 1 + 1 + 1 + 1 + 1 + 1 + 1 + 1 + 1=16 + r.length:=by omega
 have w1:=wrap_id (n:=(n:Int) - (2 * (A:Int) + (c.inputs.length:Int))) (by omega) (by omega)
 have hl16:(gB c l x i b++r:H).length=16 + r.length:=by simp; omega
 rw [ev_call,pg148]
 have hlen:r.length + 1 + 1 + 1 + 1 + 1 + 1 + 1 + 1 + 1 + 1 + 1 + 1 + 1 + 1 + 1 + 1=16 + r.length:=by omega
 cases b with
 | true =>
  have hck:=hck true
  simp only [Bool.true_or]
  simp [-cutK,ir148,hf,w1,hlen]
  exact hck
 | false =>
  by_cases hge:(i:Int)≤(n:Int) - (2 * (A:Int) + (c.inputs.length:Int))
  ·obtain ⟨k,hk⟩:∃ k:Nat,(n:Int) - (2 * (A:Int) + (c.inputs.length:Int))=k:=⟨((n:Int) - (2 * (A:Int) + (c.inputs.length:Int))).toNat,by omega⟩
   have hkl:k < c.signals.length:=by omega
   have hik:(i:Int)≤(k:Int):=by omega
   have hL:lateF c (firstN c A) i n=(c.signals[k].kind == 0):=by
    unfold lateF
    rw [show (n:Int) - ((firstN c A:Nat):Int)=k by unfold firstN; omega]
    simp only [Int.toNat_natCast,List.getElem?_eq_getElem hkl,decide_eq_true hik]
    rfl
   rw [hL,Bool.false_or]
   rw [hk] at w1
   have hck:=hck (c.signals[k].kind == 0)
   simp [-cutK,ir148,hf,hk,w1,hlen,hik,hkl]
   exact hck
  ·have hL:lateF c (firstN c A) i n=false:=by
    unfold lateF
    rw [decide_eq_false (by unfold firstN; push_cast; omega),Bool.false_and]
   rw [hL]
   have hck:=hck false
   simp [-cutK,ir148,hf,w1,hlen,hge]
   exact hck
theorem calm_gB (c:Ct) (l:List (Txt × Int)) (x:Sg) (i:Nat) (b:Bool):calm (gB c l x i b):=by
 simp [calm,scrubO]
theorem ev147 {c:Ct} {A:Nat} (h:Mid c A) (l:List (Txt × Int)) (x:Sg) (i:Nat) (hx:x.on.nodes≤256) (hv:x.on.err (countN c A:Nat)=0):ev pg (.call (.fn 147 [] []) [x.on.v,.fn 148 [] [.bptr 7 0,.bptr 12 0,.bptr 8 0]] (hX c l (gT x i false [])))=some { v:=.tup [],st:=⟨[],hX c l (gT x i (x.on.anyV (lateF c (firstN c A) i)) [])⟩ }:=by
 have hY:Eac 14 (countN c A:Nat) (lateF c (firstN c A) i) [.bptr 7 0,.bptr 12 0,.bptr 8 0] (gB c l x i):=⟨fun b=>rfl,fun b=>rfl,fun b=>rfl,fun b n r hn hr=>ev148 h l x i b n r hn hr,rfl⟩
 have h186:=ev173 hY x.on false [] hx hv (fun b=>by rw [List.append_nil]; exact calm_gB c l x i b)
 rw [List.append_nil,List.append_nil,Bool.false_or] at h186
 generalize x.on.anyV (lateF c (firstN c A) i)=B at *
 rw [ev_call,pg147]
 simp [ir147,h186]
abbrev s3 (x:Sg):H:=[⟨0,.arr 0 []⟩,⟨0,.arr 0 []⟩,⟨0,.box x.row⟩]
theorem calm_s3 (c:Ct) (l:List (Txt × Int)) (x:Sg):calm (hX c l (s3 x)):=by
 simp [calm,scrubO]
def gateP (c:Ct) (F i:Nat) (x:Sg):Int:=if x.on.anyV (lateF c F i)=true then 9 else if x.off.zero=false∨x.init=true∨x.delay ≠ 0 then 3 else 0
theorem ev107 {c:Ct} {A:Nat} (h:Mid c A) (l:List (Txt × Int)) (i:Nat) (hi:i < c.signals.length) (hx:c.signals[i].on.nodes≤256) (hv:c.signals[i].on.err (countN c A:Nat)=0):ev pg (.call (.fn 107 [.bptr 3 0] []) [num i] (hX c l (s3 c.signals[i])))=some { v:=num (gateP c (firstN c A) i c.signals[i]),st:=⟨[],hX c l (s3 c.signals[i])⟩ }:=by
 have h153:=ev147 h l c.signals[i] i hx hv
 have hz:=ev149 c.signals[i].off
 have hck:cutK 7 (hX c l (s3 c.signals[i]))=hX c l (s3 c.signals[i]):=calm_cutK (calm_s3 c l c.signals[i])
 unfold gateP
 generalize hG:hX c l (s3 c.signals[i])=G at *
 rw [← hG]
 generalize c.signals[i].on.anyV (lateF c (firstN c A) i)=B at *
 generalize c.signals[i].off.zero=ze at *
 rw [ev_call,pg107]
 cases B with
 | true =>
  simp [ir107,hi,h153]
 | false =>
  cases ze with
  | false =>
   simp [ir107,hi,h153,hz]
  | true =>
   cases hin:c.signals[i].init with
   | true =>
    simp [ir107,hi,h153,hz]
    simp [hin]
   | false =>
    by_cases hd:c.signals[i].delay=0
    ·simp [ir107,hi,h153,hz]
     simp [hin,hd]
    ·simp [ir107,hi,h153,hz]
     simp [hin,hd]
def memP (c:Ct) (A:Nat) (x:Sg):Int:=if x.off.check (countN c A)=0 then (if x.delay=0 then 0 else 3) else x.off.check (countN c A)
theorem ev108 {c:Ct} {A:Nat} (h:Mid c A) (l:List (Txt × Int)) (i:Nat) (hi:i < c.signals.length) (hx:c.signals[i].off.light=true):ev pg (.call (.fn 108 [.bptr 3 0] []) [num i] (hX c l (s3 c.signals[i])))=some { v:=num (memP c A c.signals[i]),st:=⟨[],hX c l (s3 c.signals[i])⟩ }:=by
 have h133:=ev115 h
 have h157:=ev150 c.signals[i].off (countN c A:Nat) hx
 rw [ev_call,pg108]
 unfold memP
 generalize c.signals[i].off.check (countN c A)=e at *
 simp at h157
 by_cases he:e=0
 ·by_cases hd:c.signals[i].delay=0
  ·simp [ir108,ev_draw1,exT,chkOk,hi,h133,h157,he,hd]
  ·simp [ir108,ev_draw1,exT,chkOk,hi,h133,h157,he,hd]
 ·simp [ir108,ev_draw1,exT,chkOk,hi,h133,h157,he]
def timP (x:Sg):Int:=if x.delay < 1∨1000000 < x.delay then 2 else if x.off.zero=false∨x.init=true then 3 else 0
theorem ev109 (c:Ct) (l:List (Txt × Int)) (i:Nat) (hi:i < c.signals.length):ev pg (.call (.fn 109 [.bptr 3 0] []) [num i] (hX c l (s3 c.signals[i])))=some { v:=num (timP c.signals[i]),st:=⟨[],hX c l (s3 c.signals[i])⟩ }:=by
 have hz:=ev149 c.signals[i].off
 unfold timP
 generalize c.signals[i].off.zero=ze at *
 rw [ev_call,pg109]
 by_cases d1:c.signals[i].delay < 1
 ·simp [ir109,hi,d1]
 ·by_cases d2:1000000 < c.signals[i].delay
  ·simp [ir109,hi,d1,d2]
  ·cases ze with
   | false=>simp [ir109,hi,hz,d1,d2]
   | true =>
    cases hin:c.signals[i].init with
    | true =>
     simp [ir109,hi,hz,d1,d2]
     simp [hin]
    | false =>
     simp [ir109,hi,hz,d1,d2]
     simp [hin]
end Go.Proofs.YtlhciedghbmjjaaGreat
