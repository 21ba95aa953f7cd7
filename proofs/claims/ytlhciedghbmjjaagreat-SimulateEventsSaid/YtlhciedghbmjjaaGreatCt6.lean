/- Names of lines: errors, by the reference and by the program. Variables of an expression: by the program, one after the other; by the reference. -/
import Derived.Test.YtlhciedghbmjjaaGreatCt4
set_option linter.all false
namespace Go.Proofs.YtlhciedghbmjjaaGreat
open Go Go.Am Go.Proofs
set_option maxRecDepth 100000
theorem wordGo_all:∀ l:Txt,wordGo false l=wordAll l
 | []=>rfl
 | b :: r=>by
  rw [wordGo,wordGo_all r]
  show _=(wordN b.toNat && wordAll r)
  cases wordN b.toNat <;> simp
theorem wordB_cons (b:UInt8) (r:Txt):wordB (b :: r)=(smallN b.toNat && wordAll (b :: r)):=by
 show ((if (true && !smallN b.toNat) || !wordN b.toNat then false else wordGo false r) && true)=(smallN b.toNat && (wordN b.toNat && wordAll r))
 rw [wordGo_all]
 cases smallN b.toNat <;> cases wordN b.toNat <;> simp
def nameE (K:List Txt) (s:Txt):Int:=if wordB s=true then (if 24 < s.length then 17 else if s ∈ K then 7 else 0) else 3
def namesTo (c:Ct) (A n:Nat):List Txt:=(List.range n).map (nameAt c A)
abbrev mapE (l:List (Txt × Int)):List (V × V):=l.map fun p=>(V.str p.1,num p.2)
theorem find_map:∀ (l:List (Txt × Int)) (s:Txt),∃ r,findE (mapE l) (.str s)=some r∧r.isSome=decide (s ∈ l.map Prod.fst)
 | [],s=>⟨none,rfl,by simp⟩
 | (k,v) :: l,s=>by
  obtain ⟨r,h1,h2⟩:=find_map l s
  by_cases h:s=k
  ·subst h
   exact ⟨some (num v),by simp [findE],by simp⟩
  ·have h':(s == k)=false:=by simpa using h
   refine ⟨r,?_,?_⟩
   ·simp only [List.map_cons,findE,eqS,h']
    exact h1
   ·rw [h2]; simp [h]
theorem upd_map:∀ (l:List (Txt × Int)) (s:Txt) (v:Int),∃ l',updL (mapE l) (.str s) (num v)=some (mapE l')∧∀ t,t ∈ l'.map Prod.fst ↔ (t ∈ l.map Prod.fst∨t=s)
 | [],s,v=>⟨[(s,v)],rfl,fun t=>by simp⟩
 | (k,w) :: l,s,v=>by
  obtain ⟨l',h1,h2⟩:=upd_map l s v
  by_cases h:s=k
  ·subst h
   exact ⟨(s,v) :: l,by simp [updL],fun t=>by simp; intro e; exact .inl e⟩
  ·have h':(s == k)=false:=by simpa using h
   refine ⟨(k,w) :: l',?_,fun t=>?_⟩
   ·simp only [List.map_cons,updL,eqS,h']
    rw [h1]; rfl
   ·simp only [List.map_cons,List.mem_cons,h2 t]
    exact ⟨fun h=>by rcases h with h | h | h <;> simp [h],fun h=>by rcases h with (h | h) | h <;> simp [h]⟩
abbrev xcells (c:Ct):List V:=[num c.act,.imm (c.inputs.map srow),.imm (c.signals.map Sg.row),ints c.plus,ints c.minus,.map 2,.fn 107 [.bptr 3 0] [],.fn 108 [.bptr 3 0] [],.fn 109 [.bptr 3 0] []]
abbrev hX (c:Ct) (l:List (Txt × Int)) (t:H):H:=⟨0,.box c.cells⟩ :: ⟨0,.box c.cells⟩ :: ⟨0,.map (mapE l)⟩ :: ⟨0,.box (xcells c)⟩ :: t
theorem ev111 (c:Ct) (l:List (Txt × Int)) (t:H) (hc:∀ l,calm (hX c l t)) (s:Txt):∃ l',ev pg (.call (.fn 111 [] []) [.bptr 3 0,.str s] (hX c l t))=some { v:=num (nameE (l.map Prod.fst) s),st:=⟨[],hX c l' t⟩ }∧((nameE (l.map Prod.fst) s=0∧∀ q,q ∈ l'.map Prod.fst ↔ (q ∈ l.map Prod.fst∨q=s))∨(nameE (l.map Prod.fst) s ≠ 0∧l'=l)):=by
 have h158:=ev151 s
 have hck:∀ l,cutK (t.length + 1 + 1 + 1 + 1) (hX c l t)=hX c l t:=fun l=>calm_cutK (hc l)
 rw [ev_call,pg111]
 cases s with
 | nil =>
  refine ⟨l,?_,.inr ⟨by simp [nameE,wordB],rfl⟩⟩
  simp [-cutK,ir111,nameE,wordB,hck]
 | cons b r =>
  have hwb:=wordB_cons b r
  by_cases g1:b.toNat < 97
  ·have g1':(b.toNat:Int) < 97:=by omega
   have hw:wordB (b :: r)=false:=by rw [hwb]; simp [smallN]; omega
   refine ⟨l,?_,.inr ⟨by simp [nameE,hw],rfl⟩⟩
   simp [-cutK,ir111,nameE,hw,hck,g1']
  by_cases g2:122 < b.toNat
  ·have g1':¬ ((b.toNat:Int) < 97):=by omega
   have g2':(122:Int) < (b.toNat:Int):=by omega
   have hw:wordB (b :: r)=false:=by rw [hwb]; simp [smallN]; omega
   refine ⟨l,?_,.inr ⟨by simp [nameE,hw],rfl⟩⟩
   simp [-cutK,ir111,nameE,hw,hck,g1',g2']
  have g1':¬ ((b.toNat:Int) < 97):=by omega
  have g2':¬ ((122:Int) < (b.toNat:Int)):=by omega
  have hsm:smallN b.toNat=true:=by simp [smallN]; omega
  rw [hsm,Bool.true_and] at hwb
  generalize hwa:wordAll (b :: r)=wa at *
  cases wa with
  | false =>
   refine ⟨l,?_,.inr ⟨by simp [nameE,hwb],rfl⟩⟩
   simp [-cutK,ir111,nameE,hwb,hck,g1',g2',h158]
  | true =>
   by_cases g3:24 < (b :: r).length
   ·have g3':(24:Int) < (r.length:Int) + 1:=by simp only [List.length_cons] at g3; omega
    refine ⟨l,?_,.inr ⟨by rw [nameE,hwb,if_pos rfl,if_pos g3]; omega,rfl⟩⟩
    have he:nameE (l.map Prod.fst) (b :: r)=17:=by rw [nameE,hwb,if_pos rfl,if_pos g3]
    rw [he]
    simp [-cutK,ir111,hck,g1',g2',h158,g3']
   ·have g3':¬ ((24:Int) < (r.length:Int) + 1):=by simp only [List.length_cons] at g3; omega
    obtain ⟨q,hq1,hq2⟩:=find_map l (b :: r)
    by_cases hin:(b :: r) ∈ l.map Prod.fst
    ·have he:nameE (l.map Prod.fst) (b :: r)=7:=by rw [nameE,hwb,if_pos rfl,if_neg g3,if_pos hin]
     rw [decide_eq_true hin] at hq2
     refine ⟨l,?_,.inr ⟨by rw [he]; omega,rfl⟩⟩
     rw [he]
     simp [-cutK,ir111,hck,g1',g2',h158,g3',hq1,hq2]
    ·have he:nameE (l.map Prod.fst) (b :: r)=0:=by rw [nameE,hwb,if_pos rfl,if_neg g3,if_neg hin]
     rw [decide_eq_false hin] at hq2
     obtain ⟨l',hu1,hu2⟩:=upd_map l (b :: r) l.length
     refine ⟨l',?_,.inl ⟨he,hu2⟩⟩
     rw [he]
     simp [-cutK,ir111,ev_draw1,exT,chkOk,hck,g1',g2',h158,g3',hq1,hq2,hu1]
mutual
def Ex.anyV (f:Int→Bool):Ex→Bool
 | .mk o i l=>(decide (o=1) && f i) || anyVL f l
def anyVL (f:Int→Bool):List Ex→Bool
 | []=>false
 | x :: l=>x.anyV f || anyVL f l
end
theorem anyV_eq (f:Int→Bool) (x:Ex):x.anyV f=((decide (x.op=1) && f x.idx) || anyVL f x.args):=by cases x; rw [Ex.anyV]; rfl
theorem anyVL_at {f:Int→Bool} {l:List Ex} {k:Nat} (hk:k < l.length):anyVL f (l.drop k)=(l[k].anyV f || anyVL f (l.drop (k + 1))):=by
 rw [List.drop_eq_getElem_cons hk,anyVL]
theorem errL_zero {n:Int}:∀ {l:List Ex},errL n l=0→∀ y ∈ l,y.err n=0
 | [],_,y,hy=>nomatch hy
 | x :: l,h,y,hy=>by
  rw [errL] at h
  split at h
  ·rename_i hx
   rcases List.mem_cons.1 hy with rfl | hy
   ·exact hx
   ·exact errL_zero h y hy
  ·rename_i hx; exact absurd h hx
theorem err_zero {n:Int} {x:Ex} (h:x.err n=0):nodeE x.op x.idx x.args.length n=0∧∀ y ∈ x.args,y.err n=0:=by
 rw [err_eq] at h
 split at h
 ·rename_i h1; exact ⟨h1,errL_zero h⟩
 ·rename_i h1; exact absurd h h1
theorem node_var {o i n:Int} {k:Nat} (h:nodeE o i k n=0) (ho:o=1):0≤i∧i < n:=by
 subst ho
 by_cases hk:k=0
 ·have e:nodeE 1 i k n=if i < 0∨n≤i then 2 else 0:=by simp [nodeE,hk]
  rw [e] at h
  by_cases hc:i < 0∨n≤i
  ·rw [if_pos hc] at h; omega
  ·omega
 ·have e:nodeE 1 i k n=3:=by simp [nodeE,hk]
  omega
structure Eac (n:Nat) (m:Int) (f:Int→Bool) (caps:List V) (base:Bool→H):Prop where
 len:∀ b,(base b).length=n + 2
 g0:∀ b,(base b)[n]?=some ⟨0,.box [.fn 148 [] caps]⟩
 g1:∀ b,(base b)[n + 1]?=some ⟨0,.box [.fn 173 [] [.bptr n 0,.bptr (n + 1) 0]]⟩
 call:∀ b (i:Int) r,0≤i∧i < m→(∀ b,calm (base b++r))→ev pg (.call (.fn 148 [] caps) [num i] (base b++r))=some { v:=.tup [],st:=⟨[],base (b || f i)++r⟩ }
 caps:V.low 0 (.fn 148 [] caps)=false
structure Keep186 (n:Nat) (x:Ex) (k:Nat) (st:List V):Prop where
 nn:noNil st
 len:st.length=24
 t2:getS st 2=.bptr (n + 1) 0
 t14:getS st 14=.imm (x.args.map Ex.row)
 t15:getS st 15=num x.args.length
 t16:getS st 16=num k
def I186 (n:Nat) (f:Int→Bool) (base:Bool→H) (x:Ex) (r:H) (b0:Bool) (k:Nat) (st:St):Prop:=∃ b,st.h=base b++(r++[⟨0,.box x.cells⟩])∧Keep186 n x k st.s∧(b0 || anyVL f x.args)=(b || anyVL f (x.args.drop k))
def Q186 (f:Int→Bool) (base:Bool→H) (x:Ex) (r:H) (b0:Bool) (q:Am.R):Prop:=q.st.s.length=24∧q.x=.exit 0∧∃ z,q.st.h=base (b0 || anyVL f x.args)++(r++z)
theorem loop186 {n0:Nat} {m:Int} {f:Int→Bool} {caps:List V} {base:Bool→H} (hY:Eac n0 m f caps base) (x:Ex) (hx:x.nodes≤256) (hv:∀ y ∈ x.args,y.err m=0) (r:H) (hr:∀ b,calm (base b++r))
  (ih:∀ y ∈ x.args,∀ (b:Bool) (r:H),y.nodes≤256→y.err m=0→(∀ b,calm (base b++r))→ev pg (.call (.fn 173 [] [.bptr n0 0,.bptr (n0 + 1) 0]) [y.v] (base b++r))=some { v:=.tup [],st:=⟨[],base (b || y.anyV f)++r⟩ })
  (b0:Bool) (n:Nat) (hn:n=n0 + 2 + (r.length + 1)) (st:St) (h0:I186 n0 f base x r b0 0 st):∃ q,ev pg (.code (.going n L173_0) st)=some q∧Q186 f base x r b0 q:=by
 have hfew:=args_few hx
 have hrx:∀ b,calm (base b++(r++[⟨0,.box x.cells⟩])):=fun b=>by
  rw [← List.append_assoc]
  exact calm_app (hr b) (by simp)
 refine loop_from (I186 n0 f base x r b0) x.args.length (Q186 f base x r b0) h0 ?_ ?_
 ·rintro k ⟨sl,h⟩ hk ⟨b,rfl,⟨hnn,hl,e2,e14,e15,e16⟩,hw⟩
  simp only at hl e2 e14 e15 e16
  have hnl:∀ j,getS sl j ≠ .nils:=noNil_get hnn
  have hk':(k:Int) < x.args.length:=by omega
  have wk:=wrap_id (n:=(k:Int) + 1) (by omega) (by omega)
  have hmem:=List.getElem_mem hk
  have hry:∀ b,calm (base b++(r++[⟨0,.box x.cells⟩,⟨0,.arr 0 []⟩,⟨0,.box x.args[k].cells⟩])):=fun b=>by
   have e:base b++(r++[⟨0,.box x.cells⟩,⟨0,.arr 0 []⟩,⟨0,.box x.args[k].cells⟩])=(base b++(r++[⟨0,.box x.cells⟩]))++[⟨0,.arr 0 []⟩,⟨0,.box x.args[k].cells⟩]:=by simp
   rw [e]
   exact calm_app (hrx b) (by simp [scrubO])
  have hc:=ih x.args[k] hmem b _ (args_nodes hx hmem) (hv _ hmem) hry
  have e0:∀ b,base b++(r++[⟨0,.box x.cells⟩,⟨0,.arr 0 []⟩,⟨0,.box x.args[k].cells⟩])=(base b++(r++[⟨0,.box x.cells⟩]))++[⟨0,.arr 0 []⟩,⟨0,.box x.args[k].cells⟩]:=fun b=>by simp
  rw [e0,e0] at hc
  rw [anyVL_at hk,← Bool.or_assoc] at hw
  generalize hs2:(b || x.args[k].anyV f)=b2 at *
  have hl0:(base b++(r++[⟨0,.box x.cells⟩]):H).length=n:=by simp [hY.len,hn]
  have hl2:(base b2++(r++[⟨0,.box x.cells⟩]):H).length=n:=by simp [hY.len,hn]
  have g1:=app_low (r++[⟨0,.box x.cells⟩]) (hY.g1 b)
  have hc2:=hrx b2
  have hcut:=cutL_app hc2
  rw [hl2] at hcut
  generalize hG:base b++(r++[⟨0,.box x.cells⟩])=G at *
  generalize hG2:base b2++(r++[⟨0,.box x.cells⟩])=G2 at *
  have g1':∀ z,(G++z)[n0 + 1]?=some ⟨0,.box [.fn 173 [] [.bptr n0 0,.bptr (n0 + 1) 0]]⟩:=fun z=>app_low z g1
  have t1:=set1 hl0
  rw [getS_expand hl]
  simp [-cutL,L173_0,List.range,List.range.loop,e2,e14,e15,e16,hk,hk',wk,hl0,t1,g1',hc,hcut]
  have h9:n0 + 1 < n:=by omega
  exact ⟨b2,hG2.symm,⟨by simp [noNil,hnl],rfl,by simp [h9],rfl,rfl,rfl⟩,hw⟩
 ·rintro ⟨sl,h⟩ ⟨b,rfl,⟨hnn,hl,e2,e14,e15,e16⟩,hw⟩
  simp only [List.drop_length] at hl e2 e14 e15 e16 hw
  rw [anyVL,Bool.or_false] at hw
  rw [getS_expand hl]
  simp [L173_0,Q186,List.range,List.range.loop,e2,e14,e15,e16,hw]
theorem ev173 {n0:Nat} {m:Int} {f:Int→Bool} {caps:List V} {base:Bool→H} (hY:Eac n0 m f caps base):∀ (x:Ex) (b:Bool) (r:H),x.nodes≤256→x.err m=0→(∀ b,calm (base b++r))→ev pg (.call (.fn 173 [] [.bptr n0 0,.bptr (n0 + 1) 0]) [x.v] (base b++r))=some { v:=.tup [],st:=⟨[],base (b || x.anyV f)++r⟩ }:=by
 refine Ex.ind fun x ih b r hx hv hr=>?_
 obtain ⟨hv1,hv2⟩:=err_zero hv
 have hrx:∀ b,calm (base b++(r++[⟨0,.box x.cells⟩])):=fun b=>by
  rw [← List.append_assoc]
  exact calm_app (hr b) (by simp)
 have hloop:=fun b1=>loop186 hY x hx hv2 r hr ih b1 (n0 + 2 + (r.length + 1)) rfl
 rw [anyV_eq]
 have hl0:(base b++r:H).length=n0 + 2 + r.length:=by simp [hY.len]
 have g0:=app_low r (hY.g0 b)
 have gx:∀ b,(base b++(r++[⟨0,.box x.cells⟩]))[n0 + 2 + r.length]?=some ⟨0,.box x.cells⟩:=fun b=>by
  have:=app0 (h:=base b++r) (n:=n0 + 2 + r.length) (by simp [hY.len]) ⟨0,.box x.cells⟩
  rwa [List.append_assoc] at this
 have g0':=app_low [⟨0,.box x.cells⟩] g0
 rw [List.append_assoc] at g0'
 have hcut:∀ b z,cutK (n0 + 2 + r.length) (base b++(r++z))=base b++r:=fun b z=>by
  have:=cutK_app (hr b) z
  rw [List.append_assoc] at this
  rw [show (base b++r:H).length=n0 + 2 + r.length by simp [hY.len]] at this
  exact this
 rw [ev_call,pg173]
 by_cases ho:x.op=1
 ·have hcl:=hY.call b x.idx (r++[⟨0,.box x.cells⟩]) (node_var hv1 ho) hrx
  have e:(b || (decide (x.op=1) && f x.idx || anyVL f x.args))=((b || f x.idx) || anyVL f x.args):=by simp [ho,Bool.or_assoc]
  rw [e]
  have hloop:=hloop (b || f x.idx)
  generalize (b || f x.idx)=b1 at *
  have hcp:=hY.caps
  have hob:(x.op == 1)=true:=by simpa using ho
  simp at hcp
  simp [-cutK,ir173,hY.len,g0',hob,hcp,hcl,ev_loop]
  generalize hq:ev pg (.code (.going _ L173_0) _)=o
  obtain ⟨q,rfl,hl,hx,z,hh⟩:∃ q,o=some q∧Q186 f base x r b1 q:=by
   rw [← hq]
   refine hloop _ ⟨b1,rfl,⟨?_,?_,?_,?_,?_,?_⟩,rfl⟩
   all_goals simp [noNil]
  simp [-cutK,hx,hh,hcut]
 ·have e:(b || (decide (x.op=1) && f x.idx || anyVL f x.args))=(b || anyVL f x.args):=by simp [ho]
  rw [e]
  have hob:(x.op == 1)=false:=by simpa using ho
  simp [-cutK,ir173,hY.len,hob,ev_loop]
  generalize hq:ev pg (.code (.going _ L173_0) _)=o
  obtain ⟨q,rfl,hl,hx,z,hh⟩:∃ q,o=some q∧Q186 f base x r b q:=by
   rw [← hq]
   refine hloop b _ ⟨b,rfl,⟨?_,?_,?_,?_,?_,?_⟩,rfl⟩
   all_goals simp [noNil]
  simp [-cutK,hx,hh,hcut]
end Go.Proofs.YtlhciedghbmjjaaGreat
