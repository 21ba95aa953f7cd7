/- Strokes begun, with the check of the ends: by the program and by the reference. A plant's check, by the program and by the reference: the loops. The law PlantChecks, in Am: it returns true. The law PlantChecks returns true for every input, and leaves what came in as it was. It holds with no further condition. -/
import Derived.Test.YtbhkplbciajikaaGreatLw5
import Derived.Test.YtbhkplbciajikaaGreatLw1
import Derived.KernelRfl
import Derived.Test.YtbhkplbciajikaaGreatTy5
import Derived.Test.YtbhkplbciajikaaGreatAf1
import Derived.Test.YtbhkplbciajikaaGreatRows
import Derived.ProofKit
import Derived.WalkKit
import Derived.OpenShut
import Derived.ShutString
import Derived.ChangeOld
import Derived.Below
set_option linter.all false
namespace Go.Proofs.YtbhkplbciajikaaGreat
open Go Go.Am Go.Proofs
set_option maxRecDepth 100000
def begE (a b:Ste):Int:=if a.ends.length ≠ b.ends.length∨6 < a.ends.length then 8 else if (a.ends++b.ends).any (badL 4)=true then 1 else 0
def begR (a b:Ste):List (Int × Bool):=if begE a b=0 then freshV a b else []
def T38 (n k:Nat):Tm:=[none,none,some (.bptr 0 0),some (.bptr 1 0),none,some (num 0)]++List.replicate 20 none++[some (.sl 2 0 1 0 n),some (num n),some (num k)]++List.replicate 13 none
def T38r:Tm:=[none,none,none,none,some .nils,some (num 1)]++List.replicate 36 none
abbrev h38 (a b:Ste) (l:List Int):H:=[⟨0,.box a.cells⟩,⟨0,.box b.cells⟩,⟨0,.arr 1 (l.map nrow)⟩,o0]
theorem lp38 (a b:Ste) (l:List Int) (hl:l.length≤100000) {st:St} (h0:At (T38 l.length 0) (h38 a b l) st):∃ r,ev pg (.code (.going 4 L38_0) st)=some r∧Finds l.length (fun k=>badL 4 ((l[k]?).getD 0)) (fun _=>EndsAs .ret T38r (h38 a b l)) (EndsAs (.exit 0) (T38 l.length l.length) (h38 a b l)) r:=by
 refine loop_first _ _ (T38 l.length) (h38 a b l) _ _ ?_ ?_ ?_ h0
 ·intro k f hf hk hp
  have hk':(k:Int) < l.length:=by omega
  have wk:=wrap_id (n:=(k:Int) + 1) (by omega) (by omega)
  have hp':¬ l[k] < 0∧¬ 4≤l[k]:=by simpa [badL,hk] using hp
  simp [T38,L38_0,hk,hk',wk,hp',hf.ne]
 ·intro k f hf hk hp
  have hk':(k:Int) < l.length:=by omega
  have hp':l[k] < 0∨4≤l[k]:=by simpa [badL,hk] using hp
  by_cases h1:l[k] < 0
  ·simp [T38,T38r,L38_0,hk,hk',h1,hf.ne]
  ·have h2:4≤l[k]:=by omega
   simp [T38,T38r,L38_0,hk,hk',h1,h2,hf.ne]
 ·intro f hf
  simp [T38,L38_0,hf.ne]
theorem finds_any {l:List Int} {X:Nat→R→Prop} {Y:R→Prop} {r:R} (h:Finds l.length (fun k=>badL 4 ((l[k]?).getD 0)) X Y r):(l.any (badL 4)=true∧∃ k,X k r)∨(l.any (badL 4)=false∧Y r):=by
 rcases h with ⟨k,hk,hp,-,hX⟩ | ⟨hp,hY⟩
 ·refine .inl ⟨List.any_eq_true.2 ⟨l[k],List.getElem_mem hk,by simpa [hk] using hp⟩,k,hX⟩
 ·refine .inr ⟨?_,hY⟩
  rw [List.any_eq_false]
  intro x hx
  obtain ⟨k,hk,rfl⟩:=List.getElem_of_mem hx
  have:=hp k hk
  simpa [hk] using this
theorem begE_ne {a b:Ste} (h:a.ends.length ≠ b.ends.length∨6 < a.ends.length):begE a b=8:=by unfold begE; rw [if_pos h]
theorem begE_eq {a b:Ste} (h1:a.ends.length=b.ends.length) (h2:¬ 6 < a.ends.length):begE a b=if (a.ends++b.ends).any (badL 4)=true then 1 else 0:=by unfold begE; rw [if_neg (by omega)]
theorem ev38 (a b:Ste) (ha:a.small) (hb:b.small):ev pg (.call (.fn 38 [] []) [a.v,b.v] [])=some { v:=.tup [strs (begR a b),num (begE a b)],st:=⟨[],[]⟩ }:=by
 unfold begR
 rw [ev_call,pg38]
 by_cases h1:a.ends.length=b.ends.length
 ·have h1':(a.ends.length:Int)=b.ends.length:=by omega
  by_cases h2:6 < a.ends.length
  ·rw [begE_ne (.inr h2)]
   have h2b:(6:Int) < b.ends.length:=by omega
   simp [ir38,h1',h2b]
  ·rw [begE_eq h1 h2]
   have h2b:¬ (6:Int) < b.ends.length:=by omega
   have e62:=ev62 a b ha h1.symm
   have e32:=ev32c [a.ends,b.ends] (by simp) (by simp) (by simp; have:=ha.e; have:=hb.e; omega)
   have hl:=@lp38 a b (a.ends++b.ends) (by simp; have:=ha.e; have:=hb.e; omega)
   simp only [llsI,List.map_cons,List.map_nil,List.flatten_cons,List.flatten_nil,List.append_nil] at e32
   generalize a.ends++b.ends=l at *
   generalize freshV a b=F at *
   generalize hB:l.any (badL 4)=B
   simp [ir38,h1',h2b,e32,ev_loop,moveVs,moveV,moveL,move1]
   generalize hr:ev pg (.code (.going _ L38_0) _)=o
   obtain ⟨r,rfl,hQ⟩:∃ r,o=some r∧_:=by rw [← hr]; exact hl (by simp [T38])
   clear hr
   have hfa:=finds_any hQ
   rw [hB] at hfa
   clear hQ
   rcases hfa with ⟨rfl,k,f,hf,rfl⟩ | ⟨rfl,f,hf,rfl⟩
   ·simp [T38r,moveVs,moveV,moveL,move1]
   ·simp [T38,e62,moveVs,moveV,moveL,move1]
 ·rw [begE_ne (.inl h1)]
  have h1':¬ (a.ends.length:Int)=b.ends.length:=by omega
  have hne:((a.ends.length:Int) != (b.ends.length:Int))=true:=by rw [bne_iff_ne]; exact h1'
  simp [ir38,h1',hne]
def T39i (a b:Ste) (i k:Nat):Tm:=[none,none,some (.bptr 0 0),some (.bptr 1 0),none,some (num 0),none,some (.bptr 8 0),some (num k)]++List.replicate 15 none++[some (.imm [a.cells,b.cells]),some (num 2),some (num i)]++List.replicate 28 none
def T39r:Tm:=[none,none,none,none,some .nils,some (num 1)]++List.replicate 49 none
abbrev h39i (a b t:Ste):H:=[⟨0,.box a.cells⟩,⟨0,.box b.cells⟩,o0,o0,o0,o0,o0,o0,⟨0,.box t.cells⟩]
theorem lp39i (a b t:Ste) (i:Nat) (hl:t.ends.length≤100000) {st:St} (h0:At (T39i a b i 0) (h39i a b t) st):∃ r,ev pg (.code (.going 9 L39_0) st)=some r∧Finds t.ends.length (fun k=>badL 4 ((t.ends[k]?).getD 0)) (fun _=>EndsAs .ret T39r (h39i a b t)) (EndsAs (.exit 2) (T39i a b i t.ends.length) (h39i a b t)) r:=by
 refine loop_first _ _ (T39i a b i) (h39i a b t) _ _ ?_ ?_ ?_ h0
 ·intro k f hf hk hp
  have hk':(k:Int) < t.ends.length:=by omega
  have wk:=wrap_id (n:=(k:Int) + 1) (by omega) (by omega)
  have hp':¬ t.ends[k] < 0∧¬ 4≤t.ends[k]:=by simpa [badL,hk] using hp
  simp [T39i,L39_0,hk,hk',wk,hp',hf.ne]
 ·intro k f hf hk hp
  have hk':(k:Int) < t.ends.length:=by omega
  have hp':t.ends[k] < 0∨4≤t.ends[k]:=by simpa [badL,hk] using hp
  by_cases h1:t.ends[k] < 0
  ·simp [T39i,T39r,L39_0,hk,hk',h1,hf.ne]
  ·have h2:4≤t.ends[k]:=by omega
   simp [T39i,T39r,L39_0,hk,hk',h1,h2,hf.ne]
 ·intro f hf
  simp [T39i,L39_0,hf.ne]
def T39o (a b:Ste) (i:Nat):Tm:=[none,none,some (.bptr 0 0),some (.bptr 1 0),none,some (num 0)]++List.replicate 18 none++[some (.imm [a.cells,b.cells]),some (num 2),some (num i)]++List.replicate 28 none
abbrev h39 (a b:Ste):H:=[⟨0,.box a.cells⟩,⟨0,.box b.cells⟩,o0]
inductive Out39 (a b:Ste) (r:R):Prop
 | yes (hp:(a.ends++b.ends).any (badL 4)=true) (t:Ste) (he:EndsAs .ret T39r (h39i a b t) r)
 | no (hp:(a.ends++b.ends).any (badL 4)=false) (he:EndsAs (.exit 0) (T39o a b 2) (h39 a b) r)
theorem lp39o (a b:Ste) (ha:a.small) (hb:b.small) {st:St} (h0:At (T39o a b 0) (h39 a b) st):∃ r,ev pg (.code (.going 3 L39_1) st)=some r∧Out39 a b r:=by
 refine loop_at (α:=Unit) 2 (fun i _=>T39o a b i) (fun _ _=>h39 a b) (fun i _=>(1≤i→a.ends.any (badL 4)=false)∧(2≤i→b.ends.any (badL 4)=false)) _ ?_ ?_ () ⟨by omega,by omega⟩ h0
 ·rintro i - f hf hi ⟨hG,-⟩
  have w1:IntKind.i64.wrap 1=1:=by decide
  have w2:IntKind.i64.wrap 2=2:=by decide
  have hi2:i=0∨i=1:=by omega
  rcases hi2 with rfl | rfl
  ·have hl:=@lp39i a b a 0 (by have:=ha.e; omega)
   simp [T39o,L39_1,ev_loop,hf.ne]
   generalize hr:ev pg (.code (.going _ L39_0) _)=o
   obtain ⟨r,rfl,hQ⟩:∃ r,o=some r∧_:=by rw [← hr]; exact hl (by simp [T39i,hf.ne])
   clear hr
   rcases finds_any hQ with ⟨hp,k,f2,hf2,rfl⟩ | ⟨hp,f2,hf2,rfl⟩
   ·simp [T39r]
    exact .yes (by rw [List.any_append,hp]; rfl) a (by simp [T39r,hf2.ne])
   ·simp [T39i,w1,hf2.ne]
    exact fun x hx=>by simpa [badL] using List.any_eq_false.1 hp x hx
  ·have hG:=hG (by omega)
   have hl:=@lp39i a b b 1 (by have:=hb.e; omega)
   simp [T39o,L39_1,ev_loop,hf.ne]
   generalize hr:ev pg (.code (.going _ L39_0) _)=o
   obtain ⟨r,rfl,hQ⟩:∃ r,o=some r∧_:=by rw [← hr]; exact hl (by simp [T39i,hf.ne])
   clear hr
   rcases finds_any hQ with ⟨hp,k,f2,hf2,rfl⟩ | ⟨hp,f2,hf2,rfl⟩
   ·simp [T39r]
    exact .yes (by rw [List.any_append,hG,hp]; rfl) b (by simp [T39r,hf2.ne])
   ·simp [T39i,w2,hf2.ne]
    exact ⟨fun x hx=>by simpa [badL] using List.any_eq_false.1 hG x hx,fun x hx=>by simpa [badL] using List.any_eq_false.1 hp x hx⟩
 ·rintro - f hf ⟨h1,h2⟩
  have h1:=h1 (by omega)
  have h2:=h2 (by omega)
  simp [T39o,L39_1,hf.ne]
  exact .no (by rw [List.any_append,h1,h2]; rfl) (by simp [T39o,hf.ne])
theorem ev39 (a b:Ste) (ha:a.small) (hb:b.small):ev pg (.call (.fn 39 [] []) [a.v,b.v] [])=some { v:=.tup [strs (begR a b),num (begE a b)],st:=⟨[],[]⟩ }:=by
 unfold begR
 rw [ev_call,pg39]
 by_cases h1:a.ends.length=b.ends.length
 ·have h1':(a.ends.length:Int)=b.ends.length:=by omega
  by_cases h2:6 < a.ends.length
  ·rw [begE_ne (.inr h2)]
   have h2b:(6:Int) < b.ends.length:=by omega
   simp [ir39,h1',h2b]
  ·rw [begE_eq h1 h2]
   have h2b:¬ (6:Int) < b.ends.length:=by omega
   have e64:=ev64 a b ha h1.symm
   have hl:=@lp39o a b ha hb
   generalize freshV a b=F at *
   generalize hB:(a.ends++b.ends).any (badL 4)=B
   simp [ir39,h1',h2b,ev_loop]
   generalize hr:ev pg (.code (.going _ L39_1) _)=o
   obtain ⟨r,rfl,hQ⟩:∃ r,o=some r∧_:=by rw [← hr]; exact hl (by simp [T39o])
   clear hr
   cases hQ with
   | yes hp t he =>
    obtain ⟨f,hf,rfl⟩:=he
    rw [hp] at hB
    subst hB
    simp [T39r]
   | no hp he =>
    obtain ⟨f,hf,rfl⟩:=he
    rw [hp] at hB
    subst hB
    simp [T39o,e64]
 ·rw [begE_ne (.inl h1)]
  have h1':¬ (a.ends.length:Int)=b.ends.length:=by omega
  have hne:((a.ends.length:Int) != (b.ends.length:Int))=true:=by rw [bne_iff_ne]; exact h1'
  simp [ir39,h1',hne]
def T40o (l:List Trv) (k:Nat):Tm:=[none,some (.bptr 0 0),some (num 0)]++List.replicate 16 none++[some (trvs l),some (num l.length),some (num k)]++List.replicate 21 none
theorem lp40o (l:List Trv) (hl:l.length≤4096) {st:St} (h0:At (T40o l 0) (pbox l) st):∃ r,ev pg (.code (.going 1 L40_1) st)=some r∧Res (.exit 0) (T40o l l.length) (pbox l) T40r (travE l) r:=by
 generalize hZ:travE l=Z
 refine loop_at (α:=Unit) l.length (fun k _=>T40o l k) (fun _ _=>pbox l) (fun k _=>travE (l.drop k)=Z) _ ?_ ?_ () hZ h0
 ·rintro k - f hf hk hG
  have hk':(k:Int) < l.length:=by omega
  have wk:=wrap_id (n:=(k:Int) + 1) (by omega) (by omega)
  have hi:=@lp40i l k l[k]
  rw [List.drop_eq_getElem_cons hk,travE] at hG
  simp [T40o,L40_1,hk,hk',ev_loop,hf.ne]
  generalize hr:ev pg (.code (.going _ L40_0) _)=o
  obtain ⟨r,rfl,hQ⟩:∃ r,o=some r∧_:=by rw [← hr]; exact hi (by simp [T40i,hf.ne])
  clear hr
  cases hQ with
  | no he h1 =>
   obtain ⟨f2,hf2,rfl⟩:=h1
   rw [if_pos he] at hG
   simp [T40i,wk,hf2.ne]
   exact hG
  | yes he h' h1 =>
   obtain ⟨f2,hf2,rfl⟩:=h1
   rw [if_neg he] at hG
   subst hG
   simp [T40r]
   exact .yes he h' (by simp [T40r,hf2.ne])
 ·rintro - f hf hG
  simp only [List.drop_length,travE] at hG
  simp [T40o,L40_1,hf.ne]
  exact .no hG.symm (by simp [T40o,hf.ne])
theorem ev40 (l:List Trv):ev pg (.call (.fn 40 [] []) [.agg [trvs l]] [])=some { v:=num (plantE l),st:=⟨[],[]⟩ }:=by
 unfold plantE
 rw [ev_call,pg40]
 by_cases h1:l.length < 1
 ·rw [if_pos (.inl h1)]
  have:l=[]:=List.eq_nil_of_length_eq_zero (by omega)
  subst this
  simp [ir40]
 ·have h1':¬ (l.length:Int) < 1:=by omega
  by_cases h2:6 < l.length
  ·rw [if_pos (.inr h2)]
   have h2':(6:Int) < l.length:=by omega
   simp [ir40,h1',h2']
  ·rw [if_neg (by omega)]
   have h2':¬ (6:Int) < l.length:=by omega
   have hl:=@lp40o l (by omega)
   generalize travE l=e at *
   simp [ir40,h1',h2',ev_loop]
   generalize hr:ev pg (.code (.going _ L40_1) _)=o
   obtain ⟨r,rfl,hQ⟩:∃ r,o=some r∧_:=by rw [← hr]; exact hl (by simp [T40o])
   clear hr
   cases hQ with
   | no he h1 =>
    obtain ⟨f2,hf2,rfl⟩:=h1
    simp [T40o,he]
   | yes he h' h1 =>
    obtain ⟨f2,hf2,rfl⟩:=h1
    simp [T40r]
def T41i (l:List Trv) (k:Nat) (x:Trv) (i:Nat):Tm:=[none,some (.bptr 0 0),some (num 0),some (num k)]++List.replicate 32 none++[some (.imm [[num x.a,num x.b],[num x.c,num x.d]]),some (num 2),some (num i)]++List.replicate 12 none
def T41r (e:Int):Tm:=[none,none,some (num e)]++List.replicate 48 none
theorem lp41i (l:List Trv) (k:Nat) (x:Trv) {st:St} (h0:At (T41i l k x 0) (pbox l) st):∃ r,ev pg (.code (.going 1 L41_0) st)=some r∧Res (.exit 2) (T41i l k x 2) (pbox l) T41r x.bad r:=by
 refine loop_at (α:=Unit) 2 (fun i _=>T41i l k x i) (fun _ _=>pbox l) (fun i _=>(i=1→halfE x.a x.b=0)∧(i=2→x.bad=0)) _ ?_ ?_ () ⟨by simp,by simp⟩ h0
 ·rintro i - f hf hi ⟨hG,-⟩
  have w1:IntKind.i64.wrap 1=1:=by decide
  have w2:IntKind.i64.wrap 2=2:=by decide
  have hi2:i=0∨i=1:=by omega
  rcases hi2 with rfl | rfl
  ·have e77:=ev77 x.a x.b
   have hh:halfE x.a x.b=if spanE x.a x.b=0 then (if x.a < 1 then 2 else 0) else spanE x.a x.b:=rfl
   unfold Trv.bad
   generalize spanE x.a x.b=e at *
   generalize halfE x.a x.b=g at *
   generalize halfE x.c x.d=m at *
   by_cases he:e=0
   ·rw [if_pos he] at hh
    subst he
    by_cases h1:x.a < 1
    ·rw [if_pos h1] at hh
     subst hh
     simp [T41i,L41_0,e77,h1,hf.ne]
     exact .yes (by omega) _ (by simp [T41r,hf.ne]; rfl)
    ·rw [if_neg h1] at hh
     subst hh
     simp [T41i,L41_0,e77,h1,w1,hf.ne]
   ·rw [if_neg he] at hh
    subst hh
    have hb:(g == 0)=false:=by simpa using he
    simp [T41i,L41_0,e77,he,hb,hf.ne]
    exact .yes he _ (by simp [T41r,hf.ne]; rfl)
  ·have e77:=ev77 x.c x.d
   have hh:halfE x.c x.d=if spanE x.c x.d=0 then (if x.c < 1 then 2 else 0) else spanE x.c x.d:=rfl
   have hG:=hG rfl
   unfold Trv.bad
   rw [if_pos hG]
   generalize spanE x.c x.d=e at *
   generalize halfE x.a x.b=g at *
   generalize halfE x.c x.d=m at *
   by_cases he:e=0
   ·rw [if_pos he] at hh
    subst he
    by_cases h1:x.c < 1
    ·rw [if_pos h1] at hh
     subst hh
     simp [T41i,L41_0,e77,h1,hf.ne]
     exact .yes (by omega) _ (by simp [T41r,hf.ne]; rfl)
    ·rw [if_neg h1] at hh
     subst hh
     simp [T41i,L41_0,e77,h1,w2,hf.ne]
   ·rw [if_neg he] at hh
    subst hh
    have hb:(m == 0)=false:=by simpa using he
    simp [T41i,L41_0,e77,he,hb,hf.ne]
    exact .yes he _ (by simp [T41r,hf.ne]; rfl)
 ·rintro - f hf ⟨-,hG⟩
  have hG:=hG rfl
  simp [T41i,L41_0,hf.ne]
  exact .no hG (by simp [T41i,hf.ne])
def T41o (l:List Trv) (k:Nat):Tm:=[none,some (.bptr 0 0),some (num 0),some (num k)]++List.replicate 47 none
theorem lp41o (l:List Trv) (hl:l.length≤4096) {st:St} (h0:At (T41o l 0) (pbox l) st):∃ r,ev pg (.code (.going 1 L41_1) st)=some r∧Res (.exit 0) (T41o l l.length) (pbox l) T41r (travE l) r:=by
 generalize hZ:travE l=Z
 refine loop_at (α:=Unit) l.length (fun k _=>T41o l k) (fun _ _=>pbox l) (fun k _=>travE (l.drop k)=Z) _ ?_ ?_ () hZ h0
 ·rintro k - f hf hk hG
  have hk':(k:Int) < l.length:=by omega
  have wk:=wrap_id (n:=(k:Int) + 1) (by omega) (by omega)
  have hi:=@lp41i l k l[k]
  rw [List.drop_eq_getElem_cons hk,travE] at hG
  simp [ev_draw1,exT,chkOk,T41o,L41_1,hk,hk',ev_loop,hf.ne]
  generalize hr:ev pg (.code (.going _ L41_0) _)=o
  obtain ⟨r,rfl,hQ⟩:∃ r,o=some r∧_:=by rw [← hr]; exact hi (by simp [T41i,hf.ne])
  clear hr
  cases hQ with
  | no he h1 =>
   obtain ⟨f2,hf2,rfl⟩:=h1
   rw [if_pos he] at hG
   simp [T41i,wk,hf2.ne]
   exact hG
  | yes he h' h1 =>
   obtain ⟨f2,hf2,rfl⟩:=h1
   rw [if_neg he] at hG
   subst hG
   simp [T41r]
   exact .yes he h' (by simp [T41r,hf2.ne])
 ·rintro - f hf hG
  simp only [List.drop_length,travE] at hG
  simp [T41o,L41_1,hf.ne]
  exact .no hG.symm (by simp [T41o,hf.ne])
theorem ev41 (l:List Trv):ev pg (.call (.fn 41 [] []) [.agg [trvs l]] [])=some { v:=num (plantE l),st:=⟨[],[]⟩ }:=by
 unfold plantE
 rw [ev_call,pg41]
 by_cases h1:l.length < 1
 ·rw [if_pos (.inl h1)]
  have:l=[]:=List.eq_nil_of_length_eq_zero (by omega)
  subst this
  simp [ir41]
 ·have h1':¬ (l.length:Int) < 1:=by omega
  by_cases h2:6 < l.length
  ·rw [if_pos (.inr h2)]
   have h2':(6:Int) < l.length:=by omega
   simp [ir41,h1',h2']
  ·rw [if_neg (by omega)]
   have h2':¬ (6:Int) < l.length:=by omega
   have hl:=@lp41o l (by omega)
   generalize travE l=e at *
   simp [ir41,h1',h2',ev_loop]
   generalize hr:ev pg (.code (.going _ L41_1) _)=o
   obtain ⟨r,rfl,hQ⟩:∃ r,o=some r∧_:=by rw [← hr]; exact hl (by simp [T41o])
   clear hr
   cases hQ with
   | no he h1 =>
    obtain ⟨f2,hf2,rfl⟩:=h1
    simp [T41o,he]
   | yes he h' h1 =>
    obtain ⟨f2,hf2,rfl⟩:=h1
    simp [T41r]
@[simp] theorem beqR_trv (l:List Trv):beqR (l.map Trv.row) (l.map Trv.row)=true:=beqR_map (fun x=>by simp) l
theorem begR_len (a b:Ste) (ha:a.small):(begR a b).length≤100000:=by
 unfold begR
 split
 ·have:=freshV_len a b
  have:=ha.e
  omega
 ·simp
theorem ev8 (l:List Trv) (a b:Ste):ev pg (.call (.fn 8 [] []) [.agg [trvs l],a.v,b.v] [])=some { v:=.bool true,st:=⟨[],[]⟩ }:=by
 have e10:=ev10
 have ea:=ev37 a
 have eb:=ev37 b
 rw [ev_call,pg8]
 by_cases h:40 < l.length
 ·have h':(40:Int) < l.length:=by omega
  simp [ir8,h',e10]
 ·have h':¬ (40:Int) < l.length:=by omega
  cases hfa:a.few with
  | false =>
   rw [hfa] at ea
   simp [ir8,h',ea,e10]
  | true =>
   cases hfb:b.few with
   | false =>
    rw [hfa] at ea
    rw [hfb] at eb
    simp [ir8,h',ea,eb,e10]
   | true =>
    rw [hfa] at ea
    rw [hfb] at eb
    have ha:=few_smallS hfa
    have hb:=few_smallS hfb
    have e38:=ev38 a b ha hb
    have e39:=ev39 a b ha hb
    have e40:=ev40 l
    have e41:=ev41 l
    have e42:=ev42 (begR a b) (begR a b) (begR_len a b ha)
    simp only [decide_true] at e42
    generalize begR a b=F at *
    generalize begE a b=e at *
    generalize plantE l=p at *
    simp [ev_draw1,exT,chkOk,ir8,h',ea,eb,e38,e39,e40,e41,e42,e10]
end Go.Proofs.YtbhkplbciajikaaGreat
namespace Go.Proofs.YtbhkplbciajikaaGreat.plantChecksDone
open Go Go.Am Go.Proofs Go.Proofs.YtbhkplbciajikaaGreat
open Go.ChangeShapes Go.WideShapes Go.ChangeAt Go.RowKit
set_option linter.unusedVariables false
theorem own:ownKnob Tryz.prog.godebug=none:=by kernel_rfl
theorem laidOut:laidOutB Tryz.prog=true:=by kernel_rfl
set_option maxRecDepth 100000 in
theorem lifted (os:Os) (started:os.Started) (H:Type) (enc:TypeId × Value→H) :
  ReturnsInHanded {} Tryz.checked os 8 .any (Rows.plantChecksSpec.pre6 enc Tryz.prog Tryz.f8 Rows.plantChecksRow.domain false) (Rows.plantChecksSpec.post enc Tryz.prog Tryz.f8 false true false false):=by
 refine returnsInHanded_of_change (C:=Tryz.checked) own started (by kernel_rfl) Tryz.func8
  (ChangeSpec.witness6 (enc:=enc) (C:=Tryz.checked) false ⟨#[],#[.agg #[.slice none 0 0],.agg #[.slice none 0 0,.slice none 0 0,.slice none 0 0,.slice none 0 0,.slice none 0 0],.agg #[.slice none 0 0,.slice none 0 0,.slice none 0 0,.slice none 0 0,.slice none 0 0]],[]⟩ 8 (by kernel_rfl) (by kernel_rfl) (by kernel_rfl) (by kernel_rfl)) ?_
 intro W base args ds gs before hval0 hW hcnd _
 have hval:∀ (j:Nat) t v,Tryz.f8.params[j]?=some t→args[j]?=some v→Value.okWide Tryz.prog W .any base t v:=hval0
 have hW':=hW
 obtain ⟨p,q,hA0,hV,rfl,hfz,hnd⟩:=hW
 have hA:DataW.TrodAll enc Tryz.prog W 0 (fun _=>true) true Tryz.f8.params.toList args.toList ds p:=hA0
 rw [Tryz.params8] at hA hval
 obtain ⟨v0,vs0,d0,ds0,p0,q0,hargs,rfl,rfl,h0,r0⟩:=trodAll_cons hA
 obtain ⟨v1,vs1,d1,ds1,p1,q1,rfl,rfl,rfl,h1,r1⟩:=trodAll_cons r0
 obtain ⟨v2,vs2,d2,ds2,p2,q2,rfl,rfl,rfl,h2,r2⟩:=trodAll_cons r1
 obtain ⟨rfl,rfl,rfl⟩:=trodAll_nil r2
 obtain rfl:args=#[v0,v1,v2]:=by cases args; simp_all
 obtain ⟨rfl,rfl⟩:=trodVars_none hV
 have k0:=h0
 have k1:=h1
 have k2:=h2
 have lt0:∀ x ∈ p0,x.block < W.heap.size:=by obtain ⟨m,hm⟩:=k0; exact DataW.trod_lt m _ _ _ hm
 have lt1:∀ x ∈ p1,x.block < W.heap.size:=by obtain ⟨m,hm⟩:=k1; exact DataW.trod_lt m _ _ _ hm
 have lt2:∀ x ∈ p2,x.block < W.heap.size:=by obtain ⟨m,hm⟩:=k2; exact DataW.trod_lt m _ _ _ hm
 obtain ⟨n0,x0,a0,b0⟩:=arg_okS plainP (by decide:78 ∈ _) (hval 0 78 v0 rfl rfl) h0
 obtain ⟨n1,x1,a1,b1⟩:=arg_okS plainP (by decide:29 ∈ _) (hval 1 29 v1 rfl rfl) h1
 obtain ⟨n2,x2,a2,b2⟩:=arg_okS plainP (by decide:29 ∈ _) (hval 2 29 v2 rfl rfl) h2
 obtain ⟨y0,rfl⟩:∃ l:List Trv,x0=.agg [trvs l]:=by
  rcases b0 with ⟨vs,rfl,ht⟩ | ⟨ha,_⟩
  ·obtain ⟨l,rfl⟩:=typed_plant ht
   exact ⟨l,rfl⟩
  ·rw [agg78] at ha
   cases ha
 obtain ⟨y1,rfl⟩:∃ s:Ste,x1=s.v:=by
  rcases b1 with ⟨vs,rfl,ht⟩ | ⟨ha,_⟩
  ·obtain ⟨s,rfl⟩:=typed_ste ht
   exact ⟨s,rfl⟩
  ·rw [agg29] at ha
   cases ha
 obtain ⟨y2,rfl⟩:∃ s:Ste,x2=s.v:=by
  rcases b2 with ⟨vs,rfl,ht⟩ | ⟨ha,_⟩
  ·obtain ⟨s,rfl⟩:=typed_ste ht
   exact ⟨s,rfl⟩
  ·rw [agg29] at ha
   cases ha
 clear hA0 hval0
 have hr:=ev8 y0 y1 y2
 refine (law_ok (us:=#[v0,v1,v2]) made (by unfold relL; exact ⟨_,_,rfl,a0,by unfold relL; exact ⟨_,_,rfl,a1,by unfold relL; exact ⟨_,_,rfl,a2,by unfold relL; rfl⟩⟩⟩) hr rfl).mono fun e W' ⟨he,old⟩=>?_
 subst he
 exact ⟨_,rfl,_,_,_,[],_,[],hW',trodAll_mk1 (shut_bool Tryz.underlying4 _),(trodAll_cons_mk (Old.trod laidOut (by kernel_rfl) (of_decide_eq_true (by kernel_rfl)) k0 old lt0) (trodAll_cons_mk (Old.trod laidOut (by kernel_rfl) (of_decide_eq_true (by kernel_rfl)) k1 old lt1) (trodAll_cons_mk (Old.trod laidOut (by kernel_rfl) (of_decide_eq_true (by kernel_rfl)) k2 old lt2) trodAll_mk0))),rfl,old.frame _,fun h=>by cases h⟩
theorem over:Rows.plantChecksRow.holds Tryz.pinned (OpenSpec.ofChange Rows.plantChecksSpec) :=
 OpenClaim.holds_of_wide 8 Tryz.f8 rfl rfl rfl rfl rfl rfl rfl ⟨rfl,rfl,rfl,rfl,rfl⟩ rfl rfl rfl rfl rfl (by kernel_rfl) Tryz.func8 (by kernel_rfl)
  (of_decide_eq_true (by kernel_rfl)) (by unfold Func.isWrapper; first | (rw [if_pos (by decide +kernel)]; kernel_rfl) | (rw [if_neg (by decide +kernel)]; exact ⟨rfl,rfl⟩))
  (fun os started H enc _=>lifted os started H enc)
theorem proved:Rows.PlantChecksSaid:=over
#print axioms proved
end Go.Proofs.YtbhkplbciajikaaGreat.plantChecksDone
