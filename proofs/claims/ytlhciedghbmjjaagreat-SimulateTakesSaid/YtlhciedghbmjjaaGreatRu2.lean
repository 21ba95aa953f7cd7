/- Gates are computed, by settle; the rules. Behind events states are right; the first state. A round of the plant, by the reference: all that is needed of a right state of a small control. -/
import Derived.Test.YtlhciedghbmjjaaGreatLn1
import Derived.KernelRfl
import Derived.Test.YtlhciedghbmjjaaGreatSt2
set_option linter.all false
namespace Go.Proofs.YtlhciedghbmjjaaGreat
open Go Go.Am Go.Proofs
set_option maxRecDepth 100000
abbrev zfk (c:Ct) (s u b:Ste) (gq wq:Nat) (L:List Int) (k:Nat):H:=zjm c s (stK c u k) b (qal u) gq wq L++[⟨0,.arr 1 ((qbg c (qal u) k (qae u)).map qic)⟩]
def zlz (c:Ct) (N k:Nat):Tm:=[some (.bptr 15 0),none,some (.sl 29 0 1 0 N),none,none,none,none,none,none,none,none,none,some (.imm (c.signals.map Sg.row)),some (num c.signals.length),some (num k)]++List.replicate 29 none
set_option maxHeartbeats 2000000 in
theorem z2u (c:Ct) (s u b:Ste) (gq wq:Nat) (L:List Int) (hs:u.small) (hS:Shp c u) (hn:c.signals.length≤128) (hF:qal u≤10000) (hok:∀ x ∈ c.signals,x.on.nodes≤256∧x.on.err (qae u).length=0) {st:St} (h0:At (zlz c (qae u).length 0) (zfk c s u b gq wq L 0) st):∃ r,ev pg (.code (.going 30 L190_0) st)=some r∧qaj (.exit 0) (zlz c (qae u).length c.signals.length) (zfk c s u b gq wq L c.signals.length) r:=by
 refine qfi c.signals.length (zlz c (qae u).length) (zfk c s u b gq wq L) _ ?_ ?_ h0
 ·intro k f hf hk
  have hk':(k:Int) < c.signals.length:=by omega
  have wk:=qab (n:=(k:Int) + 1) (by omega) (by omega)
  have hsc:=zhf c u k hk
  obtain ⟨g1,g2⟩:=hok _ (List.getElem_mem hk)
  have hLl:(qae (stK c u k)).length=(qae u).length:=by rw [qkl,qfn]
  have h165:=ev193 (qae (stK c u k)) c.signals[k].on g1 (by rw [hLl]; exact g2)
  have hvl:=zac c u k
  have hkv:k < u.values.length:=by rw [hS.v]; exact hk
  have hgt:qbg c (qal u) (k + 1) (qae u)=if c.signals[k].kind=0 then (qbg c (qal u) k (qae u)).set (qal u + k) (c.signals[k].on.holds (qae (stK c u k))) else qbg c (qal u) k (qae u):=by
   rw [qbg,qfy,List.getElem?_eq_getElem hk,qkl]
  have hst:∀ j,stK c u j=⟨u.ends,u.valves,u.inputs,(stK c u j).values,u.timers⟩:=fun j=>rfl
  have hlt:(qbg c (qal u) k (qae u)).length=(qae u).length:=qfn _ _ _ _
  have hFk:qal u + k < (qae u).length:=by
   rw [qew]; unfold qal; omega
  rw [qkl] at h165 hgt
  unfold zfk
  rw [hst (k + 1),hst k,hsc,hgt,qkl]
  unfold zlz
  generalize qbg c (qal u) k (qae u)=G at *
  generalize hv:c.signals[k].on.holds G=v at *
  generalize (stK c u k).values=W at *
  generalize qal u=F at *
  have hkW:k < W.length:=by omega
  have wF:=qab (n:=(F:Int) + k) (by omega) (by omega)
  have pF:(0:Int)≤(F:Int) + k:=by omega
  have tF:((F:Int) + k).toNat=F + k:=by omega
  generalize (qae u).length=N at *
  by_cases h0:c.signals[k].kind=0
  ·have hFk':F + k < G.length:=by omega
   simp [qaa,exT,qad,L190_0,hk,hk',wk,h0,hlt.symm,h165,hkW,hkv,hFk',hvl,wF,pF,tF,hf.ne]
  ·have h0b:(c.signals[k].kind == 0)=false:=by simpa using h0
   simp [L190_0,hk,hk',wk,h0,h0b,hf.ne]
 ·intro f hf
  unfold zlz zfk
  simp [L190_0,hf.ne]
set_option maxHeartbeats 1000000 in
theorem ev190 (c:Ct) (s u b:Ste) (gq wq:Nat) (L:List Int) (hs:u.small) (hS:Shp c u) (hn:c.signals.length≤128) (hF:qal u≤10000) (h1:1≤u.ends.length) (hok:∀ x ∈ c.signals,x.on.nodes≤256∧x.on.err (qae u).length=0):ev pg (.call (.fn 190 [] []) [.bptr 15 0] (zjm c s u b (qal u) gq wq L))=some { v:=.tup [],st:=⟨[],zjm c s (qfg c u) b (qal u) gq wq L⟩ }:=by
 have hl:=@z2u c s u b gq wq L hs hS hn hF hok
 have e163:=ev191 c s u b (qal u) gq wq L hs h1
 have hst:∀ j,stK c u j=⟨u.ends,u.valves,u.inputs,(stK c u j).values,u.timers⟩:=fun j=>rfl
 have hvl:=zac c u c.signals.length
 unfold zfk at hl
 rw [zgc,q9a,show qbg c (qal u) 0 (qae u)=qae u from rfl] at hl
 rw [q9a] at hvl
 have hg:qfg c u=⟨u.ends,u.valves,u.inputs,(qfg c u).values,u.timers⟩:=rfl
 rw [hg] at hl ⊢
 generalize (qfg c u).values=W at *
 generalize qbg c (qal u) c.signals.length (qae u)=G at *
 generalize qal u=F at *
 generalize qae u=LL at *
 simp at e163
 rw [qac,pg190]
 simp [ir190,e163,qag]
 generalize hr:ev pg (.code (.going _ L190_0) _)=o
 obtain ⟨r,rfl,f,hf,rfl⟩:∃ r,o=some r∧_:=by rw [← hr]; exact hl (by simp [zlz])
 clear hr
 simp [zlz]
abbrev chg (v:Bool) (t:Int) (b:Bool):V:=.agg [.bool v,num t,.bool b]
theorem ev197 (v:Bool) (t:Int) (b on off:Bool):ev pg (.call (.fn 197 [] []) [chg v t b,.bool on,.bool off] [])=some { v:=chg v t b,st:=⟨[],[]⟩ }:=by
 rw [qac,pg197]
 simp [ir197]
theorem ev198 (v:Bool) (t:Int) (b on off:Bool):ev pg (.call (.fn 198 [] []) [chg v t b,.bool on,.bool off] [])=some { v:=chg (if on != off then on else v) t (on && off),st:=⟨[],[]⟩ }:=by
 rw [qac,pg198]
 cases on <;> cases off <;> simp [ir198]
theorem ev199 (v:Bool) (t:Int) (b on off:Bool):ev pg (.call (.fn 199 [] []) [chg v t b,.bool on,.bool off] [])=some { v:=if on=true then chg v (if t=0 then 1 else t) b else chg false 0 false,st:=⟨[],[]⟩ }:=by
 rw [qac,pg199]
 cases on with
 | false=>simp [ir199]
 | true =>
  by_cases h:t=0
  ·simp [ir199,h]
  ·have hb:(t == 0)=false:=by simpa using h
   simp [ir199,h,hb]
abbrev zsz:V:=.agg [.fn 197 [] [],.fn 198 [] [],.fn 199 [] []]
theorem ev192:ev pg (.call (.fn 192 [] []) [] [])=some { v:=zsz,st:=⟨[],[]⟩ }:=by
 rw [qac,pg192]
 simp [ir192]
theorem q7y {s:Ste} {i:Nat} (h:qsp s 1 i=true):∃ hi:i < s.timers.length,s.timers[i]=1:=by
 unfold qsp at h
 rw [if_neg (by omega)] at h
 by_cases hi:i < s.timers.length
 ·rw [List.getElem?_eq_getElem hi] at h
  simp at h
  exact ⟨hi,h⟩
 ·rw [List.getElem?_eq_none (by omega)] at h
  simp at h
theorem qgt {c:Ct} {s:Ste} {x:Evn} (hs:stE c s=0) (hk:¬ (x.kind < 0∨2 < x.kind)) (hm:q1x s x=true):stE c (qff s x)=0:=by
 obtain ⟨hc,hS,h1,h2,h3⟩:=qgk.1 hs
 unfold q1x at hm
 split at hm
 ·cases hm
 ·unfold qff
  by_cases hk0:x.kind=0
  ·rw [if_pos hk0]
   refine qgk.2 ⟨hc,⟨by simp only [List.length_set]; exact hS.e,hS.w,hS.i,hS.v,hS.t⟩,qfv.2 fun y hy=>?_,h2,h3⟩
   rcases List.mem_or_eq_of_mem_set hy with h | h
   ·exact qfv.1 h1 y h
   ·rw [h]; split <;> omega
  ·rw [if_neg hk0]
   by_cases hk1:x.kind=1
   ·rw [if_pos hk1]
    rw [if_neg (by omega),hk1] at hm
    obtain ⟨hi,ht⟩:=q7y hm
    generalize x.idx.toNat=n at *
    have hnc:n < c.signals.length:=by rw [← hS.t]; exact hi
    have hS':Shp c ⟨s.ends,s.valves,s.inputs,s.values.set n true,s.timers.set n 2⟩:=⟨hS.e,hS.w,hS.i,by simp only [List.length_set]; exact hS.v,by simp only [List.length_set]; exact hS.t⟩
    refine qgk.2 ⟨hc,hS',h1,qfv.2 fun y hy=>?_,fun k hk=>?_⟩
    ·rcases List.mem_or_eq_of_mem_set hy with h | h
     ·exact qfv.1 h2 y h
     ·rw [h]; omega
    ·simp only [List.length_set] at hk
     have hkc:k < c.signals.length:=by rw [← hS.t]; exact hk
     rw [qwg hS' hkc]
     simp only [List.getElem_set]
     by_cases hkn:n=k
     ·subst hkn
      have hq:=h3 n hi
      rw [qwg hS hkc,ht] at hq
      simp only [if_true]
      have hkind:c.signals[n].kind=2:=by
       simp [tmB] at hq
       exact hq.1
      rw [hkind]
      rfl
     ·rw [if_neg hkn,if_neg hkn,← qwg hS hkc]
      exact h3 k hk
   ·rw [if_neg hk1]
    exact qgk.2 ⟨hc,⟨hS.e,hS.w,by simp only [List.length_set]; exact hS.i,hS.v,hS.t⟩,h1,h2,h3⟩
theorem q1r {c:Ct} {s:Ste} {x:Evn} (hs:stE c s=0) (h:(qap c s x).2.2=0):stE c (qap c s x).1=0:=by
 unfold qap at h ⊢
 split at h
 ·cases h
 ·rename_i h1
  rw [if_neg h1]
  split at h
  ·rename_i h2
   rw [if_pos h2]
   unfold qji at h ⊢
   cases e:qlr c (qff s x) with
   | none=>rw [e] at h; cases h
   | some y =>
    simp only
    exact qmm (qgt hs h1 h2) (show qlr c (qff s x)=some (y.1,y.2) from e)
  ·cases h
def qil (c:Ct):Ste:=⟨List.replicate c.act.toNat 0,List.replicate c.act.toNat false,List.replicate c.inputs.length false,c.signals.map Sg.init,List.replicate c.signals.length 0⟩
def qnw (c:Ct):Ste:=qfg c (qil c)
theorem qqu {c:Ct} (hc:c.check=0):stE c (qil c)=0:=by
 have hact:1≤c.act:=by
  unfold Ct.check at hc
  split at hc
  ·cases hc
  ·omega
 have hS:Shp c (qil c):=⟨by unfold qil; rw [List.length_replicate]; omega,by unfold qil; rw [List.length_replicate]; omega,by unfold qil; rw [List.length_replicate],by unfold qil; rw [List.length_map],by unfold qil; rw [List.length_replicate]⟩
 refine qgk.2 ⟨hc,hS,qfv.2 fun y hy=>?_,qfv.2 fun y hy=>?_,fun k hk=>?_⟩
 ·rw [(List.mem_replicate.1 hy).2]; omega
 ·rw [(List.mem_replicate.1 hy).2]; omega
 ·have hkc:k < c.signals.length:=by rw [← hS.t]; exact hk
  rw [qwg hS hkc]
  unfold qil
  simp only [List.getElem_map,List.getElem_replicate]
  have hz:=qrf hc k _ (List.getElem?_eq_getElem hkc)
  generalize c.signals[k]=x at *
  by_cases h2:x.kind=2
  ·have hi:x.init=false:=by
    cases hb:x.init with
    | false=>rfl
    | true =>
     exfalso
     unfold q1v at hz
     split at hz
     ·split at hz
      ·cases hz
      ·split at hz
       ·split at hz
        ·rename_i h4; exact h4.2 hz
        ·split at hz
         ·cases hz
         ·split at hz
          ·cases hz
          ·rw [if_pos (.inl ⟨by omega,.inr hb⟩)] at hz
           cases hz
       ·rename_i h4; exact h4 hz
     ·rename_i h4; exact h4 hz
   rw [h2,hi]
   rfl
  ·simp [tmB,h2]
theorem qht {c:Ct} (hc:c.check=0):stE c (qnw c)=0:=qmo (qqu hc)
structure Rdy (c:Ct) (s:Ste):Prop where
 few:c.small=true
 st:stE c s=0
theorem Rdy.chk {c:Ct} {s:Ste} (h:Rdy c s):c.check=0:=(qlc h.st).1
theorem Rdy.mid {c:Ct} {s:Ste} (h:Rdy c s):Mid c c.act.toNat:=qsj h.chk h.few
theorem Rdy.shp {c:Ct} {s:Ste} (h:Rdy c s):Shp c s:=(qlc h.st).2
theorem Rdy.small {c:Ct} {s:Ste} (h:Rdy c s):s.small:=by
 obtain ⟨h1,h2,h3,h4,h5⟩:=h.shp
 have a1:=h.mid.hi
 have a2:=h.mid.inp
 have a3:=h.mid.sig
 have a4:=h.mid.act
 exact ⟨by omega,by omega,by omega,by omega,by omega⟩
theorem Rdy.sig {c:Ct} {s:Ste} (h:Rdy c s):∀ x ∈ c.signals,SigOk (qae s).length x:=by
 intro x hx
 rw [qzb h.shp]
 have:=z2n h.chk h.few hx
 exact ⟨⟨this.non,this.on⟩,fun _=>⟨this.noff,this.off⟩⟩
theorem Rdy.pil {c:Ct} {s:Ste} (h:Rdy c s):Pil c c.act.toNat (qae s).length:=by
 rw [qzb h.shp]
 have:=qsd h.chk h.few
 exact ⟨this.plus,this.minus,qfv.1 this.pp,qfv.1 this.mm⟩
theorem Rdy.settle {c:Ct} {s t:Ste} {m:List Int} (h:Rdy c s) (hz:qcw c s=some (t,m)):Rdy c t:=⟨h.few,qol h.st hz⟩
theorem Rdy.round {c:Ct} {s t:Ste} {m:List Int} (h:Rdy c s) (hz:qdj c s=some (t,m)):Rdy c t:=⟨h.few,qpu h.st hz⟩
structure Lin (N:Nat) (l:List Int):Prop where
 asc:Asc l
 b:∀ x ∈ l,0≤x∧x < (N:Int)
theorem Lin.norm (N:Nat) (l:List Int):Lin N (norm N l):=⟨qlb N l,fun _ hx=>(qhv.1 hx).2⟩
theorem Lin.self {N:Nat} {l:List Int} (h:Lin N l):Proofs.YtlhciedghbmjjaaGreat.norm N l=l:=zcs h.asc h.b
theorem zcc (N:Nat) (l:List Int):(norm N l).length≤N:=qri _ _ _
theorem Lin.len {N:Nat} {l:List Int} (h:Lin N l):l.length≤N:=by
 have:=zcc N l
 rwa [h.self] at this
theorem Lin.mono {M N:Nat} {l:List Int} (h:Lin M l) (hMN:M≤N):Lin N l:=⟨h.asc,fun x hx=>by have:=h.b x hx; omega⟩
theorem Lin.mrg {N:Nat} {l m:List Int} (hl:Lin N l) (hm:Lin N m):mrg l m=Proofs.YtlhciedghbmjjaaGreat.norm N (l++m):=zfq hl.asc hm.asc hl.b hm.b
theorem Lin.nil (N:Nat):Lin N []:=⟨List.Pairwise.nil,by simp⟩
theorem qqq {c:Ct} {N:Nat}:∀ {d:Nat} {s:Ste} {l:List Int} {t:Ste} {m:List Int},qfh c N d s l=some (t,m)→Lin N m
 | 0,_,_,_,_,h=>by cases h
 | d + 1,s,l,t,m,h=>by
  rw [qfh] at h
  split at h
  ·cases h; exact Lin.norm _ _
  ·exact qqq h
theorem qti {c:Ct} {s t:Ste} {m:List Int} (h:qcw c s=some (t,m)):Lin (qai c c.act.toNat) m:=qqq h
theorem q0r (c:Ct) (s:Ste):Lin (qie c) (qmu c s):=by
 refine ⟨?_,fun x hx=>?_⟩
 ·unfold qmu qyp Asc
  rw [List.pairwise_map]
  refine List.Pairwise.imp ?_ ((List.pairwise_lt_range (n:=c.act.toNat)).filter _)
  intro a b h
  omega
 ·unfold qmu at hx
  obtain ⟨j,h1,_,rfl⟩:=(q5o _ _ _ _).1 hx
  unfold qie
  omega
theorem qmp {c:Ct} (h:Mid c c.act.toNat):qie c≤200:=by
 have:=h.hi
 have:=h.inp
 have:=h.sig
 unfold qie qai
 omega
end Go.Proofs.YtlhciedghbmjjaaGreat
