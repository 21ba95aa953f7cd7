/- Loops of Am: ends whatever the memory is; loops that hand on slots. -/
import Derived.Test.YtbepbclaoohngaaGreatRu3
import Derived.KernelRfl
import Derived.Test.YtbepbclaoohngaaGreatRn2
import Derived.Test.YtbepbclaoohngaaGreatDe3
import Derived.Test.YtbepbclaoohngaaGreatSa1
set_option linter.all false
namespace Go.Proofs.YtbepbclaoohngaaGreat
open Go Go.Am Go.Proofs
set_option maxRecDepth 100000
structure Crs.small(r:Crs):Prop where
 st:r.st.small
 len:r.strokes.length<=100000
 each:∀l∈r.strokes,l.length<=100000
 conf:r.conf.length<=4096
theorem qly:zeroS.small:=⟨by simp[zeroS],by simp[zeroS],by simp[zeroS],by simp[zeroS],by simp[zeroS]⟩
theorem q8u(c:Ct){s:Ste}(hc:c.small=true):(qpn c s).1.small/\(qpn c s).2.1.length<=4096:=by
 unfold qpn
 by_cases h:stE c s=0
 .rw[if_pos h]
  have hlin:=q6k c s
  have hN:=q1r (Rdy.mid ⟨hc,h⟩)
  refine⟨?_,by have:=hlin.len;omega⟩
  unfold qjf
  cases e:qlq c s with
  | none=>exact⟨by simp[zeroS],by simp[zeroS],by simp[zeroS],by simp[zeroS],by simp[zeroS]⟩
  | some x=>exact Rdy.small ⟨hc,qlr h (show qlq c s=some (x.1,x.2)from e)⟩
 .rw[if_neg h]
  exact⟨⟨by simp[zeroS],by simp[zeroS],by simp[zeroS],by simp[zeroS],by simp[zeroS]⟩,by simp⟩
theorem q6x(c:Ct)(hc:c.check=0):qcy c=qpn c (qjr c):=by
 unfold qcy qpn
 rw[if_pos hc,if_pos (qgg hc)]
theorem qum(c:Ct)(hc:c.small=true):(qcy c).1.small/\(qcy c).2.1.length<=4096:=by
 by_cases h:c.check=0
 .rw[q6x c h]
  exact q8u c hc
 .unfold qcy
  rw[if_neg h]
  exact⟨⟨by simp[zeroS],by simp[zeroS],by simp[zeroS],by simp[zeroS],by simp[zeroS]⟩,by simp⟩
theorem q4g{c:Ct}{s:Ste}(h:Rdy c s)(x:Evn):(qbk c s x).1.small:=by
 by_cases hz:(qbk c s x).2.2=0
 .exact Rdy.small ⟨h.few,qtp h.st hz⟩
 .unfold qbk at hz ⊢
  split
  .exact qly
  .rename_i h1
   rw[if_neg h1]at hz
   split
   .rename_i h2
    rw[if_pos h2]at hz
    unfold qjf at hz ⊢
    cases e:qlq c (qer s x)with
    | none=>exact qly
    | some y=>rw[e]at hz;exact absurd rfl hz
   .exact qly
theorem qxf{c:Ct}(hc:c.small=true)(s:Ste)(x:Evn):(qjp c s x).1.small:=by
 unfold qjp
 split
 .rename_i h
  exact q4g (q3a hc h) x
 .exact qly
end Go.Proofs.YtbepbclaoohngaaGreat
namespace Go.Proofs.YtbepbclaoohngaaGreat
open Go Go.Am Go.Proofs
set_option maxRecDepth 1000000
def one:Ct:=⟨1,[[115,116,97,114,116]],[⟨[109],1,.mk 3 0 [.mk 1 2 [],.mk 1 0 []],.mk 1 1 [],0,false⟩,⟨[103],0,.mk 2 0 [.mk 1 3 []],.mk 0 0 [],0,false⟩],[3],[4]⟩
@[simp] theorem zzg(l:List (List (Int×Bool))):qyr (l.map zyd) (l.map zyd)=true:=qjs (fun x=>by simp[qjs (row:=zxj)]) l
structure Lie(c:Ct)(t:Ste):Prop where
 rdy:Rdy c t
 still:∃a,qda c t=some (t,a)
theorem qxw{c:Ct}{s:Ste}(h:Rdy c s)(he:(qjf c s).2.2=0):Lie c (qjf c s).1/\(qjf c s).1.inputs=s.inputs:=by
 unfold qjf at he ⊢
 cases hZ:qlq c s with
 | none=>rw[hZ]at he;simp at he
 | some x =>
  obtain⟨t,m⟩:=x
  exact⟨⟨⟨h.few,qlr h.st hZ⟩,qxx hZ⟩,q6l hZ⟩
theorem Lie.rest{c:Ct}{t:Ste}(h:Lie c t):(qpn c t).1=t/\(qpn c t).2.2=0:=by
 obtain⟨a,ha⟩:=h.still
 unfold qpn qjf
 rw[if_pos h.rdy.st,zev ha]
 exact⟨rfl,rfl⟩
def h6(c:Ct)(s t:Ste):H:=[⟨0,.box c.cells⟩,⟨0,.box s.cells⟩,o0,o0,o0,o0,o0,⟨0,.box t.cells⟩,o0,o0,o0,o0,o0,⟨0,.box t.cells⟩,⟨0,.arr 1 ((qah t).map qhq)⟩]
theorem Lie.quE{c:Ct}{t:Ste}(h:Lie c t):quE c t=0:=by
 obtain⟨a,ha⟩:=h.still
 unfold Proofs.YtbepbclaoohngaaGreat.quE q6z
 rw[if_pos h.rdy.st,ha]
 simp[q1b]
theorem Lie.run{c:Ct}{t:Ste}(h:Lie c t){l:List Evn}(hl:l.length<=4096):zln c t l=qjg c l 0 ⟨t,[],[]⟩:=by
 unfold zln
 rw[if_pos h.quE,if_neg (by omega)]
theorem q1g{c:Ct}(hs:c.small=true)(hc:c.check=0)(he:(qcy c).2.2=0):Lie c (qcy c).1:=by
 rw[q6x c hc]at he ⊢
 unfold qpn qjf at *
 rw[if_pos (qgg hc)]at *
 cases hZ:qlq c (qjr c)with
 | none=>rw[hZ]at he;simp at he
 | some x =>
  obtain⟨t,m⟩:=x
  exact⟨⟨hs,qlr (qgg hc) hZ⟩,qxx hZ⟩
abbrev h38(a b:Ste)(l:List Int):H:=[⟨0,.box a.cells⟩,⟨0,.box b.cells⟩,⟨0,.arr 1 (l.map qbo)⟩,o0]
set_option maxHeartbeats 4000000
structure Pins(d:Ct)(k:Int)(i:Nat):Prop where
 p0:k=0\/k=5->qzk d (qal d d.act.toNat) d.plus i 0
 m0:k=1\/k=4->qzk d (qal d d.act.toNat) d.minus i 0
 p1:k=4->qzk d (qal d d.act.toNat) d.plus i 1
def qyy(k:Int)(i:Nat)(s:Ste):Prop:=if k=0\/k=5 then qto s i else qpb s i
structure HoldI(d:Ct)(k:Int)(i:Nat)(s:Ste):Prop where
 lie:Lie d s
 keep:qyy k i s
theorem qws{d:Ct}{k:Int}{i:Nat}(hP:Pins d k i)(hk:k=0\/k=1\/k=4\/k=5)(hsm:d.small=true)(s t:Ste)(a:List Int)(hs:stE d s=0)(h:qda d s=some (t,a))(hq:qyy k i s):qyy k i t:=by
 unfold qyy at hq ⊢
 by_cases h0:k=0\/k=5
 .rw[if_pos h0]at hq ⊢
  exact q5g hsm hs h (hP.p0 h0) hq
 .rw[if_neg h0]at hq ⊢
  exact q2o hsm hs h (hP.m0 (by omega)) hq
theorem zdr{k:Int}{i:Nat}(s:Ste)(x:Evn)(hm:qow s x=true)(hq:qyy k i s):qyy k i (qer s x):=by
 unfold qyy at hq ⊢
 split
 .rename_i h0
  rw[if_pos h0]at hq
  exact q8j hm hq
 .rename_i h0
  rw[if_neg h0]at hq
  exact q5h hm hq
theorem HoldI.step{d:Ct}{k:Int}{i:Nat}(hP:Pins d k i)(hk:k=0\/k=1\/k=4\/k=5){s:Ste}(h:HoldI d k i s){x:Evn}(he:(qjp d s x).2.2=0):HoldI d k i (qjp d s x).1:=by
 have hsm:=h.lie.rdy.few
 unfold qjp at he ⊢
 rw[if_pos h.lie.quE]at he ⊢
 refine⟨?_,zds (qws hP hk hsm) zdr h.lie.rdy.st h.keep he⟩
 unfold qbk at he ⊢
 split at he
 .cases he
 .rename_i h1
  rw[if_neg h1]
  split at he
  .rename_i h2
   rw[if_pos h2]
   exact(qxw ⟨hsm,qhb h.lie.rdy.st h1 h2⟩ he).1
  .cases he
theorem HoldI.first{d:Ct}{k:Int}{i:Nat}(hP:Pins d k i)(hk:k=0\/k=1\/k=4\/k=5)(hsm:d.small=true)(hc:d.check=0)(hi:i<d.act.toNat)(he:(qcy d).2.2=0):HoldI d k i (qcy d).1:=by
 unfold qcy at he ⊢
 rw[if_pos hc]at he ⊢
 refine⟨(qxw ⟨hsm,qgg hc⟩ he).1,?_⟩
 have h0:qyy k i (qjr d):=by
  unfold qyy
  split
  .exact qzq hi
  .exact zdq (qzq hi)
 unfold qjf at he ⊢
 cases e:qlq d (qjr d)with
 | none=>rw[e]at he;cases he
 | some y =>
  simp only
  exact qwt (qws hP hk hsm) (qgg hc) (show qgp d 65 (qjr d) []=some (y.1,y.2)from e) h0
structure Seen(d:Ct)(k:Int)(i:Nat)(s:Ste):Prop where
 len:(s.ends.length:Int)=d.act
 lt:i<s.ends.length
 out:k=4->s.ends[i]?=some 1\/s.ends[i]?=some 2
 inn:k=0\/k=5->s.ends[i]?=some 0
theorem HoldI.seen{d:Ct}{k:Int}{i:Nat}(hP:Pins d k i){s:Ste}(h:HoldI d k i s)(hi:(i:Int)<d.act):Seen d k i s:=by
 have hS:=h.lie.rdy.shp
 have hl:=hS.e
 have hv:=hS.w
 have hlt:i<s.ends.length:=by omega
 have hlv:i<s.valves.length:=by omega
 refine⟨by omega,hlt,fun hk=>?_,fun hk=>?_⟩
 .obtain⟨a,ha⟩:=h.lie.still
  obtain⟨⟨m,hm⟩,-,-⟩:=qpv ha
  have l1:=qnr h.lie.rdy.few h.lie.rdy.st hm (hP.p1 hk)
  have l2:=qnr h.lie.rdy.few h.lie.rdy.st hm (hP.m0 (.inr hk))
  have e1:=q9c ha hlv (by rw[l1,l2];decide)
  have e2:=zku h.lie.rdy.st ha hlt hlv
  rw[e1,l1]at e2
  rw[jA hlt]
  have e3:(s.ends[i]==2||s.ends[i]==1)=true:=e2.symm
  rw[Bool.or_eq_true,beq_iff_eq,beq_iff_eq]at e3
  rcases e3 with e | e
  .exact .inr (by rw[e])
  .exact .inl (by rw[e])
 .have hq:=h.keep
  unfold qyy at hq
  rw[if_pos hk]at hq
  exact hq.2
end Go.Proofs.YtbepbclaoohngaaGreat
namespace Go.Am
mutual
@[simp] theorem zmc:∀v:V,v.beq v=true
 | .undef | .ub | .nils | .nilx | .nilfn | .nilp=>rfl
 | .bool _=>by simp[V.beq]
 | .int k n=>by simp[V.beq]
 | .str _=>by simp[V.beq]
 | .imm a=>by simp only[V.beq];exact qvr a
 | .immc a=>by simp only[V.beq];exact qvr a
 | .iptr a=>by simp only[V.beq];exact qho a
 | .bptr _ _=>by simp[V.beq]
 | .ptr _ _ _ _=>by simp[V.beq]
 | .bsl _ _ _ _=>by simp[V.beq]
 | .sl _ _ _ _ _=>by simp[V.beq]
 | .agg a=>by simp only[V.beq];exact qho a
 | .tup a=>by simp only[V.beq];exact qho a
 | .fn f a b=>by simp only[V.beq,qho a,qho b];simp
 | .map _=>by simp[V.beq]
 | .sit _=>by simp[V.beq]
 | .yld _=>by simp[V.beq]
 | .view p a=>by simp only[V.beq,qho a];simp
@[simp] theorem qho:∀l:List V,qzl l l=true
 | []=>rfl
 | v :: l=>by simp only[qzl,zmc v,qho l];rfl
@[simp] theorem qvr:∀l:List (List V),qyr l l=true
 | []=>rfl
 | v :: l=>by simp only[qyr,qho v,qvr l];rfl
end
def zlo(x:X)(T:Tm)(r:R):Prop:=∃f H,Junk f/\r={ x:=x,st:=⟨fill f 0 T,H⟩ }
@[simp] theorem zzl{x x':X}{T:Tm}{st:St}:zlo x T { x:=x',v:=.undef,st:=st }<->x'=x/\qzr T st.s:=by
 constructor
 .rintro⟨f,H,hf,e⟩
  have:=(znb (x:=x) (x':=x') (T:=T) (h:=H) (st:=st)).1 ⟨f,hf,e⟩
  exact⟨this.1,this.2.s⟩
 .rintro⟨rfl,h⟩
  obtain⟨f,hf,e⟩:=qqn 0 h
  exact⟨f,st.h,hf,by rw[<-e]⟩
theorem q0d{P:Prg}{nx:Nat}{ks:List Nat}{c:C}(I:Nat->St->Prop)(N:Nat)(Q:R->Prop)
  (step:∀k st,k<N->I k st->∃r,ev P (.code c st)=some r/\((r.x=.normal/\I (k+1) (zml nx ks r.st))\/(r.x ≠ .normal/\Q r)))
  (last:∀st,I N st->∃r,ev P (.code c st)=some r/\r.x ≠ .normal/\Q r):∀(d k:Nat) (st:St),k+d=N->I k st->∃r,ev P (.code (.goingF nx ks c) st)=some r/\Q r
 | 0,k,st,hk,hI=>by
  have:k=N:=by omega
  subst this
  obtain⟨r,h1,h2,h3⟩:=last st hI
  refine⟨r,?_,h3⟩
  rw[qwa,h1]
  cases hx:r.x with
  | normal=>exact absurd hx h2
  | exit id=>simp only[hx]
  | ret=>simp only[hx]
 | d+1,k,st,hk,hI=>by
  obtain⟨r,h1,h2⟩:=step k st (by omega) hI
  rcases h2 with⟨h2,h3⟩ | ⟨h2,h3⟩
  .obtain⟨r',h4,h5⟩:=q0d I N Q step last d (k+1) (zml nx ks r.st) (by omega) h3
   refine⟨r',?_,h5⟩
   rw[qwa,h1]
   simp only[h2]
   exact h4
  .refine⟨r,?_,h3⟩
   rw[qwa,h1]
   cases hx:r.x with
   | normal=>exact absurd hx h2
   | exit id=>simp only[hx]
   | ret=>simp only[hx]
end Go.Am
