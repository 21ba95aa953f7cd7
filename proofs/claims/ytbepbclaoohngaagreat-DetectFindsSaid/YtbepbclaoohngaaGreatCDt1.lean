/- Pairs of states: of, start, behind, told, differs, same, place. -/
import Derived.Test.YtbepbclaoohngaaGreatCFh1
import Derived.KernelRfl
import Derived.Test.YtbepbclaoohngaaGreatCMy2
import Derived.Test.YtbepbclaoohngaaGreatCFy5
import Derived.Test.YtbepbclaoohngaaGreatCSa1
import Derived.Test.YtbepbclaoohngaaGreatCZ7
set_option linter.all false
namespace Go.Proofs.YtbepbclaoohngaaGreat
open Go Go.Am Go.Proofs
set_option maxRecDepth 100000
structure Crs.small(r:Crs):Prop where
 st:r.st.small
 len:r.strokes.length<=100000
 each:∀l∈r.strokes,l.length<=100000
 conf:r.conf.length<=4096
theorem qlx:zeroS.small:=⟨by simp[zeroS],by simp[zeroS],by simp[zeroS],by simp[zeroS],by simp[zeroS]⟩
theorem q8j(c:Ct){s:Ste}(hc:c.small=true):(qpq c s).1.small/\(qpq c s).2.1.length<=4096:=by
 unfold qpq
 by_cases h:stE c s=0
 .rw[if_pos h]
  have hlin:=zjt c s
  have hN:=qvn (Rdy.mid ⟨hc,h⟩)
  refine⟨?_,by have:=hlin.len;omega⟩
  unfold qhg
  cases e:qid c s with
  | none=>exact⟨by simp[zeroS],by simp[zeroS],by simp[zeroS],by simp[zeroS],by simp[zeroS]⟩
  | some x=>exact Rdy.small ⟨hc,qlr h (show qid c s=some (x.1,x.2)from e)⟩
 .rw[if_neg h]
  exact⟨⟨by simp[zeroS],by simp[zeroS],by simp[zeroS],by simp[zeroS],by simp[zeroS]⟩,by simp⟩
theorem q6v(c:Ct)(hc:c.check=0):qcr c=qpq c (qgj c):=by
 unfold qcr qpq
 rw[if_pos hc,if_pos (qfc hc)]
theorem quk(c:Ct)(hc:c.small=true):(qcr c).1.small/\(qcr c).2.1.length<=4096:=by
 by_cases h:c.check=0
 .rw[q6v c h]
  exact q8j c hc
 .unfold qcr
  rw[if_neg h]
  exact⟨⟨by simp[zeroS],by simp[zeroS],by simp[zeroS],by simp[zeroS],by simp[zeroS]⟩,by simp⟩
theorem q4f{c:Ct}{s:Ste}(h:Rdy c s)(x:Evn):(qeb c s x).1.small:=by
 by_cases hz:(qeb c s x).2.2=0
 .exact Rdy.small ⟨h.few,q4e h.st hz⟩
 .unfold qeb at hz ⊢
  split
  .exact qlx
  .rename_i h1
   rw[if_neg h1]at hz
   split
   .rename_i h2
    rw[if_pos h2]at hz
    unfold qhg at hz ⊢
    cases e:qid c (qeo s x)with
    | none=>exact qlx
    | some y=>rw[e]at hz;exact absurd rfl hz
   .exact qlx
theorem qwy{c:Ct}(hc:c.small=true)(s:Ste)(x:Evn):(qhs c s x).1.small:=by
 unfold qhs
 split
 .rename_i h
  exact q4f (q2w hc h) x
 .exact qlx
end Go.Proofs.YtbepbclaoohngaaGreat
namespace Go.Proofs.YtbepbclaoohngaaGreat
open Go Go.Am Go.Proofs
set_option maxRecDepth 1000000
def one:Ct:=⟨1,[[115,116,97,114,116]],[⟨[109],1,.mk 3 0 [.mk 1 2 [],.mk 1 0 []],.mk 1 1 [],0,false⟩,⟨[103],0,.mk 2 0 [.mk 1 3 []],.mk 0 0 [],0,false⟩],[3],[4]⟩
@[simp] theorem zyy(l:List (List (Int×Bool))):qyk (l.map jfb) (l.map jfb)=true:=qjn (fun x=>by simp[qjn (row:=z3g)]) l
structure Lie(c:Ct)(t:Ste):Prop where
 rdy:Rdy c t
 still:∃a,qch c t=some (t,a)
theorem qxq{c:Ct}{s:Ste}(h:Rdy c s)(he:(qhg c s).2.2=0):Lie c (qhg c s).1/\(qhg c s).1.inputs=s.inputs:=by
 unfold qhg at he ⊢
 cases hZ:qid c s with
 | none=>rw[hZ]at he;simp at he
 | some x =>
  obtain⟨t,m⟩:=x
  exact⟨⟨⟨h.few,qlr h.st hZ⟩,qxr hZ⟩,q6k hZ⟩
theorem Lie.rest{c:Ct}{t:Ste}(h:Lie c t):(qpq c t).1=t/\(qpq c t).2.2=0:=by
 obtain⟨a,ha⟩:=h.still
 unfold qpq qhg
 rw[if_pos h.rdy.st,zej ha]
 exact⟨rfl,rfl⟩
def h6(c:Ct)(s t:Ste):H:=[⟨0,.box c.cells⟩,⟨0,.box s.cells⟩,o0,o0,o0,o0,o0,⟨0,.box t.cells⟩,o0,o0,o0,o0,o0,⟨0,.box t.cells⟩,⟨0,.arr 1 ((qae t).map qfi)⟩]
theorem Lie.quE{c:Ct}{t:Ste}(h:Lie c t):quE c t=0:=by
 obtain⟨a,ha⟩:=h.still
 unfold Proofs.YtbepbclaoohngaaGreat.quE qul
 rw[if_pos h.rdy.st,ha]
 simp[q0s]
theorem Lie.run{c:Ct}{t:Ste}(h:Lie c t){l:List Evn}(hl:l.length<=4096):jgh c t l=zwu c l 0 ⟨t,[],[]⟩:=by
 unfold jgh
 rw[if_pos h.quE,if_neg (by omega)]
theorem q0x{c:Ct}(hs:c.small=true)(hc:c.check=0)(he:(qcr c).2.2=0):Lie c (qcr c).1:=by
 rw[q6v c hc]at he ⊢
 unfold qpq qhg at *
 rw[if_pos (qfc hc)]at *
 cases hZ:qid c (qgj c)with
 | none=>rw[hZ]at he;simp at he
 | some x =>
  obtain⟨t,m⟩:=x
  exact⟨⟨hs,qlr (qfc hc) hZ⟩,qxr hZ⟩
set_option maxHeartbeats 4000000
structure Pins(d:Ct)(k:Int)(i:Nat):Prop where
 p0:k=0\/k=5->qyy d (qam d d.act.toNat) d.plus i 0
 m0:k=1\/k=4->qyy d (qam d d.act.toNat) d.minus i 0
 p1:k=4->qyy d (qam d d.act.toNat) d.plus i 1
def q2h(k:Int)(i:Nat)(s:Ste):Prop:=if k=0\/k=5 then qto s i else qoy s i
structure HoldI(d:Ct)(k:Int)(i:Nat)(s:Ste):Prop where
 lie:Lie d s
 keep:q2h k i s
theorem qwo{d:Ct}{k:Int}{i:Nat}(hP:Pins d k i)(hk:k=0\/k=1\/k=4\/k=5)(hsm:d.small=true)(s t:Ste)(a:List Int)(hs:stE d s=0)(h:qch d s=some (t,a))(hq:q2h k i s):q2h k i t:=by
 unfold q2h at hq ⊢
 by_cases h0:k=0\/k=5
 .rw[if_pos h0]at hq ⊢
  exact q5h hsm hs h (hP.p0 h0) hq
 .rw[if_neg h0]at hq ⊢
  exact q2i hsm hs h (hP.m0 (by omega)) hq
theorem zdf{k:Int}{i:Nat}(s:Ste)(x:Evn)(hm:qpk s x=true)(hq:q2h k i s):q2h k i (qeo s x):=by
 unfold q2h at hq ⊢
 split
 .rename_i h0
  rw[if_pos h0]at hq
  exact q8a hm hq
 .rename_i h0
  rw[if_neg h0]at hq
  exact q5i hm hq
theorem HoldI.step{d:Ct}{k:Int}{i:Nat}(hP:Pins d k i)(hk:k=0\/k=1\/k=4\/k=5){s:Ste}(h:HoldI d k i s){x:Evn}(he:(qhs d s x).2.2=0):HoldI d k i (qhs d s x).1:=by
 have hsm:=h.lie.rdy.few
 unfold qhs at he ⊢
 rw[if_pos h.lie.quE]at he ⊢
 refine⟨?_,zdg (qwo hP hk hsm) zdf h.lie.rdy.st h.keep he⟩
 unfold qeb at he ⊢
 split at he
 .cases he
 .rename_i h1
  rw[if_neg h1]
  split at he
  .rename_i h2
   rw[if_pos h2]
   exact(qxq ⟨hsm,qge h.lie.rdy.st h1 h2⟩ he).1
  .cases he
theorem HoldI.first{d:Ct}{k:Int}{i:Nat}(hP:Pins d k i)(hk:k=0\/k=1\/k=4\/k=5)(hsm:d.small=true)(hc:d.check=0)(hi:i<d.act.toNat)(he:(qcr d).2.2=0):HoldI d k i (qcr d).1:=by
 unfold qcr at he ⊢
 rw[if_pos hc]at he ⊢
 refine⟨(qxq ⟨hsm,qfc hc⟩ he).1,?_⟩
 have h0:q2h k i (qgj d):=by
  unfold q2h
  split
  .exact qzh hi
  .exact zde (qzh hi)
 unfold qhg at he ⊢
 cases e:qid d (qgj d)with
 | none=>rw[e]at he;cases he
 | some y =>
  simp only
  exact qwp (qwo hP hk hsm) (qfc hc) (show qfu d 65 (qgj d) []=some (y.1,y.2)from e) h0
structure Seen(d:Ct)(k:Int)(i:Nat)(s:Ste):Prop where
 len:(s.ends.length:Int)=d.act
 lt:i<s.ends.length
 out:k=4->s.ends[i]?=some 1\/s.ends[i]?=some 2
 inn:k=0\/k=5->s.ends[i]?=some 0
end Go.Proofs.YtbepbclaoohngaaGreat
namespace Go.Am
mutual
@[simp] theorem zlo:∀v:V,v.beq v=true
 | .undef | .ub | .nils | .nilx | .nilfn | .nilp=>rfl
 | .bool _=>by simp[V.beq]
 | .int k n=>by simp[V.beq]
 | .str _=>by simp[V.beq]
 | .imm a=>by simp only[V.beq];exact qvq a
 | .immc a=>by simp only[V.beq];exact qvq a
 | .iptr a=>by simp only[V.beq];exact qhn a
 | .bptr _ _=>by simp[V.beq]
 | .ptr _ _ _ _=>by simp[V.beq]
 | .bsl _ _ _ _=>by simp[V.beq]
 | .sl _ _ _ _ _=>by simp[V.beq]
 | .agg a=>by simp only[V.beq];exact qhn a
 | .tup a=>by simp only[V.beq];exact qhn a
 | .fn f a b=>by simp only[V.beq,qhn a,qhn b];simp
 | .map _=>by simp[V.beq]
 | .sit _=>by simp[V.beq]
 | .yld _=>by simp[V.beq]
 | .view p a=>by simp only[V.beq,qhn a];simp
@[simp] theorem qhn:∀l:List V,qza l l=true
 | []=>rfl
 | v :: l=>by simp only[qza,zlo v,qhn l];rfl
@[simp] theorem qvq:∀l:List (List V),qyk l l=true
 | []=>rfl
 | v :: l=>by simp only[qyk,qhn v,qvq l];rfl
end
def zet(x:X)(T:Tm)(r:R):Prop:=∃f H,Junk f/\r={ x:=x,st:=⟨fill f 0 T,H⟩ }
@[simp] theorem zzd{x x':X}{T:Tm}{st:St}:zet x T { x:=x',v:=.undef,st:=st }<->x'=x/\q1w T st.s:=by
 constructor
 .rintro⟨f,H,hf,e⟩
  have:=(zmn (x:=x) (x':=x') (T:=T) (h:=H) (st:=st)).1 ⟨f,hf,e⟩
  exact⟨this.1,this.2.s⟩
 .rintro⟨rfl,h⟩
  obtain⟨f,hf,e⟩:=qqm 0 h
  exact⟨f,st.h,hf,by rw[<-e]⟩
theorem qzq{P:Prg}{nx:Nat}{ks:List Nat}{c:C}(I:Nat->St->Prop)(N:Nat)(Q:R->Prop)
  (step:∀k st,k<N->I k st->∃r,ev P (.code c st)=some r/\((r.x=.normal/\I (k+1) (zlx nx ks r.st))\/(r.x ≠ .normal/\Q r)))
  (last:∀st,I N st->∃r,ev P (.code c st)=some r/\r.x ≠ .normal/\Q r):∀(d k:Nat) (st:St),k+d=N->I k st->∃r,ev P (.code (.goingF nx ks c) st)=some r/\Q r
 | 0,k,st,hk,hI=>by
  have:k=N:=by omega
  subst this
  obtain⟨r,h1,h2,h3⟩:=last st hI
  refine⟨r,?_,h3⟩
  rw[qwa,h1]
  cases hx:r.x with
  | normal=>exact absurd hx h2
  | exit id=>simp only[hx]
  | ret=>simp only[hx]
 | d+1,k,st,hk,hI=>by
  obtain⟨r,h1,h2⟩:=step k st (by omega) hI
  rcases h2 with⟨h2,h3⟩ | ⟨h2,h3⟩
  .obtain⟨r',h4,h5⟩:=qzq I N Q step last d (k+1) (zlx nx ks r.st) (by omega) h3
   refine⟨r',?_,h5⟩
   rw[qwa,h1]
   simp only[h2]
   exact h4
  .refine⟨r,?_,h3⟩
   rw[qwa,h1]
   cases hx:r.x with
   | normal=>exact absurd hx h2
   | exit id=>simp only[hx]
   | ret=>simp only[hx]
end Go.Am
namespace Go.Proofs.YtbepbclaoohngaaGreat
open Go Go.Am Go.Proofs
set_option maxRecDepth 100000
set_option maxHeartbeats 4000000
def q8z(a b:List Evn)(k:Nat):Tm:=[some (evs a),some (evs b),none,none,none,none,none,none,none,none,none,none,nN a.length,nN k]++zN 12
theorem jet(a b:List Evn)(hab:b.length=a.length)(ha:a.length<=100000){st:St}(h0:At (q8z a b 0) [] st):∃r,ev pg (.code (.going 0 L46_0) st)=some r/\qma a.length (fun k=>decide (a[k]?≠b[k]?)) (fun _=>qas .ret zla []) (qas (.exit 0) (q8z a b a.length) []) r:=by
 refine qce _ _ (q8z a b) [] _ _ ?_ ?_ ?_ h0
 .intro k f hf hk hp
  have hk':(k:Int)<a.length:=by omega
  have hkb:k<b.length:=by omega
  have wk:=qbb (k:=k) (by omega)
  have hb:a[k]=b[k]:=by simpa[hk,hkb]using hp
  simp[qab,exT,qak,q8z,L46_0,hk,hk',hkb,hb,wk,hf.ne]
 .intro k f hf hk hp
  have hk':(k:Int)<a.length:=by omega
  have hkb:k<b.length:=by omega
  have hb:a[k]≠b[k]:=by simpa[hk,hkb]using hp
  by_cases h1:a[k].kind=b[k].kind
  .by_cases h2:a[k].idx=b[k].idx
   .have h3:¬a[k].val=b[k].val:=fun h=>hb (Evn.ext' h1 h2 h)
    have h3b:(a[k].val==b[k].val)=false:=by simpa using h3
    simp[qab,exT,qak,q8z,zla,L46_0,hk,hk',hkb,h1,h2,h3,h3b,hf.ne]
   .have h2b:(a[k].idx==b[k].idx)=false:=by simpa using h2
    by_cases h3:a[k].val=b[k].val
    .simp[qab,exT,qak,q8z,zla,L46_0,hk,hk',hkb,h1,h2,h2b,h3,hf.ne]
    .have h3b:(a[k].val==b[k].val)=false:=by simpa using h3
     simp[qab,exT,qak,q8z,zla,L46_0,hk,hk',hkb,h1,h2,h2b,h3,h3b,hf.ne]
  .have h1b:(a[k].kind==b[k].kind)=false:=by simpa using h1
   by_cases h2:a[k].idx=b[k].idx
   .by_cases h3:a[k].val=b[k].val
    .simp[qab,exT,qak,q8z,zla,L46_0,hk,hk',hkb,h1,h1b,h2,h3,hf.ne]
    .have h3b:(a[k].val==b[k].val)=false:=by simpa using h3
     simp[qab,exT,qak,q8z,zla,L46_0,hk,hk',hkb,h1,h1b,h2,h3,h3b,hf.ne]
   .have h2b:(a[k].idx==b[k].idx)=false:=by simpa using h2
    by_cases h3:a[k].val=b[k].val
    .simp[qab,exT,qak,q8z,zla,L46_0,hk,hk',hkb,h1,h1b,h2,h2b,h3,hf.ne]
    .have h3b:(a[k].val==b[k].val)=false:=by simpa using h3
     simp[qab,exT,qak,q8z,zla,L46_0,hk,hk',hkb,h1,h1b,h2,h2b,h3,h3b,hf.ne]
 .intro f hf
  simp[q8z,L46_0,hf.ne]
theorem ev46(a b:List Evn)(ha:a.length<=100000):ev pg (.call (.fn 46 [] []) [evs a,evs b] [])=some { v:=.bool (decide (a=b)),st:=⟨[],[]⟩ }:=by
 rw[qaa,pg46]
 by_cases hab:b.length=a.length
 .have hloop:=@jet a b hab ha
  have hab':(b.length:Int)=a.length:=by omega
  simp[ir46,qah,hab']
  generalize hr:ev pg (.code (.going _ L46_0) _)=o
  obtain⟨r,rfl,hQ⟩:∃r,o=some r/\_:=by rw[<-hr];exact hloop (by simp[q8z])
  rcases hQ with⟨k,hk,hp,-,f,hf,rfl⟩ | ⟨hp,f,hf,rfl⟩
  .have:a≠b:=by rintro rfl;simp at hp
   simp[zla,this]
  .have:a=b:=by
    refine List.ext_getElem hab.symm fun k h1 h2=>?_
    have:=hp k h1
    simpa[h1,h2]using this
   simp[q8z,this]
 .have hne:((a.length:Int) != (b.length:Int))=true:=by rw[bne_iff_ne];omega
  have:a≠b:=fun e=>hab (by rw[e])
  simp[ir46,hne,this]
abbrev qbw(p:Ste×Ste):List V:=[qeh p.1.ends,qdy p.1.valves,qdy p.1.inputs,qdy p.1.values,qeh p.1.timers,qeh p.2.ends,qdy p.2.valves,qdy p.2.inputs,qdy p.2.values,qeh p.2.timers]
abbrev qlz(w:Ct×Ct):List V:=[num w.1.act,.imm (w.1.inputs.map qom),.imm (w.1.signals.map Sg.row),qeh w.1.plus,qeh w.1.minus,num w.2.act,.imm (w.2.inputs.map qom),.imm (w.2.signals.map Sg.row),qeh w.2.plus,qeh w.2.minus]
structure WS(w:Ct×Ct):Prop where
 g:w.1.small=true
 b:w.2.small=true
structure PS(p:Ste×Ste):Prop where
 g:p.1.small
 b:p.2.small
def ofW(c:Ct)(k i:Int):Ct×Ct:=if qkh c k i=0 then(c,qpi c k i)else(qyx,qyx)
theorem ev47(c:Ct)(hs:c.small=true)(k i:Int):ev pg (.call (.fn 47 [] []) [c.v,fv k i] [])=some { v:=.tup [.agg (qlz (ofW c k i)),num (qkh c k i)],st:=⟨[],[]⟩ }:=by
 have e38:=ev38 c hs k i
 rw[qaa,pg47]
 unfold ofW
 by_cases h:qkh c k i=0
 .rw[h]at e38 ⊢
  generalize qpi c k i=d at *
  simp[ir47,e38]
 .have hb:(qkh c k i==0)=false:=by simpa using h
  rw[if_neg h]
  generalize qpi c k i=d at *
  generalize qkh c k i=e at *
  simp[ir47,e38,h,hb,qyx]
def qcn(w:Ct×Ct):(Ste×Ste)×Bool×Int:=if(qcr w.1).2.2=0 then(((qcr w.1).1,(qcr w.2).1),(qcr w.2).2.2==0,0)else((zeroS,zeroS),false,(qcr w.1).2.2)
abbrev zdu(x:(Ste×Ste)×Bool×Int):V:=.tup [.agg (qbw x.1),.bool x.2.1,num x.2.2]
theorem ev64(w:Ct×Ct)(hw:WS w):ev pg (.call (.fn 64 [] []) [.agg (qlz w)] [])=some { v:=zdu (qcn w),st:=⟨[],[]⟩ }:=by
 have e1:=ev39 w.1 hw.g
 have e2:=ev39 w.2 hw.b
 rw[qaa,pg64]
 unfold qcn
 unfold q7b at e1 e2
 generalize qcr w.2=y at *
 by_cases h:(qcr w.1).2.2=0
 .rw[if_pos h]
  rw[h]at e1
  generalize qcr w.1=x at *
  simp[ir64,e1,e2]
 .have hb:((qcr w.1).2.2==0)=false:=by simpa using h
  rw[if_neg h]
  generalize qcr w.1=x at *
  simp[ir64,e1,h,hb,zeroS]
def qsc(w:Ct×Ct)(p:Ste×Ste)(x:Evn):(Ste×Ste)×Bool×Int:=if(qhs w.1 p.1 x).2.2=0 then(((qhs w.1 p.1 x).1,(qhs w.2 p.2 x).1),(qhs w.2 p.2 x).2.2==0,0)else((zeroS,zeroS),false,(qhs w.1 p.1 x).2.2)
theorem ev66(w:Ct×Ct)(hw:WS w)(p:Ste×Ste)(hp:PS p)(x:Evn):ev pg (.call (.fn 66 [] []) [.agg (qlz w),.agg (qbw p),x.v] [])=some { v:=zdu (qsc w p x),st:=⟨[],[]⟩ }:=by
 have e1:=ev57 w.1 p.1 hw.g hp.g x
 have e2:=ev57 w.2 p.2 hw.b hp.b x
 rw[qaa,pg66]
 unfold qsc
 unfold q7b at e1 e2
 generalize qhs w.2 p.2 x=y at *
 by_cases h:(qhs w.1 p.1 x).2.2=0
 .rw[if_pos h]
  rw[h]at e1
  generalize qhs w.1 p.1 x=z at *
  simp[ir66,e1,e2]
 .have hb:((qhs w.1 p.1 x).2.2==0)=false:=by simpa using h
  rw[if_neg h]
  generalize qhs w.1 p.1 x=z at *
  simp[ir66,e1,h,hb,zeroS]
abbrev qoq(c:Ct)(s:Ste):List Evn:=(qmm c s).1
theorem ev126(c:Ct)(s:Ste)(hc:c.small=true)(hs:s.small):ev pg (.call (.fn 126 [] []) [c.v,s.v] [])=some { v:=evs (qoq c s),st:=⟨[],[]⟩ }:=by
 have e:=ev132 c s hc hs
 rw[qaa,pg126]
 unfold qoq
 generalize qmm c s=x at *
 simp[ir126,e]
theorem qyh(c:Ct)(s:Ste)(hs:s.small):(qoq c s).length<=8192:=by
 unfold qoq qmm
 split
 .rw[qju,jF]
  have:=qfa 0 (qbn s 0) s.ends.length
  have:=qfa 1 (qbn s 1) s.timers.length
  have:=hs.e
  have:=hs.t
  omega
 .simp
def difP(w:Ct×Ct)(p:Ste×Ste):Bool:=!decide (p.1.ends=p.2.ends)||(!decide (p.1.inputs=p.2.inputs) || !decide (qoq w.1 p.1=qoq w.2 p.2))
theorem ev65(w:Ct×Ct)(hw:WS w)(p:Ste×Ste)(hp:PS p):ev pg (.call (.fn 65 [] []) [.agg (qlz w),.agg (qbw p)] [])=some { v:=.bool (difP w p),st:=⟨[],[]⟩ }:=by
 have e1:=ev124 p.1.ends p.2.ends hp.g.e
 have e2:=ev125 p.1.inputs p.2.inputs hp.g.i
 have e3:=ev126 w.1 p.1 hw.g hp.g
 have e4:=ev126 w.2 p.2 hw.b hp.b
 have e5:=ev46 (qoq w.1 p.1) (qoq w.2 p.2) (by have:=qyh w.1 p.1 hp.g;omega)
 rw[qaa,pg65]
 unfold difP
 generalize qoq w.1 p.1=l1 at *
 generalize qoq w.2 p.2=l2 at *
 generalize decide (p.1.ends=p.2.ends)=d1 at *
 generalize decide (p.1.inputs=p.2.inputs)=d2 at *
 cases d1
 .simp[ir65,qab,exT,qak,e1]
 .cases d2
  .simp[ir65,qab,exT,qak,e1,e2]
  .simp[ir65,qab,exT,qak,e1,e2,e3,e4,e5]
end Go.Proofs.YtbepbclaoohngaaGreat
