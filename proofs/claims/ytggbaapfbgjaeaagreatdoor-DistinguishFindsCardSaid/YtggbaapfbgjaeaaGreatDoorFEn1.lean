/- Equality of. -/
import GoSem.Step
import Derived.KernelRfl
set_option linter.all false
set_option maxHeartbeats 4000000
set_option linter.all false
namespace Go.Am
def jA:=@List.getElem?_eq_getElem
def jB:=@Option.bind_eq_some_iff
def jC:=@Option.some.injEq
def jD:=@Nat.le_refl
def jE:=@Bool.and_eq_true
def jF:=@List.length_append
def jG:=@List.getElem?_eq_some_iff
def jH:=@List.getElem_mem
def jI:=@List.getElem?_append_left
def jJ:=@List.getElem?_append_right
def jK:=@List.take_succ_eq_append_getElem
def jL:=@List.drop_eq_getElem_cons
def jM:=@Option.map_eq_some_iff
def jN:=@List.getElem?_set_self
def jO:=@List.getElem?_set_ne
def jP:=@List.all_eq_true
def jQ:=@List.mem_append
def jR:=@List.mem_of_getElem?
def jS:=@Nat.lt_of_lt_of_le
def jT:=@List.mem_or_eq_of_mem_set
def jU:=@List.length_set
def jV:=@Nat.mul_le_mul_right
def jW:=@decide_eq_true_eq
def jX:=@List.drop_eq_nil_of_le
def jY:=@List.getElem?_eq_none
def jZ:=@List.flatten_append
def kA:=@List.length_pos_iff
def kB:=@List.take_of_length_le
def kD:=@List.length_replicate
inductive V where
 | undef
 | ub
 | bool (b:Bool)
 | int (k:IntKind) (n:Int)
 | str (s:List UInt8)
 | nils
 | imm (els:List (List V))
 | iptr (cells:List V)
 | bptr (id off:Nat)
 | ptr (id gen el off:Nat)
 | sl (id gen n off len:Nat)
 | bsl (id off n len:Nat)
 | agg (cells:List V)
 | tup (vs:List V)
 | fn (f:Nat) (first caps:List V)
 | nilfn
 | nilp
 | map (id:Nat)
 | sit (id:Nat)
 | yld (id:Nat)
 | view (p:Bool) (cells:List V)
 | immc (els:List (List V))
 | nilx
 deriving Inhabited
inductive A where
 | t (n:Nat)
 | c (v:V)
 | m (tbl:List (Nat×Nat)) (n:Nat)
 deriving Inhabited
inductive Cv where
 | int (k:IntKind)
 | i2s
 | same
 deriving Inhabited
inductive O where
 | mv (x:A)
 | pick (c a b:A)
 | alloc (zero:List V)
 | box (x:A)
 | build (zero:List V) (parts:List (Nat×Nat×A))
 | lit (n:Nat) (zero:List V) (len:Nat) (parts:List (Nat×A))
 | own (n:Nat) (zero:List V) (len:Nat) (parts:List (Nat×A))
 | bslice (fz:Bool) (n:Nat) (zero:List V) (len:Nat) (parts:List (Nat×A))
 | load (agg:Bool) (n:Nat) (x:A)
 | store (n:Nat) (x v:A)
 | nilck (x:A)
 | isnil (neg:Bool) (x:A)
 | isnilP (neg:Bool) (x:A)
 | bin (b:Bool) (op:BinOp) (x y:A)
 | eqa (neg:Bool) (ks:List Nat) (x y:A)
 | un (op:UnOp) (x:A)
 | conv (c:Cv) (x:A)
 | mkfn (f:Nat) (first caps:List A)
 | mkmap
 | mkslice (n bytes:Nat) (zero:List V) (len cap:A)
 | slcS (x:A) (lo hi:Option A)
 | slcL (n:Nat) (x:A) (lo hi mx:Option A)
 | slcA (len n:Nat) (x:A) (lo hi:Option A)
 | faddr (off:Nat) (x:A)
 | fld (agg:Bool) (off n:Nat) (x:A)
 | iaddrA (len n:Nat) (x i:A)
 | iaddrL (n:Nat) (x i:A)
 | idxA (agg:Bool) (len n:Nat) (x i:A)
 | idxS (x i:A)
 | look (kk:Nat) (zero:V) (ok:Bool) (x k:A)
 | upd (kk:Nat) (m k v:A)
 | rng (x:A)
 | nxt (x:A)
 | ext (i:Nat) (x:A)
 | len (isStr:Bool) (x:A)
 | lenm (x:A)
 | cap (x:A)
 | app (n bytes:Nat) (x y:A)
 | appF (n bytes:Nat) (x y:A)
 | appz (n bytes:Nat) (zero:List V) (x y:A)
 | clr (n:Nat) (zero:List V) (x:A)
 | mx (min:Bool) (x y:A)
 | call (f:A) (args:List A)
 | stuck
 deriving Inhabited
structure I where
 dst:Option Nat
 g:Option (Nat×Bool)
 o:O
 deriving Inhabited
inductive C where
 | skip
 | reg (ops:List I)
 | draw (ops:List I) (chk:List (Nat×Nat))
 | seq (a b:C)
 | cond (c:A) (a b:C)
 | block (id:Nat) (c:C)
 | loop (c:C)
 | going (nx:Nat) (c:C)
 | loopK (k:Nat) (c:C)
 | goingK (nx k:Nat) (c:C)
 | loopF (ks:List Nat) (c:C)
 | goingF (nx:Nat) (ks:List Nat) (c:C)
 | range (f:A) (params:List Nat) (assign body:C)
 | exit (id:Nat)
 | giv (k:Nat)
 | ret
 deriving Inhabited
inductive X where
 | normal
 | exit (id:Nat)
 | ret
 deriving DecidableEq,Inhabited
inductive K where
 | box (cells:List V)
 | arr (n:Nat) (els:List (List V))
 | frz (n:Nat) (els:List (List V))
 | map (es:List (V×V))
 | sit (s:List UInt8) (pos:Nat)
 | loop (slots:List V) (params:List Nat) (assign body:C) (pend:Option X)
 deriving Inhabited
structure Ob where
 gen:Nat
 k:K
 deriving Inhabited
abbrev H:=List Ob
structure St where
 s:List V
 h:H
 deriving Inhabited
def qah:List V->Nat->V
 | [],_=>.undef
 | x :: _,0=>x
 | _ :: xs,n+1=>qah xs n
def qet:List V->Nat->V->List V
 | [],_,_=>[]
 | _ :: xs,0,v=>v :: xs
 | x :: xs,n+1,v=>x :: qet xs n v
def zwm:List (Nat×Nat)->Nat->Option Nat
 | [],_=>none
 | (t,f) :: r,k=>if k=t+1000000 then some f else zwm r k
def z1v(tbl:List (Nat×Nat)):V->V
 | .fn k [x] []=>match zwm tbl k with
  | some f=>.fn f [x] []
  | none=>.undef
 | _=>.undef
def A.ev(s:List V):A->V
 | .t n=>qah s n
 | .c v=>v
 | .m tbl n=>z1v tbl (qah s n)
def q3x(s:List V)(d:Option Nat)(v:V):List V :=
 match d with
 | some d=>qet s d v
 | none=>s
mutual
def V.low(n:Nat):V->Bool
 | .bptr i _=>decide (i<n)
 | .ptr i _ _ _=>decide (i<n)
 | .sl i _ _ _ _=>decide (i<n)
 | .bsl i _ _ _=>decide (i<n)
 | .map i=>decide (i<n)
 | .sit i=>decide (i<n)
 | .yld i=>decide (i<n)
 | .view _ cs=>qeq n cs
 | .agg cs=>qeq n cs
 | .tup cs=>qeq n cs
 | .fn _ a b=>qeq n a&&qeq n b
 | _=>true
def qeq(n:Nat):List V->Bool
 | []=>true
 | v :: vs=>v.low n&&qeq n vs
end
abbrev V.pure(v:V):Bool:=v.low 0
abbrev zjx(l:List V):Bool:=qeq 0 l
def V.pcell:V->Bool
 | .bool _ | .int _ _ | .str _ | .imm _ | .iptr _ | .nilfn | .nilp=>true
 | .fn _ a b=>qeq 0 a&&qeq 0 b
 | _=>false
def V.low1(id:Nat):V->Bool
 | .agg cs=>cs.all fun c=>match c with | .sl i _ _ _ _=>i != id | _=>true
 | .sl i _ _ _ _=>i != id
 | _=>true
def V.cell1:V->Bool
 | .agg _ | .tup _ | .undef | .view _ _=>false
 | _=>true
def qce(l:List (List V)):Bool:=l.all fun r=>r.all V.pcell
def V.scal1:V->Bool
 | .bool _ | .int _ _ | .str _ | .undef | .nils=>true
 | _=>false
def V.safe1:V->Bool
 | .bool _ | .int _ _ | .str _ | .undef | .nils | .sl _ _ _ _ _=>true
 | _=>false
def V.safe:V->Bool
 | .agg cs=>cs.all V.safe1
 | .tup vs=>vs.all fun v=>match v with | .agg cs=>cs.all V.safe1 | v=>v.safe1
 | v=>v.safe1
def qhh(h:H)(id gen:Nat):Option (List (List V)) :=
 match h[id]? with
 | some ⟨g,.arr _ els⟩=>if g=gen then some els else none
 | some ⟨g,.frz _ els⟩=>if g=gen then some els else none
 | _=>none
def qmc(els:List (List V))(off len:Nat):Option (List (List V)) :=
 if off=0/\len=els.length then some els
 else if off+len<=els.length then some ((els.drop off).take len)else none
def qan(h:H):V->V
 | .nils=>.imm []
 | .nilx=>.imm []
 | .immc els=>.imm els
 | .sl id gen _ off len =>
  match qhh h id gen with
  | some els=>match qmc els off len with
   | some l=>.imm l
   | none=>.undef
  | none=>.undef
 | v=>v
def qfq(h:H):V->V
 | .agg cs=>.agg (cs.map (qan h))
 | .tup _=>.undef
 | v=>qan h v
def qfy(h:H)(id:Nat):H :=
 match h[id]? with
 | some ⟨g,.arr n els⟩=>h.set id ⟨g,.frz n els⟩
 | _=>h
def zda(h:H):V->H
 | .sl id _ _ _ _=>qfy h id
 | _=>h
def q7y(h:H):List V->H
 | []=>h
 | v :: vs=>q7y (zda h v) vs
def V.cells:V->List V
 | .agg cs=>cs
 | v=>[v]
def V.known:V->Bool
 | .undef=>false
 | _=>true
def zyg(h:H)(v:V):H:=q7y h v.cells
def qyy(h:H):List V->H
 | []=>h
 | v :: vs=>qyy (zyg h v) vs
def qcb(h:H):List V->List V×H
 | []=>([],h)
 | .nils :: vs =>
  let r:=qcb (h++[⟨0,.arr 0 []⟩]) vs
  (.sl h.length 0 0 0 0 :: r.1,r.2)
 | v :: vs =>
  let r:=qcb h vs
  (v :: r.1,r.2)
def qir(h:H)(cells:List V):V×H :=
 let r:=qcb h cells
 (.bptr r.2.length 0,r.2++[⟨0,.box r.1⟩])
def q7i(h:H)(id gen el:Nat):Option (List V) :=
 match h[id]? with
 | some ⟨g,.arr _ els⟩=>if g=gen then els[el]? else none
 | some ⟨g,.frz _ els⟩=>if g=gen then els[el]? else none
 | _=>none
def q1p(h:H)(id:Nat):Option (List V) :=
 match h[id]? with
 | some ⟨_,.box cells⟩=>some cells
 | _=>none
def qrn(agg:Bool)(n:Nat)(l:List V):Option V :=
 if agg then(if n<=l.length then some (.agg (l.take n))else none)else l.head?
def qhc(h:H)(agg:Bool)(n:Nat):V->Option V
 | .iptr cells=>qrn agg n cells
 | .view true cells=>qrn agg n cells
 | .ptr id gen el off=>match q7i h id gen el with
  | some r=>qrn agg n (r.drop off)
  | none=>none
 | .bptr id off=>match q1p h id with
  | some r=>qrn agg n (r.drop off)
  | none=>none
 | _=>none
def qsj(l:List V)(off:Nat)(vs:List V):List V :=
 match off,l,vs with
 | _,l,[]=>l
 | _,[],_=>[]
 | 0,_ :: xs,v :: vs=>v :: qsj xs 0 vs
 | n+1,x :: xs,vs=>x :: qsj xs n vs
def zbw(h:H)(n:Nat)(p v:V):Option H :=
 if v.cells.length=n/\v.known=true/\v.cells.all V.cell1=true then
  match p with
  | .bptr id off =>
   match h[id]? with
   | some ⟨g,.box cells⟩ =>
    if off+n<=cells.length then
     let r:=qcb h v.cells
     some (r.2.set id ⟨g,.box (qsj cells off r.1)⟩)
    else none
   | _=>none
  | .ptr id gen el off =>
   match h[id]? with
   | some ⟨g,.arr m els⟩ =>
    match els[el]? with
    | some row =>
     let cs:=v.cells.map (qan h)
     if g=gen/\off+n<=row.length/\cs.all V.pcell=true/\v.cells.all V.pcell=true then
      some (h.set id ⟨g,.arr m (els.set el (qsj row off cs))⟩)
     else if g=gen/\off+n<=row.length/\cs.all V.pcell=true/\v.low1 id=true then
      some ((zyg h v).set id ⟨g,.arr m (els.set el (qsj row off cs))⟩)
     else none
    | none=>none
   | _=>none
  | _=>none
 else none
def eqS:V->V->Option Bool
 | .bool a,.bool b=>some (a==b)
 | .int k a,.int k' b=>if k=k' then some (a==b)else none
 | .str a,.str b=>some (a==b)
 | _,_=>none
def qpy(k:Nat):V->Bool
 | .bool _=>k==0
 | .int _ _=>k==1
 | .str _=>k==2
 | _=>false
def eqL:List Nat->List V->List V->Option Bool
 | [],[],[]=>some true
 | k :: ks,a :: as,b :: bs=>if qpy k a then(match eqS a b with
  | some true=>eqL ks as bs
  | some false=>some false
  | none=>none)else none
 | _,_,_=>none
def zxo(op:BinOp)(k:IntKind)(a b:Int):Int :=
 match op with
 | .and=>k.wrap (BitVec.ofInt k.bits a &&& BitVec.ofInt k.bits b).toNat
 | .or=>k.wrap (BitVec.ofInt k.bits a ||| BitVec.ofInt k.bits b).toNat
 | .xor=>k.wrap (BitVec.ofInt k.bits a ^^^ BitVec.ofInt k.bits b).toNat
 | _=>k.wrap (BitVec.ofInt k.bits a &&& ~~~BitVec.ofInt k.bits b).toNat
def z2u(op:BinOp)(k:IntKind)(a b:Int):Option V :=
 match op with
 | .add=>some (.int k (k.wrap (a+b)))
 | .sub=>some (.int k (k.wrap (a-b)))
 | .mul=>some (.int k (k.wrap (a*b)))
 | .quo=>if b=0 then none else some (.int k (k.wrap (a.tdiv b)))
 | .rem=>if b=0 then none else some (.int k (a.tmod b))
 | .eql=>some (.bool (a==b))
 | .neq=>some (.bool (a != b))
 | .lss=>some (.bool (decide (a<b)))
 | .leq=>some (.bool (decide (a<=b)))
 | .gtr=>some (.bool (decide (a>b)))
 | .geq=>some (.bool (decide (a≥b)))
 | .and=>some (.int k (zxo .and k a b))
 | .or=>some (.int k (zxo .or k a b))
 | .xor=>some (.int k (zxo .xor k a b))
 | .andNot=>some (.int k (zxo .andNot k a b))
 | _=>none
def z2v(op:BinOp)(a b:List UInt8):Option V :=
 match op with
 | .add=>if a.length+b.length<=2 ^ 47 then some (.str (a++b))else none
 | .eql=>some (.bool (a==b))
 | .neq=>some (.bool (!(a==b)))
 | _=>none
def z1l(isb:Bool)(op:BinOp):V->V->Option V
 | .int k a,.int k' b=>match op with
  | .shl=>if b<0 then none else some (.int k (k.wrap (a*2 ^ (min b.toNat k.bits))))
  | .shr=>if b<0 then none else some (.int k (a.fdiv (2 ^ (min b.toNat k.bits))))
  | op=>if k=k' then z2u op k a b else none
 | .str a,.str b=>z2v op a b
 | .bool a,.bool b=>if isb then(match op with
  | .eql=>some (.bool (a==b))
  | .neq=>some (.bool (!(a==b)))
  | _=>none)else none
 | _,_=>none
def unV(op:UnOp):V->Option V
 | .bool b=>match op with | .not=>some (.bool !b) | _=>none
 | .int k n=>match op with | .neg=>some (.int k (k.wrap (0-n))) | _=>none
 | _=>none
def q7o:Cv->V->Option V
 | .int k,.int _ n=>some (.int k (k.wrap n))
 | .i2s,.int _ n=>some (.str (Utf8.encode n).data.toList)
 | .same,.str s=>some (.str s)
 | _,_=>none
def qqn(v:V):Option Nat :=
 match v with
 | .int _ n=>if 0<=n then some n.toNat else none
 | _=>none
def qcq(s:List V)(a:Option A)(d:Nat):Option Nat :=
 match a with
 | some a=>qqn (a.ev s)
 | none=>some d
def zyr(isStr:Bool):V->Option Nat
 | .str s=>if isStr then some s.length else none
 | .imm els=>if isStr then none else some els.length
 | .nils=>if isStr then none else some 0
 | .sl _ _ _ _ len=>if isStr then none else some len
 | .bsl _ _ _ len=>if isStr then none else some len
 | .view false cs=>if isStr then none else some cs.length
 | _=>none
def qpm(h:H)(v:V):Option (List (List V)) :=
 match qan h v with
 | .imm els=>some els
 | _=>none
def qhu(n:Nat)(h:H):V->Option (List (List V))
 | .view false cs=>if n=1 then some (cs.map fun c=>[c])else none
 | v=>qpm h v
def qns(n:Nat)(els:List (List V)):Bool:=els.all fun r=>r.length==n
def qpv(es:List (V×V))(k:V):Option (Option V) :=
 match es with
 | []=>some none
 | (a,b) :: r=>match eqS k a with
  | some true=>some (some b)
  | some false=>qpv r k
  | none=>none
def q3z(es:List (V×V))(k v:V):Option (List (V×V)) :=
 match es with
 | []=>some [(k,v)]
 | (a,b) :: r=>match eqS k a with
  | some true=>some ((k,v) :: r)
  | some false=>(q3z r k v).map ((a,b) :: ·)
  | none=>none
def qqy(cells:List V):List (Nat×Nat×V)->Option (List V)
 | []=>some cells
 | (off,n,v) :: r=>if v.cells.length=n/\v.known=true/\off+n<=cells.length then qqy (qsj cells off v.cells) r else none
def qsu(n:Nat)(els:List (List V)):List (Nat×V)->Option (List (List V))
 | []=>some els
 | (i,v) :: r=>if v.cells.length=n/\v.known=true/\v.cells.all V.pcell=true/\i<els.length then qsu n (els.set i v.cells) r else none
def qdd(els:List (List V))(p:Nat)(ys:List (List V)):List (List V):=els.take p++(ys++els.drop (p+ys.length))
def zet(h:H)(n bytes:Nat)(x:V)(ys:List (List V)):Option (V×H) :=
 if qns n ys=true/\qce ys=true then
  match x with
  | .nils=>if ys.length*bytes<=2 ^ 47 then some (.sl h.length 0 n 0 ys.length,h++[⟨0,.arr n ys⟩])else none
  | .nilx=>if ys.length*bytes<=2 ^ 47 then some (.sl h.length 0 n 0 ys.length,h++[⟨0,.arr n ys⟩])else none
  | .immc els=>if ys=[]then some (.imm els,h)else if qns n els=true/\(els.length+ys.length)*bytes<=2 ^ 47 then some (.sl h.length 0 n 0 (els.length+ys.length),h++[⟨0,.arr n (els++ys)⟩])else none
  | .sl id gen _ off len =>
   match h[id]? with
   | some ⟨g,.arr m els⟩ =>
    if g=gen/\off=0/\len<=els.length/\(m=n\/m=0)/\(len+ys.length)*bytes<=2 ^ 47 then
     let els':=if len=els.length then els++ys else qdd els len ys
     some (.sl id (g+1) n 0 (len+ys.length),h.set id ⟨g+1,.arr n els'⟩)
    else if g=gen/\off+len=els.length/\m=n/\ys≠[]/\(len+ys.length)*bytes<=2 ^ 47 then
     some (.sl id (g+1) n 0 (len+ys.length),h.set id ⟨g+1,.arr n (els.drop off++ys)⟩)
    else none
   | _=>none
  | _=>none
 else none
def zar(h:H)(id gen b:Nat):Bool :=
 match qhh h id gen with
 | some els=>decide (b<=els.length)
 | none=>false
def zun(b len:Nat)(v:V):Bool :=
 match qqn v with
 | some c=>decide (b<=c/\c<=len)
 | none=>false
def exO(o:O)(s:List V)(h:H):Option (V×H) :=
 match o with
 | .mv x=>some (x.ev s,h)
 | .pick c a b=>match c.ev s with
  | .bool t=>some (if t then a.ev s else b.ev s,h)
  | _=>none
 | .alloc zero=>some (qir h zero)
 | .box x=>if(x.ev s).known then some (qir h (x.ev s).cells)else none
 | .build zero parts=>match qqy zero (parts.map fun p=>(p.1,p.2.1,p.2.2.ev s))with
  | some cs=>some (.agg cs,h)
  | none=>none
 | .bslice fz n zero len parts =>
  if len=0 then(if parts.isEmpty then some (.nils,h)else none)
  else if fz then
   match qsu n (List.replicate len zero) (parts.map fun p=>(p.1,qfq h (p.2.ev s)))with
   | some els=>if qce els then some (.imm els,qyy h (parts.map fun p=>p.2.ev s))else none
   | none=>none
  else
   match qsu n (List.replicate len zero) (parts.map fun p=>(p.1,p.2.ev s))with
   | some els=>if qce els then some (.imm els,h)else none
   | none=>if n=1 then(match qqy (List.replicate len zero).flatten (parts.map fun p=>(p.1*n,n,p.2.ev s))with
    | some cs=>some (.view false cs,h)
    | none=>none)else none
 | .lit n zero len parts=>match qsu n (List.replicate len zero) (parts.map fun p=>(p.1,p.2.ev s))with
  | some els=>if qce els then some (.immc els,h)else none
  | none=>none
 | .own n zero len parts=>match qsu n (List.replicate len zero) (parts.map fun p=>(p.1,qfq h (p.2.ev s)))with
  | some els=>if len≠0/\qce els=true then some (.sl (qyy h (parts.map fun p=>p.2.ev s)).length 0 n 0 len,qyy h (parts.map fun p=>p.2.ev s)++[⟨0,.arr n els⟩])else none
  | none=>none
 | .load agg n x=>match qhc h agg n (x.ev s)with
  | some v=>some (v,h)
  | none=>none
 | .store n x v=>match zbw h n (x.ev s) (v.ev s)with
  | some h'=>some (.undef,h')
  | none=>none
 | .nilck x=>match x.ev s with
  | .iptr c=>some (.iptr c,h)
  | .ptr i g e o=>some (.ptr i g e o,h)
  | .bptr i o=>some (.bptr i o,h)
  | .fn f a b=>some (.fn f a b,h)
  | _=>none
 | .isnil neg x=>match x.ev s with
  | .imm els=>some (if els.isEmpty then .ub else .bool neg,h)
  | .nils=>some (.ub,h)
  | .sl _ _ _ _ len=>some (if len=0 then .ub else .bool neg,h)
  | .nilx=>some (.bool (!neg),h)
  | _=>none
 | .isnilP neg x=>match x.ev s with
  | .nilp=>some (.bool (!neg),h)
  | .bptr _ _=>some (.bool neg,h)
  | .ptr _ _ _ _=>some (.bool neg,h)
  | .iptr _=>some (.bool neg,h)
  | _=>none
 | .bin b op x y=>match z1l b op (x.ev s) (y.ev s)with
  | some v=>some (v,h)
  | none=>none
 | .eqa neg ks x y=>match x.ev s,y.ev s with
  | .agg a,.agg b=>match eqL ks a b with
   | some t=>some (.bool (if neg then !t else t),h)
   | none=>none
  | _,_=>none
 | .un op x=>match unV op (x.ev s)with
  | some v=>some (v,h)
  | none=>none
 | .conv c x=>match q7o c (x.ev s)with
  | some v=>some (v,h)
  | none=>none
 | .mkfn f first caps=>some (.fn f (first.map (A.ev s)) (caps.map (A.ev s)),h)
 | .mkmap=>some (.map h.length,h++[⟨0,.map []⟩])
 | .mkslice n bytes zero len cap=>match qqn (len.ev s),qqn (cap.ev s)with
  | some l,some c=>if l<=c/\c*bytes<=2 ^ 47/\zero.all V.pcell=true/\c<=2 ^ 62 then some (.sl h.length 1 n 0 l,h++[⟨1,.arr n (List.replicate l zero)⟩])else none
  | _,_=>none
 | .slcS x lo hi=>match x.ev s with
  | .str l=>match qcq s lo 0,qcq s hi l.length with
   | some a,some b=>if a<=b/\b<=l.length then some (.str ((l.drop a).take (b-a)),h)else none
   | _,_=>none
  | _=>none
 | .slcL n x lo hi mx =>
  match x.ev s with
  | .imm els=>match qcq s lo 0,qcq s hi els.length,mx with
   | some a,some b,none=>if a<=b/\b<=els.length/\qns n els=true then some (.imm ((els.drop a).take (b-a)),h)else none
   | some a,some b,some m=>if a=0/\b=0/\qqn (m.ev s)=some 0 then some (.nils,h)else none
   | _,_,_=>none
  | .nils=>match qcq s lo 0,qcq s hi 0,mx with
   | some a,some b,none=>if a=0/\b=0 then some (.nils,h)else none
   | some a,some b,some m=>if a=0/\b=0/\qqn (m.ev s)=some 0 then some (.nils,h)else none
   | _,_,_=>none
  | .sl id gen m off len=>match qcq s lo 0,qcq s hi len,mx with
   | some a,some b,none =>
    if a<=b/\b<=len/\(m=n\/len=0)then some (.sl id gen m (off+a) (b-a),h)
    else if(lo.isSome&&hi.isSome)=true/\a<=b/\off=0/\m=n/\zar h id gen b=true then some (.sl id gen m a (b-a),h)
    else none
   | some a,some b,some c=>if a=0/\b=0/\qqn (c.ev s)=some 0 then some (.nils,h)
    else if a<=b/\zun b len (c.ev s)=true then some (.undef,h)else none
   | _,_,_=>none
  | _=>none
 | .slcA len n x lo hi=>match x.ev s with
  | .bptr id o=>match qcq s lo 0,qcq s hi len with
   | some a,some b=>if a<=b/\b<=len then some (.bsl id (o+a*n) n (b-a),h)else none
   | _,_=>none
  | _=>none
 | .faddr off x=>match x.ev s with
  | .iptr c=>if off<c.length then some (.iptr (c.drop off),h)else none
  | .ptr i g e o=>some (.ptr i g e (o+off),h)
  | .bptr i o=>some (.bptr i (o+off),h)
  | _=>none
 | .fld agg off n x=>match x.ev s with
  | .agg cs=>match qrn agg n (cs.drop off)with
   | some v=>some (v,h)
   | none=>none
  | _=>none
 | .iaddrA len n x i=>match x.ev s,qqn (i.ev s)with
  | .iptr c,some k=>if k<len/\k*n<c.length then some (.iptr (c.drop (k*n)),h)else none
  | .ptr id g e o,some k=>if k<len then some (.ptr id g e (o+k*n),h)else none
  | .bptr id o,some k=>if k<len then some (.bptr id (o+k*n),h)else none
  | _,_=>none
 | .iaddrL n x i=>match x.ev s,qqn (i.ev s)with
  | .imm els,some k=>match els[k]? with
   | some r=>if r.length=n then some (.iptr r,h)else none
   | none=>none
  | .sl id g m off len,some k=>if k<len/\m=n then some (.ptr id g (off+k) 0,h)else none
  | .bsl id off m len,some k=>if k<len/\m=n then some (.bptr id (off+k*n),h)else none
  | .view false cs,some k=>if k<cs.length/\n=1 then some (.view true (cs.drop k),h)else none
  | _,_=>none
 | .idxA agg len n x i=>match x.ev s,qqn (i.ev s)with
  | .agg cs,some k=>if k<len then(match qrn agg n (cs.drop (k*n))with
   | some v=>some (v,h)
   | none=>none)else none
  | _,_=>none
 | .idxS x i=>match x.ev s,qqn (i.ev s)with
  | .str l,some k=>match l[k]? with
   | some b=>some (.int .u8 b.toNat,h)
   | none=>none
  | _,_=>none
 | .look kk zero ok x k=>if qpy kk (k.ev s)=true then match x.ev s with
  | .map id=>match h[id]? with
   | some ⟨_,.map es⟩=>match qpv es (k.ev s)with
    | some r =>
     let v:=r.getD zero
     some (if ok then .tup [v,.bool r.isSome]else v,h)
    | none=>none
   | _=>none
  | _=>none else none
 | .upd kk m k v=>if qpy kk (k.ev s)=true/\(v.ev s).scal1=true then match m.ev s with
  | .map id=>match h[id]? with
   | some ⟨g,.map es⟩=>match q3z es (k.ev s) (v.ev s)with
    | some es'=>some (.undef,h.set id ⟨g,.map es'⟩)
    | none=>none
   | _=>none
  | _=>none else none
 | .rng x=>match x.ev s with
  | .str l=>some (.sit h.length,h++[⟨0,.sit l 0⟩])
  | _=>none
 | .nxt x=>match x.ev s with
  | .sit id=>match h[id]? with
   | some ⟨g,.sit l pos⟩ =>
    if pos<l.length then
     let d:=Utf8.decode ⟨l.toArray⟩ pos
     some (.tup [.bool true,.int .i64 pos,.int .i32 d.1],h.set id ⟨g,.sit l (pos+d.2)⟩)
    else some (.tup [.bool false],h)
   | _=>none
  | _=>none
 | .ext i x=>match x.ev s with
  | .tup vs=>match vs[i]? with
   | some v=>some (v,h)
   | none=>none
  | _=>none
 | .len b x=>match zyr b (x.ev s)with
  | some n=>some (.int .i64 n,h)
  | none=>none
 | .lenm x=>match x.ev s with
  | .map id=>match h[id]? with
   | some ⟨_,.map es⟩=>some (.int .i64 es.length,h)
   | _=>none
  | _=>none
 | .cap x=>match x.ev s with
  | .nils=>some (.int .i64 0,h)
  | _=>none
 | .app n bytes x y=>match qhu n h (y.ev s)with
  | some ys=>zet h n bytes (x.ev s) ys
  | none=>none
 | .appF n bytes x y=>match y.ev s with
  | .view false cs=>if n=1 then zet (q7y h cs) n bytes (x.ev s) (cs.map fun c=>[qan h c])else none
  | v=>match qpm h v with
   | some ys=>zet h n bytes (x.ev s) ys
   | none=>none
 | .appz n bytes zero x y=>match qqn (y.ev s)with
  | some m=>zet h n bytes (x.ev s) (List.replicate m zero)
  | none=>none
 | .clr n zero x=>match x.ev s with
  | .nils=>some (.undef,h)
  | .sl id gen _ off len =>
   if len=0 then some (.undef,h)else
   match h[id]? with
   | some ⟨g,.arr m els⟩ =>
    if g=gen/\m=n/\off+len<=els.length/\zero.all V.pcell=true then
     some (.undef,h.set id ⟨g,.arr m (qdd els off (List.replicate len zero))⟩)
    else none
   | _=>none
  | _=>none
 | .mx mn x y=>match x.ev s,y.ev s with
  | .int k a,.int k' b=>if k=k' then some (.int k (if mn then(if b<a then b else a)else(if b>a then b else a)),h)else none
  | _,_=>none
 | .call ..=>none
 | .stuck=>none
inductive RV where
 | t (n:Nat)
 | cell (a:Nat) (agg:Bool) (n:Nat)
 | bad
 deriving Inhabited
structure Fun where
 ntmps:Nat
 results:List RV
 body:C
 fresh:Bool:=false
 raw:Bool:=false
 deriving Inhabited
abbrev Prg:=Nat->Option Fun
def rvV(st:St):RV->Option V
 | .t n=>some (qah st.s n)
 | .cell a agg n=>qhc st.h agg n (qah st.s a)
 | .bad=>none
def rvs(st:St):List RV->Option (List V)
 | []=>some []
 | r :: rs=>match rvV st r,rvs st rs with
  | some v,some vs=>some (v :: vs)
  | _,_=>none
def qbf(n:Nat)(v:V):V:=if v.low n then v else .undef
def qbx(n:Nat)(o:Ob):Ob :=
 match o.k with
 | .box cells=>⟨o.gen,.box (cells.map (qbf n))⟩
 | .loop sl ps a b p=>⟨o.gen,.loop (sl.map (qbf n)) ps a b p⟩
 | _=>o
def qkd(n:Nat)(h:H):H:=(h.take n).map (qbx n)
def quy(n:Nat)(h:H):Bool:=(h.take n).all fun o=>match o.k with
 | .box cells=>qeq n cells
 | _=>true
def qde(n:Nat)(h:H):H:=if quy n h=true then qkd n h else h
def zic(n:Nat):V->Bool
 | .sl i _ _ _ _=>decide (n<=i)
 | _=>false
def qqz(n:Nat):Nat->H->Option (Nat×Nat×List V)
 | _,[]=>none
 | i,o :: h=>if n<=i then none else match o.k with
  | .box cells=>if cells.any (zic n)=true then some (i,o.gen,cells)else qqz n (i+1) h
  | _=>qqz n (i+1) h
def qsw(n:Nat)(h:H)(v:V):V:=if zic n v=true then qan h v else v
def qgk(n:Nat)(h:H):H :=
 if quy n h=true then qkd n h else match qqz n 0 h with
 | some (i,g,cells)=>qkd n ((q7y h (cells.filter (zic n))).set i ⟨g,.box (cells.map (qsw n h))⟩)
 | none=>qkd n h
def qdz(nx:Nat)(h:H)(acc:List (Nat×Ob)):V->V×List (Nat×Ob)
 | .sl id gen m off len =>
  if id<nx then(.sl id gen m off len,acc)else
  match h[id]? with
  | some ⟨g,.arr n els⟩ =>
   if g=gen/\m=n/\off=0/\len<=els.length/\acc.all (fun p=>p.1 != id)=true then
    (.sl (nx+acc.length) 0 n 0 len,acc++[(id,⟨0,.arr n (if len=els.length then els else els.take len)⟩)])
   else(.undef,acc)
  | some ⟨_,.frz _ _⟩=>(qan h (.sl id gen m off len),acc)
  | _=>(.undef,acc)
 | v=>(qbf nx v,acc)
def qmj(nx:Nat)(h:H):List (Nat×Ob)->List V->List V×List (Nat×Ob)
 | acc,[]=>([],acc)
 | acc,v :: vs =>
  let r:=qdz nx h acc v;let q:=qmj nx h r.2 vs
  (r.1 :: q.1,q.2)
def qel(nx:Nat)(h:H)(acc:List (Nat×Ob)):V->V×List (Nat×Ob)
 | .agg cs=>let r:=qmj nx h acc cs;(.agg r.1,r.2)
 | v=>qdz nx h acc v
def qch(nx:Nat)(h:H):List (Nat×Ob)->List V->List V×List (Nat×Ob)
 | acc,[]=>([],acc)
 | acc,v :: vs =>
  let r:=qel nx h acc v;let q:=qch nx h r.2 vs
  (r.1 :: q.1,q.2)
def zev:List V->V
 | [v]=>v
 | vs=>.tup vs
def qme(f:Fun)(nx:Nat)(st:St):Option (V×H) :=
 match rvs st f.results with
 | none=>none
 | some vs =>
  if f.fresh then
   let r:=qch nx st.h [] vs
   some (zev r.1,qkd nx st.h++r.2.map (·.2))
  else
   let vs':=vs.map (qfq st.h)
   if zjx vs' then some (zev vs',qde nx (qyy st.h vs))else some (zev vs',qyy st.h vs)
mutual
def qcs(n:Nat):V->V
 | .bptr i o=>.bptr (n+i) o
 | .ptr i g e o=>.ptr (n+i) g e o
 | .sl i g m o l=>.sl (n+i) g m o l
 | .bsl i o m l=>.bsl (n+i) o m l
 | .map i=>.map (n+i)
 | .sit i=>.sit (n+i)
 | .yld i=>.yld (n+i)
 | .view p cs=>.view p (qdf n cs)
 | .agg cs=>.agg (qdf n cs)
 | .tup cs=>.tup (qdf n cs)
 | .fn f a b=>.fn f (qdf n a) (qdf n b)
 | v=>v
def qdf(n:Nat):List V->List V
 | []=>[]
 | v :: vs=>qcs n v :: qdf n vs
end
def K.safe:K->Bool
 | .arr _ els=>els.all fun r=>r.all V.scal1
 | _=>false
def K.isArr:K->Bool
 | .arr _ _=>true
 | _=>false
inductive Q where
 | code (c:C) (st:St)
 | call (f:V) (args:List V) (h:H)
structure R where
 x:X:=.normal
 v:V:=.undef
 st:St
def q3w(n:Nat)(vs:List V):List V:=vs++List.replicate (n-vs.length) .undef
def zzp(P:Prg):V->Bool
 | .fn f _ _=>match P f with
  | some g=>g.raw
  | none=>false
 | _=>false
def qmh(P:Prg)(self:Q->Option R)(f:V)(args:List V)(h:H):Option (V×H) :=
 if zzp P f then
  match self (.call f args h)with
  | some r=>some (r.v,r.st.h)
  | none=>none
 else
  let as:=args.map (qfq h)
  if f.pure&&zjx as then
   match self (.call f as [])with
   | some r =>
    let h':=if r.v.safe&&r.st.h.all fun o=>o.k.safe then h else qyy h args
    if r.st.h.all fun o=>o.k.isArr then some (qcs h'.length r.v,h'++r.st.h)else none
   | none=>none
  else
   match self (.call f as (qyy h args))with
   | some r=>some (r.v,r.st.h)
   | none=>none
def qcc(s:List V)(i:I):Option Bool :=
 match i.g with
 | none=>some true
 | some (j,b)=>match qah s j with
  | .bool t=>some (t==b)
  | .tup []=>some false
  | _=>none
def exI(P:Prg)(self:Q->Option R)(i:I)(st:St):Option St :=
 match qcc st.s i with
 | some true =>
  match (match i.o with
   | .call f args=>qmh P self (f.ev st.s) (args.map (A.ev st.s)) st.h
   | o=>exO o st.s st.h)with
  | some (v,h)=>some ⟨q3x st.s i.dst v,h⟩
  | none=>none
 | some false=>some ⟨q3x st.s i.dst (.tup []),st.h⟩
 | none=>none
def exL(P:Prg)(self:Q->Option R):List I->St->Option St
 | [],st=>some st
 | i :: is,st=>match exI P self i st with
  | some st'=>exL P self is st'
  | none=>none
mutual
def V.beq:V->V->Bool
 | .undef,.undef=>true
 | .ub,.ub=>true
 | .bool a,.bool b=>a==b
 | .int k a,.int l b=>k==l&&a==b
 | .str a,.str b=>a==b
 | .nils,.nils=>true
 | .nilx,.nilx=>true
 | .imm a,.imm b=>qyw a b
 | .immc a,.immc b=>qyw a b
 | .iptr a,.iptr b=>qzj a b
 | .bptr a b,.bptr a' b'=>a==a'&&b==b'
 | .ptr a b c d,.ptr a' b' c' d'=>a==a'&&b==b'&&c==c'&&d==d'
 | .bsl a b c d,.bsl a' b' c' d'=>a==a'&&b==b'&&c==c'&&d==d'
 | .sl a b c d e,.sl a' b' c' d' e'=>a==a'&&b==b'&&c==c'&&d==d'&&e==e'
 | .agg a,.agg b=>qzj a b
 | .tup a,.tup b=>qzj a b
 | .fn f a b,.fn f' a' b'=>f==f'&&qzj a a'&&qzj b b'
 | .nilfn,.nilfn=>true
 | .nilp,.nilp=>true
 | .map a,.map b=>a==b
 | .sit a,.sit b=>a==b
 | .yld a,.yld b=>a==b
 | .view p a,.view q b=>p==q&&qzj a b
 | _,_=>false
def qzj:List V->List V->Bool
 | [],[]=>true
 | a :: as,b :: bs=>a.beq b&&qzj as bs
 | _,_=>false
def qyw:List (List V)->List (List V)->Bool
 | [],[]=>true
 | a :: as,b :: bs=>qzj a b&&qyw as bs
 | _,_=>false
end
def exT(P:Prg)(self:Q->Option R):List I->St->Option (List St)
 | [],st=>some [st]
 | i :: is,st=>match exI P self i st with
  | some st'=>(exT P self is st').map (st :: ·)
  | none=>none
def qag(ops:List I)(tr:List St):List (Nat×Nat)->Bool
 | []=>true
 | (l,e) :: r =>
  (match ops[l]?,tr[l]?,tr[e]?,tr[e+1]? with
  | some i,some st,some a,some b =>
   match qcc st.s i with
   | some true =>
    match i.o with
    | .load agg n x=>match qhc st.h agg n (x.ev st.s),qhc a.h agg n (x.ev st.s),qhc b.h agg n (x.ev st.s)with
     | some u,some v,some w=>u.beq v&&u.beq w
     | _,_,_=>false
    | _=>false
   | some false=>true
   | none=>false
  | _,_,_,_=>false)&&qag ops tr r
def qhn:H->List V->List V×H
 | h,[]=>([],h)
 | h,.nils :: vs=>let r:=qhn (h++[⟨0,.arr 0 []⟩]) vs;(.sl h.length 0 0 0 0 :: r.1,r.2)
 | h,v :: vs=>let r:=qhn h vs;(v :: r.1,r.2)
def qdh(st:St):St:=let r:=qhn st.h st.s;⟨r.1,r.2⟩
def qvg(n:Nat)(st:St):St:=⟨st.s.map (qbf n),qgk n st.h⟩
def zps(n k:Nat)(st:St):St :=
 match qah st.s k with
 | .bptr id 0=>if n<=id then match st.h[id]? with
  | some ⟨g,.box cells⟩=>if qeq n cells=true then⟨qet (st.s.map (qbf n)) k (.bptr n 0),qkd n st.h++[⟨g,.box cells⟩]⟩else qvg n st
  | _=>qvg n st
  else qvg n st
 | _=>qvg n st
def zsp(n:Nat)(h:H)(s0:List V):List Nat->List V->List V
 | [],s=>s
 | k :: ks,s=>zsp n h s0 ks (if(qah s0 k).low n=true then s else qet s k (qfq h (qah s0 k)))
def qjh(n:Nat)(ks:List Nat)(st:St):St :=
 qvg n ⟨zsp n st.h st.s ks st.s,qyy st.h ((ks.map (qah st.s)).filter fun v=>!v.low n)⟩
def qfr:List V->List Nat->List V->List V
 | s,p :: ps,v :: vs=>qfr (qet s p v) ps vs
 | s,_,_=>s
def qsm:C->St->Option (C×C)
 | .cond c x y,st=>match c.ev st.s with
  | .ub=>some (x,y)
  | _=>none
 | _,_=>none
def q3y(self:Q->Option R)(a b:C)(st:St):Option R :=
 match self (.code a st)with
 | some r=>match r.x with
  | .normal=>self (.code b r.st)
  | _=>some r
 | none=>none
def qjd:C->Option (C×C)
 | .seq p (.cond c x y)=>some (p,.cond c x y)
 | _=>none
def qfc:List V->List V->H->List V×H
 | .nils :: s,.sl i g n o l :: t,h =>
  if g=0/\o=0/\l=0/\i=h.length then(.sl h.length 0 n 0 0 :: s,h++[⟨0,.arr n []⟩])
  else(.nils :: (qfc s t h).1,(qfc s t h).2)
 | a :: s,_ :: t,h=>(a :: (qfc s t h).1,(qfc s t h).2)
 | s,_,h=>(s,h)
def zdl:List V->List V->List V
 | a :: s,b :: t=>(if a.beq b=true then a else .undef) :: zdl s t
 | _,_=>[]
def kEq:K->K->Bool
 | .box a,.box b=>qzj a b
 | .arr n a,.arr m b=>n==m&&qyw a b
 | .frz n a,.frz m b=>n==m&&qyw a b
 | _,_=>false
def qwx:H->H->Bool
 | [],[]=>true
 | a :: h,b :: k=>a.gen==b.gen&&kEq a.k b.k&&qwx h k
 | _,_=>false
def zdm(r q:R):Option R :=
 if r.x=q.x/\(qfc r.st.s q.st.s r.st.h).1.length=q.st.s.length/\qwx (qfc r.st.s q.st.s r.st.h).2 q.st.h=true then
  some { x:=r.x,st:=⟨zdl (qfc r.st.s q.st.s r.st.h).1 q.st.s,q.st.h⟩ }
 else none
def zbq(self:Q->Option R)(a b:C)(st:St):Option R :=
 match qsm a st with
 | some (x,y)=>match q3y self x b st,q3y self y b st with
  | some r,some q=>zdm r q
  | _,_=>none
 | none=>q3y self a b st
def qug:List (List V)->Option (List Int)
 | []=>some []
 | [.int .i64 n] :: r=>match qug r with
  | some l=>some (n :: l)
  | none=>none
 | _=>none
def qto(l:List Int):List (List V):=l.map fun n=>[.int .i64 n]
def zuu(n:Int):List Int->List Int
 | []=>[n]
 | m :: r=>if n<=m then n :: m :: r else m :: zuu n r
def qlc:List Int->List Int
 | []=>[]
 | n :: r=>zuu n (qlc r)
def qyz(n:Nat):List UInt8:=if n<10 then [(48+n).toUInt8]else [(48+n / 10).toUInt8,(48+n % 10).toUInt8]
def qzh:List (List V)->Option (List (Nat×Bool))
 | []=>some []
 | [.int .i64 a,.bool b] :: r=>if 0<=a/\a<100 then match qzh r with
  | some l=>some ((a.toNat,b) :: l)
  | none=>none
  else none
 | _=>none
def zpb:V->Option (List (List V))
 | .imm els=>some els
 | .immc els=>some els
 | .nils=>some []
 | .nilx=>some []
 | _=>none
def q3r:List (List V)->Option (List (List (Nat×Bool)))
 | []=>some []
 | [v] :: r=>match zpb v with
  | some els=>match qzh els,q3r r with
   | some a,some l=>some (a :: l)
   | _,_=>none
  | none=>none
 | _=>none
def qea(w:List (Nat×Bool)):List UInt8:=(w.flatMap fun x=>qyz x.1++[if x.2 then 116 else 102])++[59]
def zrv(b:Bool):List UInt8:=if b then [116,114,117,101]else [102,97,108,115,101]
def q8h(l:List (List (Nat×Bool)))(b:Bool):List UInt8:=l.flatMap qea++zrv b
def z3c(st:St):Option R :=
 match st.s with
 | [.agg [x,.bool b]]=>match zpb x with
  | some els=>match q3r els with
   | some l=>if l.length<100/\l.all (fun w=>decide (w.length<1000))=true then some { st:=⟨[.str (q8h l b)],st.h⟩ }else none
   | none=>none
  | none=>none
 | _=>none
def zle:Fun:={ ntmps:=1,results:=[.t 0],body:=.giv 2 }
def zlc(k:Nat)(st:St):Option R :=
 if k=1 then match st.s with
  | [.sl i g m o n]=>match st.h[i]? with
   | some ⟨g',.arr w els⟩ =>
    if m=1/\o=0/\w=1/\g'=g/\els.length=n/\n<4611686018427387904 then
     match qug els with
     | some l=>some { st:=⟨st.s,st.h.set i ⟨g,.arr 1 (qto (qlc l))⟩⟩ }
     | none=>none
    else none
   | _=>none
  | _=>none
 else if k=2 then z3c st else none
def qzg:Fun:={ ntmps:=1,results:=[],body:=.giv 1,raw:=true }
def qci(P:Prg)(self:Q->Option R):Q->Option R
 | .code .skip st=>some { st }
 | .code (.reg ops) st=>match exL P self ops st with
  | some st'=>some { st:=st' }
  | none=>none
 | .code (.draw ops chk) st=>match chk with
  | []=>match exL P self ops st with
   | some st'=>some { st:=st' }
   | none=>none
  | chk=>match exT P self ops st with
   | some tr=>if qag ops tr chk then tr.getLast?.map fun st'=>{ st:=st' }else none
   | none=>none
 | .code (.seq a b) st=>match qjd a with
  | some (p,c)=>match self (.code p st)with
   | some r=>match r.x with
    | .normal=>zbq self c b r.st
    | _=>some r
   | none=>none
  | none=>zbq self a b st
 | .code (.cond c a b) st=>match c.ev st.s with
  | .bool t=>if t then self (.code a st)else self (.code b st)
  | _=>none
 | .code (.block id c) st=>match self (.code c st)with
  | some r=>if r.x=.exit id then some { r with x:=.normal }else some r
  | none=>none
 | .code (.loop c) st=>let st':=qdh st;self (.code (.going st'.h.length c) st')
 | .code (.going nx c) st=>match self (.code c st)with
  | some r=>match r.x with
   | .normal=>self (.code (.going nx c) (qvg nx r.st))
   | _=>some r
  | none=>none
 | .code (.loopK k c) st=>let st':=qdh st;self (.code (.goingK st'.h.length k c) st')
 | .code (.goingK nx k c) st=>match self (.code c st)with
  | some r=>match r.x with
   | .normal=>self (.code (.goingK nx k c) (zps nx k r.st))
   | _=>some r
  | none=>none
 | .code (.loopF ks c) st=>let st':=qdh st;self (.code (.goingF st'.h.length ks c) st')
 | .code (.goingF nx ks c) st=>match self (.code c st)with
  | some r=>match r.x with
   | .normal=>self (.code (.goingF nx ks c) (qjh nx ks r.st))
   | _=>some r
  | none=>none
 | .code (.range f params assign body) st =>
  let st':=qdh st;let l:=st'.h.length
  match f.ev st'.s with
  | .fn fid first caps =>
   match self (.call (.fn fid first caps) [.yld l] (st'.h++[⟨0,.loop st'.s params assign body none⟩]))with
   | some r=>match r.st.h[l]? with
    | some ⟨g,.loop sl2 ps2 as2 bd2 p⟩ =>
     let st'':St:=⟨st'.s,qde l (r.st.h.set l ⟨g,.loop sl2 ps2 as2 bd2 (some .normal)⟩)⟩
     match p with
     | none=>some { st:=st'' }
     | some .normal=>none
     | some x=>some { x:=x,st:=st'' }
    | _=>none
   | none=>none
  | _=>none
 | .code (.exit id) st=>some { x:=.exit id,st }
 | .code .ret st=>some { x:=.ret,st }
 | .code (.giv k) st=>zlc k st
 | .call (.fn f first caps) args h=>match P f with
  | some g=>match self (.code g.body ⟨q3w g.ntmps (first++args++caps),h⟩)with
   | some r=>match r.x with
    | .exit _=>none
    | _=>match qme g h.length r.st with
     | some (v,h')=>some { v:=v,st:=⟨[],h'⟩ }
     | none=>none
   | none=>none
  | none=>none
 | .call (.yld l) args h=>match h[l]? with
  | some ⟨_,.loop sl params assign body none⟩ =>
   if args.length=params.length then
    match self (.code assign ⟨qfr sl params args,h⟩)with
    | some r=>match r.x with
     | .normal=>match r.st.h[l]? with
      | some ⟨g,.loop sl' ps' as' bd' none⟩ =>
       match self (.code body ⟨r.st.s,r.st.h.set l ⟨g,.loop sl' ps' as' bd' (some .normal)⟩⟩)with
       | some r2=>match (qde h.length r2.st.h)[l]? with
        | some ⟨g2,.loop sl2 ps2 as2 bd2 _⟩=>match r2.x with
         | .normal=>some { v:=.bool true,st:=⟨[],(qde h.length r2.st.h).set l ⟨g2,.loop sl2 ps2 as2 bd2 none⟩⟩ }
         | x=>some { v:=.bool false,st:=⟨[],(qde h.length r2.st.h).set l ⟨g2,.loop sl2 ps2 as2 bd2 (some x)⟩⟩ }
        | _=>none
       | none=>none
      | _=>none
     | _=>none
    | none=>none
   else none
  | _=>none
 | .call _ _ _=>none
def evN(P:Prg):Nat->Q->Option R
 | 0,_=>none
 | n+1,q=>qci P (evN P n) q
theorem qxv(n:Int):∀l:List Int,(zuu n l).Perm (n :: l)
 | []=>.refl _
 | m :: r=>by
  unfold zuu;split
  .exact .refl _
  .exact((qxv n r).cons m).trans (.swap n m r)
theorem qpe:∀l:List Int,(qlc l).Perm l
 | []=>.refl _
 | n :: r=>(qxv n _).trans ((qpe r).cons n)
theorem zjy(n:Int):∀{l:List Int},l.Pairwise (·<=·)->(zuu n l).Pairwise (·<=·)
 | [],_=>by simp[zuu]
 | m :: r,h=>by
  obtain⟨h1,h2⟩:=List.pairwise_cons.1 h;unfold zuu;split
  .rename_i hnm;refine List.pairwise_cons.2 ⟨fun x hx=>?_,h⟩;rcases List.mem_cons.1 hx with rfl | hx
   .exact hnm
   .exact Int.le_trans hnm (h1 x hx)
  .rename_i hnm;refine List.pairwise_cons.2 ⟨fun x hx=>?_,zjy n h2⟩;rcases List.mem_cons.1 ((qxv n r).mem_iff.1 hx)with rfl | hx
   .omega
   .exact h1 x hx
theorem q3g:∀l:List Int,(qlc l).Pairwise (·<=·)
 | []=>.nil
 | n :: r=>zjy n (q3g r)
theorem qxa:∀l:List Int,qug (l.map fun n=>[.int .i64 n])=some l
 | []=>rfl
 | n :: l=>by simp[qug,qxa l]
open Go (Program Value Operand TypeDesc Oper Code Func TypeId)
def cV1:Value->Option V
 | .bool b=>some (.bool b)
 | .int k n=>some (.int k n)
 | .string s=>some (.str s.data.toList)
 | .slice none 0 0=>some .nils
 | .pointer none=>some .nilp
 | .nilFunc=>some .nilfn
 | .map none | .nilIface=>some .undef
 | .func (.func f) first caps=>if(first.size=0/\caps.size=0)/\f<500000 then some (.fn f [] [])else none
 | _=>none
def cV:Value->Option V
 | .agg cs=>(cs.toList.mapM cV1).map .agg
 | v=>cV1 v
def cA:Operand->Option A
 | .tmp t=>some (.t t)
 | .const v=>(cV v).map .c
 | .func f=>if f<500000 then some (.c (.fn f [] []))else none
 | .global _=>none
def qsi(P:Program)(t:TypeId):Option V:=((P.info? t).bind (·.zero)).bind cV
def zeroCells(P:Program)(t:TypeId):Option (List V):=(qsi P t).map V.cells
def qff(P:Program)(t:TypeId):Bool :=
 match P.underlying t with
 | some (.struct _) | some (.array _ _)=>true
 | _=>false
def zyd(P:Program)(t:TypeId):Bool :=
 match P.underlying t with
 | some .bool | some (.int _) | some .string=>true
 | _=>false
def zvp(P:Program)(t:TypeId):Bool :=
 match (P.info? t).bind (·.zero)with
 | some (.map none) | some .nilIface=>true
 | _=>false
def szT(P:Program)(t:TypeId):Option (Bool×Nat) :=
 match P.underlying t with
 | none=>none
 | some _=>if qff P t then some (true,P.cellsOf t)else some (false,1)
def qjj(P:Program)(t:TypeId):Option Nat :=
 match P.underlying t with
 | some .bool=>some 0
 | some (.int _)=>some 1
 | some .string=>some 2
 | _=>none
def qfl(P:Program)(t:TypeId):Option TypeId :=
 match P.underlying t with
 | some (.slice e)=>some e
 | _=>none
def q1u(x:Option Operand):Option (Option A) :=
 match x with
 | none=>some none
 | some x=>(cA x).map some
def zjr(P:Program)(fs:Array Go.Field)(p:Nat×Operand):Option (Nat×Nat×A) :=
 match fs[p.1]? with
 | some f=>(cA p.2).map fun x=>(f.offset,P.cellsOf f.type,x)
 | none=>none
def zjq(P:Program)(e:TypeId)(p:Nat×Operand):Option (Nat×Nat×A):=(cA p.2).map fun x=>(p.1*P.cellsOf e,P.cellsOf e,x)
def qzc(p:Nat×Operand):Option (Nat×A):=(cA p.2).map fun x=>(p.1,x)
def q0j:Nat->List Go.Field->List (List Nat)->Bool
 | p, f :: fs, ks :: kss => f.offset == p && f.name != "_" && q0j (p + ks.length) fs kss
 | _,[],[]=>true
 | _,_,_=>false
def qri(P:Program):Nat->TypeId->Option (List Nat)
 | 0,t=>(qjj P t).map fun k=>[k]
 | n+1,t =>
  match qjj P t with
  | some k=>some [k]
  | none =>
   match P.underlying t with
   | some (.struct fs)=>do
    let kss <-fs.toList.mapM fun f=>qri P n f.type
    if !P.stoodInHeld t&&q0j 0 fs.toList kss&&P.cellsOf t==kss.flatten.length&&(P.info? t).isSome then some kss.flatten else none
   | _=>none
def z6l(P:Program)(e:TypeId):Bool:=match P.info? e with
 | some i => i.str == "[]api.Stroke"
 | none=>false
def z6m(P:Program)(e:TypeId):Bool:=match P.info? e with
 | some i => i.str == "simulate.Press" || i.str == "api.Event"
 | none=>false
def qrl(P:Program)(name:String)(t:TypeId):Option Nat :=
 match P.info? t with
 | some i=>match i.methods.find? (·.name==name)with
  | some m=>match m.func,P.underlying t with
   | some (f,pr),some (.pointer _)=>if m.path=#[]/\pr=true/\f<500000 then some f else none
   | some (f,pr),some _=>if m.path=#[]/\pr=false/\f<500000 then some f else none
   | _,_=>none
  | none=>none
 | none=>none
def q2r(P:Program)(name:String):List (Nat×Nat):=(List.range P.types.size).filterMap fun t=>(qrl P name t).map fun f=>(t,f)
def z5n(m:Nat):Bool:=m % 2==1
def z4p(m:Nat):Bool:=m / 4 % 2==1
def z4q(m:Nat):Bool:=m / 8 % 2==1
def z4o(m:Nat):Bool:=m / 1073741824 % 2==1
def zzn:A->A
 | .c .nils=>.c .nilx
 | x=>x
def z1g(m:Nat):A->A
 | .c (.fn f [] [])=>if m / 16=f+1/\f<500000 then .c (.fn (f+500000) [] [])else .c (.fn f [] [])
 | x=>x
def zpr(m:Nat)(P:Program)(o:Oper):Option O :=
 match o.op with
 | .move x | .assign x=>(cA x).map fun x=>.mv (if z4q m then zzn x else x)
 | .pick c a b=>do return .pick (<-cA c) (<-cA a) (<-cA b)
 | .alloc e=>(qsi P e).bind fun z=>if z.known||zvp P e then some (.alloc z.cells)else none
 | .box _ x=>(cA x).map .box
 | .build t parts=>do
  let zero <-zeroCells P t
  match P.underlying t with
  | some (.struct fs)=>do
   let ps <-parts.toList.mapM (zjr P fs)
   if fs.toList.all fun f=>(P.info? f.type).isSome then return .build zero ps else none
  | some (.array _ e)=>do
   let ps <-parts.toList.mapM (zjq P e)
   if(P.info? e).isSome then return .build zero ps else none
  | _=>none
 | .buildSlice t len parts=>do
  let e <-qfl P t;let zero <-zeroCells P e;let ps <-parts.toList.mapM qzc
  if z5n m=true/\len≠0/\len*P.cellsOf e<=2 ^ 20/\P.cellsOf e≠0/\zero.length=P.cellsOf e then return .own (P.cellsOf e) (zero.map (qan [])) len ps
  else if len≠0/\z6m P e=true/\len*P.cellsOf e<=2 ^ 20/\P.cellsOf e≠0/\zero.length=P.cellsOf e then return .lit (P.cellsOf e) (zero.map (qan [])) len ps
  else if len*P.cellsOf e<=2 ^ 20/\P.cellsOf e≠0/\zero.length=P.cellsOf e then return .bslice (match zero with | [.nils]=>!z4p m&&z6l P e | _=>!z4p m&&zero.any fun v=>match v with | .nils=>true | _=>false) (P.cellsOf e) (zero.map (qan [])) len ps else none
 | .load t x=>do
  let z <-szT P t
  return .load z.1 z.2 (<-cA x)
 | .store t a v=>do if P.cellsOf t≠0 then return .store (P.cellsOf t) (<-cA a) ((if z4q m then zzn else id) (<-cA v))else none
 | .nilCheck x=>(cA x).map .nilck
 | .binOp op t x y _ =>
  match P.underlying t with
  | some .bool=>do return .bin true op (<-cA x) (<-cA y)
  | some (.int _) | some .string=>do return .bin false op (<-cA x) (<-cA y)
  | some (.struct fs)=>do
   let kss <-fs.toList.mapM fun f=>qri P 3 f.type
   if q0j 0 fs.toList kss && !P.stoodInHeld t && !P.eqGuardType P.depth t then
    match op with
    | .eql=>do return .eqa false kss.flatten (<-cA x) (<-cA y)
    | .neq=>do return .eqa true kss.flatten (<-cA x) (<-cA y)
    | _=>none
   else none
  | some (.array n e)=>do
   let k <-qjj P e
   if P.cellsOf e=1 && !P.eqGuardType P.depth t then
    match op with
    | .eql=>do return .eqa false (List.replicate n k) (<-cA x) (<-cA y)
    | .neq=>do return .eqa true (List.replicate n k) (<-cA x) (<-cA y)
    | _=>none
   else none
  | some (.slice _) =>
   match op,y with
   | .eql,.const (.slice none 0 0)=>do return .isnil false (<-cA x)
   | .neq,.const (.slice none 0 0)=>do return .isnil true (<-cA x)
   | _,_=>none
  | some (.pointer _) =>
   match op,y with
   | .eql,.const (.pointer none)=>do return .isnilP false (<-cA x)
   | .neq,.const (.pointer none)=>do return .isnilP true (<-cA x)
   | _,_=>none
  | _=>none
 | .unOp op _ x=>do return .un op (<-cA x)
 | .convert s d x =>
  match P.underlying s,P.underlying d with
  | some (.int _),some (.int k)=>(cA x).map (.conv (.int k))
  | some (.int _),some .string=>(cA x).map (.conv .i2s)
  | some .string,some .string=>(cA x).map (.conv .same)
  | _,_=>none
 | .makeMap t none =>
  match P.underlying t with
  | some (.map k _)=>if(qjj P k).isSome then some .mkmap else none
  | _=>none
 | .lookup t x k ok =>
  match P.underlying t with
  | some (.map kt e)=>do
   let kk <-qjj P kt;let zero <-qsi P e
   if zero.scal1 then return .look kk zero ok (<-cA x) (<-cA k)else none
  | _=>none
 | .mapUpdate t m k v =>
  match P.underlying t with
  | some (.map kt _)=>do
   let kk <-qjj P kt
   return .upd kk (<-cA m) (<-cA k) (<-cA v)
  | _=>none
 | .makeInterface t x =>
  match P.underlying t with
  | none | some (.interface _)=>none
  | _=>do return .mkfn (t+1000000) [<-cA x] []
 | .makeFunc (.func f) first caps=>if f<500000 then do return .mkfn f (<-first.toList.mapM cA) (<-caps.toList.mapM cA)else none
 | .makeSlice t l c=>do
  let e <-qfl P t;let zero <-zeroCells P e
  if P.cellsOf e≠0/\zero.length=P.cellsOf e then return .mkslice (P.cellsOf e) (P.bytesOf e) (zero.map (qan [])) (<-cA l) (<-cA c)else none
 | .slice t x lo hi mx =>
  match P.underlying t with
  | some .string=>do if mx.isSome then none else return .slcS (<-cA x) (<-q1u lo) (<-q1u hi)
  | some (.slice e)=>do if P.cellsOf e≠0/\(hi.isSome||mx.isNone)=true then return .slcL (P.cellsOf e) (<-cA x) (<-q1u lo) (<-q1u hi) (<-q1u mx)else none
  | some (.array n e)=>do if mx.isSome\/P.cellsOf e=0 then none else return .slcA n (P.cellsOf e) (<-cA x) (<-q1u lo) (<-q1u hi)
  | _=>none
 | .fieldAddr s x f =>
  match P.underlying s with
  | some (.struct fs)=>do
   let f <-fs[f]?
   if P.cellsOf f.type≠0 then return .faddr f.offset (<-cA x)else none
  | _=>none
 | .field s x f =>
  match P.underlying s with
  | some (.struct fs)=>do
   let f <-fs[f]?;let z <-szT P f.type
   return .fld z.1 f.offset z.2 (<-cA x)
  | _=>none
 | .indexAddr t x i =>
  match P.underlying t with
  | some (.array n e)=>do if P.cellsOf e≠0 then return .iaddrA n (P.cellsOf e) (<-cA x) (<-cA i)else none
  | some (.slice e)=>do if P.cellsOf e≠0 then return .iaddrL (P.cellsOf e) (<-cA x) (<-cA i)else none
  | _=>none
 | .index t x i =>
  match P.underlying t with
  | some (.array n e)=>do
   let z <-szT P e
   if z.2=P.cellsOf e/\z.2≠0 then return .idxA z.1 n z.2 (<-cA x) (<-cA i)else none
  | some .string=>do return .idxS (<-cA x) (<-cA i)
  | _=>none
 | .range t x =>
  match P.underlying t with
  | some .string=>(cA x).map .rng
  | _=>none
 | .next x true=>(cA x).map .nxt
 | .extract x i=>(cA x).map (.ext i)
 | .call c =>
  match c.callee with
  | .value f=>do return .call (z1g m (<-cA f)) (<-c.args.toList.mapM cA)
  | .invoke (.tmp n) name=>if P.funcs.size<=500000 then do return .call (.m (q2r P name) n) (<-c.args.toList.mapM cA)else none
  | .invoke _ _=>none
  | .builtin b =>
   match b,c.args.toList,c.argTypes.toList with
   | .len,[x],[t] =>
    match P.underlying t with
    | some (.array n _)=>some (.mv (.c (.int .i64 n)))
    | some .string=>(cA x).map (.len true)
    | some (.slice _)=>(cA x).map (.len false)
    | some (.map _ _)=>(cA x).map .lenm
    | _=>none
   | .cap,[x],[t] =>
    match P.underlying t with
    | some (.slice _)=>(cA x).map .cap
    | _=>none
   | .append,[x,y],[t,u]=>do
    let e <-qfl P t;let zero <-zeroCells P e
    match P.underlying u with
    | some (.int _)=>if P.cellsOf e≠0/\zero.length=P.cellsOf e/\P.bytesOf e≠0 then return .appz (P.cellsOf e) (P.bytesOf e) (zero.map (qan [])) (<-cA x) (<-cA y)else none
    | some (.slice _)=>if P.cellsOf e≠0/\zero.length=P.cellsOf e/\P.bytesOf e≠0 then(if z4p m then return .appF (P.cellsOf e) (P.bytesOf e) (<-cA x) (<-cA y)else return .app (P.cellsOf e) (P.bytesOf e) (<-cA x) (<-cA y))else none
    | _=>none
   | .clear,[x],[t]=>do
    let e <-qfl P t;let zero <-zeroCells P e
    if P.cellsOf e≠0/\zero.length=P.cellsOf e then return .clr (P.cellsOf e) (zero.map (qan [])) (<-cA x)else none
   | .max,[x,y],_=>if zyd P o.type then do return .mx false (<-cA x) (<-cA y)else none
   | .min,[x,y],_=>if zyd P o.type then do return .mx true (<-cA x) (<-cA y)else none
   | _,_,_=>none
 | _=>none
def q2l(op:Go.Op):Bool :=
 match op with
 | .call c=>(match c.callee with | .value _ | .invoke _ _=>true | _=>false)
 | _=>false
def O.isCall:O->Bool
 | .call _ _=>true
 | _=>false
def qxb(op:Go.Op):Bool :=
 match op with
 | .alloc _=>true
 | _=>false
def O.isAlloc:O->Bool
 | .alloc _=>true
 | _=>false
def zii(op:Go.Op):Bool :=
 match op with
 | .makeSlice ..=>true
 | _=>false
def O.isMk:O->Bool
 | .mkslice ..=>true
 | _=>false
def cOp(m:Nat)(P:Program)(o:Oper):Option O :=
 match zpr m P o with
 | some q=>if(q.isCall && !q2l o.op)||(q.isAlloc && !qxb o.op)||(q.isMk && !zii o.op)then none else some q
 | none=>none
def q9m(e:Go.Edge):Bool :=
 match e.ground with
 | .textOnly _ | .gcOnly _=>false
 | _=>true
def z5i(ops:List Oper):List (List Nat) :=
 ops.foldl (fun acc o=>acc++[(o.after.toList.filter q9m).foldl (fun l e=>if l.contains e.on then l else e.on :: ((acc.getD e.on []).filter (fun x=>!l.contains x)++l)) []]) []
inductive Eff where
 | none | load | alloc | mk | hard
 deriving DecidableEq
def effOf:O->Eff
 | .alloc _=>.alloc
 | .load ..=>.load
 | .mkslice ..=>.mk
 | .box _ | .store .. | .mkmap | .upd .. | .rng _ | .nxt _ | .app .. | .appF .. | .appz .. | .clr .. | .call .. | .stuck | .lenm _ | .look .. | .slcA .. | .own ..=>.hard
 | .bslice fz ..=>if fz then .hard else .none
 | .slcL _ _ lo hi _=>if lo.isSome&&hi.isSome then .hard else .none
 | _=>.none
def qej:A->List Nat
 | .t n | .m _ n=>[n]
 | .c _=>[]
def qax:O->List Nat
 | .mv x | .box x | .load _ _ x | .nilck x | .isnil _ x | .isnilP _ x | .un _ x | .conv _ x | .faddr _ x | .fld _ _ _ x | .rng x | .nxt x | .ext _ x | .len _ x | .lenm x | .cap x | .clr _ _ x=>qej x
 | .pick a b c=>qej a++qej b++qej c
 | .alloc _ | .mkmap | .stuck=>[]
 | .build _ ps=>ps.flatMap fun p=>qej p.2.2
 | .bslice _ _ _ _ ps | .lit _ _ _ ps | .own _ _ _ ps=>ps.flatMap fun p=>qej p.2
 | .store _ x y | .bin _ _ x y | .eqa _ _ x y | .mkslice _ _ _ x y | .iaddrA _ _ x y | .iaddrL _ x y | .idxA _ _ _ x y | .idxS x y | .look _ _ _ x y | .app _ _ x y | .appF _ _ x y | .appz _ _ _ x y | .mx _ x y=>qej x++qej y
 | .mkfn _ a b=>a.flatMap qej++b.flatMap qej
 | .slcS x a b=>qej x++(a.toList++b.toList).flatMap qej
 | .slcL _ x a b c=>qej x++(a.toList++b.toList++c.toList).flatMap qej
 | .slcA _ _ x a b=>qej x++(a.toList++b.toList).flatMap qej
 | .upd _ x y z=>qej x++qej y++qej z
 | .call f as=>qej f++as.flatMap qej
def zqc(m:Nat)(ops:Array Oper)(o:Oper):Nat :=
 match o.op,o.dst with
 | .buildSlice ..,some d=>if ops.any (fun q=>match q.op with
   | .call c=>(match c.callee with
    | .builtin .append=>if z4o m then c.args.extract 1 c.args.size else c.args
    | _=>c.args).any fun x=>match x with
    | .tmp e=>e==d
    | _=>false
   | _=>false)then m-m % 2 else m
 | _,_=>m
def cI(m:Nat)(P:Program)(ops:Array Oper)(o:Oper):I :=
 match o.guard with
 | none=>{ dst:=o.dst,g:=none,o:=(cOp (zqc m ops o) P o).getD .stuck }
 | some (j,b) =>
  match (ops[j]?).bind (·.dst)with
  | some d=>{ dst:=o.dst,g:=some (d,b),o:=(cOp (zqc m ops o) P o).getD .stuck }
  | none=>{ dst:=o.dst,g:=none,o:=.stuck }
def qmf(i:I):List Nat:=qax i.o++(match i.g with | some (d,_)=>[d] | none=>[])
def qxu(ops:Array Oper)(i:Nat):List Nat:=((ops.getD i default).after.toList.filter q9m).map (·.on)
def zka(ops:Array Oper):Bool :=
 ((List.range ops.size).all fun i=>(ops.getD i default).after.toList.all fun e=>decide (e.on<i)) ||
 (((List.range ops.size).all fun i=>(ops.getD i default).after.toList.all fun e=>decide (e.on<ops.size)) &&
 [Go.Region.Mode.text,.gc,.any].all fun m =>
  let l:=Go.Region.linearise m ops 0
  (List.range ops.size).all fun i=>(ops.getD i default).after.toList.all fun e=>!Go.Region.binds m e||decide (l.idxOf e.on<l.idxOf i))
def zhn:List I->List Bool×List Nat
 | []=>([],[])
 | i :: r =>
  let q:=zhn r
  if effOf i.o == .mk||(match i.dst with | some d=>q.2.contains d && !(effOf i.o == .alloc) | none=>false)then(true :: q.1,qmf i++q.2)
  else((effOf i.o == .alloc) :: q.1,q.2)
def isA(is:List I)(i:Nat):Bool:=(zhn is).1.getD i false
def ldT:O->Bool
 | .load _ _ (.t _)=>true
 | .load ..=>false
 | _=>true
def zjn(ops:Array Oper)(is:List I)(anc:List (List Nat)):Bool :=
 zka ops&&(List.range is.length).all fun i =>
  (qxu ops i).all (fun j=>decide (j<i)) &&
  (anc.getD i []).all (fun j=>decide (j<i)&&((qxu ops i).contains j||(qxu ops i).any fun e=>(anc.getD e []).contains j)) &&
  (List.range is.length).all (fun j=>i==j || !((is.getD i default).dst==(is.getD j default).dst)||(is.getD i default).dst==none) &&
  (qmf (is.getD i default)).all (fun d=>(List.range is.length).all fun j=>!((is.getD j default).dst==some d)||(i != j&&((anc.getD i []).contains j||((anc.getD j []).contains i && !isA is j)))) &&
  (List.range is.length).all (fun j=>!(decide (i<j)&&effOf (is.getD i default).o == .hard&&effOf (is.getD j default).o == .hard)||(anc.getD j []).contains i) &&
  (!(effOf (is.getD i default).o == .alloc||effOf (is.getD i default).o == .mk)||((is.getD i default).g==none&&(is.getD i default).dst != none&&isA is i)) &&
  ((!isA is i || !(effOf (is.getD i default).o == .hard))&&(!isA is i||effOf (is.getD i default).o == .alloc||(anc.getD i []).all (fun j=>isA is j))) &&
  (!(effOf (is.getD i default).o == .mk)||(List.range is.length).all (fun j=>!(effOf (is.getD j default).o == .hard)||(anc.getD j []).contains i)) &&
  ldT (is.getD i default).o
def qbi(is:List I):List Nat :=
 let l:=List.range is.length
 l.filter (fun i=>isA is i)++l.filter (fun i=>!isA is i)
def zcr(is:List I)(anc:List (List Nat)):List (Nat×Nat) :=
 let ord:=qbi is;let pos (i:Nat):Nat:=ord.idxOf i;let l:=List.range is.length
 l.flatMap fun i=>if effOf (is.getD i default).o == .load then
   (l.filter fun j=>effOf (is.getD j default).o == .hard && !(anc.getD i []).contains j && !(anc.getD j []).contains i).map fun j=>(pos i,pos j)
  else []
def zwh(m:Nat)(P:Program)(ops:Array Oper)(draw:Bool):C :=
 let is:=ops.toList.map (cI m P ops)
 if draw then
  let anc:=z5i ops.toList
  if zjn ops is anc then .draw ((qbi is).map fun i=>is.getD i default) (zcr is anc)else .reg [{ dst:=none,g:=none,o:=.stuck }]
 else .reg is
def qnw:C:=.reg [{ dst:=none,g:=none,o:=.stuck }]
def qrg:C->List I
 | .reg l | .draw l _=>l
 | .seq a b=>qrg a++qrg b
 | .cond c a b=>⟨none,none,.mv c⟩ :: (qrg a++qrg b)
 | .block _ c | .loop c | .going _ c | .loopK _ c | .goingK _ _ c | .loopF _ c | .goingF _ _ c=>qrg c
 | .range f _ a b=>⟨none,none,.mv f⟩ :: (qrg a++qrg b)
 | _=>[]
def q0a(k:Nat):List I->Bool
 | []=>false
 | i :: r=>if(qmf i).contains k then true else if i.dst==some k then false else q0a k r
def zns(c:C):Option Nat :=
 let l:=qrg c
 l.findSome? fun i=>match i.dst,i.o with
  | some d,.alloc _ | some d,.box _=>if q0a d l then some d else none
  | _,_=>none
def z4w:O->Bool
 | .bin .. | .un .. | .len .. | .eqa .. | .conv .. | .isnil .. | .isnilP ..=>true
 | _=>false
def z3g(c:C):List Nat :=
 let l:=qrg c
 (l.filterMap fun i=>match i.dst,i.o with
  | some d,.mv (.t x)=>if q0a d l && !(l.any fun j=>j.dst==some x&&z4w j.o)then some d else none
  | some d,.call _ _=>if q0a d l then some d else none
  | some d,.app _ _ _ _ | some d,.appF _ _ _ _=>if q0a d l then some d else none
  | some d,.ext _ _=>if q0a d l then some d else none
  | _,_=>none).eraseDups
def zfv(m:Nat)(c:C):C:=match zns c with
 | some k=>.loopK k c
 | none=>if z5n m then(match z3g c with
  | []=>.loop c
  | ks=>.loopF ks c)else .loop c
def qcj(m:Nat)(P:Program):Code->C
 | .skip=>.skip
 | .region _ ops draw=>zwh m P ops draw
 | .seq a b=>.seq (qcj m P a) (qcj m P b)
 | .cond c a b=>match cA c with
  | some x=>.cond x (qcj m P a) (qcj m P b)
  | none=>qnw
 | .block id c=>.block id (qcj m P c)
 | .loop c=>zfv m (qcj m P c)
 | .rangeFunc f ps assign body=>match cA f with
  | some x=>.range x ps.toList (qcj m P assign) (qcj m P body)
  | none=>qnw
 | .exit id=>.exit id
 | .ret=>.ret
 | _=>qnw
def cRV(P:Program):Go.ResultVar->RV
 | .tmp t=>.t t
 | .cell a t=>match szT P t with
  | some z=>.cell a z.1 z.2
  | none=>.bad
def zwg(P:Program)(fresh raw:Bool)(f:Func)(m:Nat:=0):Option Fun :=
 if P.funcs.size > 500000 then none else if f.name == "runtime.NumGoroutine" then none else f.body.map fun b => { ntmps := f.ntmps, results := f.results.toList.map (cRV P), body := qcj m P b, fresh, raw }
mutual
theorem q9l:∀{a b:V},a.beq b=true->a=b
 | .undef,.undef,_=>rfl
 | .ub,.ub,_=>rfl
 | .bool a,.bool b,h=>by simp[V.beq]at h;rw[h]
 | .int k a,.int l b,h=>by simp[V.beq]at h;rw[h.1,h.2]
 | .str a,.str b,h=>by simp[V.beq]at h;rw[h]
 | .nils,.nils,_=>rfl
 | .nilx,.nilx,_=>rfl
 | .imm a,.imm b,h=>by have e:=qvx (a:=a) (b:=b) (by simpa only[V.beq]using h);rw[e]
 | .immc a,.immc b,h=>by have e:=qvx (a:=a) (b:=b) (by simpa only[V.beq]using h);rw[e]
 | .iptr a,.iptr b,h=>by have e:=qkc (a:=a) (b:=b) (by simpa only[V.beq]using h);rw[e]
 | .bptr a b,.bptr a' b',h=>by simp[V.beq]at h;rw[h.1,h.2]
 | .ptr a b c d,.ptr a' b' c' d',h=>by simp[V.beq]at h;obtain⟨⟨⟨h1,h2⟩,h3⟩,h4⟩:=h;rw[h1,h2,h3,h4]
 | .sl a b c d e,.sl a' b' c' d' e',h=>by simp[V.beq]at h;obtain⟨⟨⟨⟨h1,h2⟩,h3⟩,h4⟩,h5⟩:=h;rw[h1,h2,h3,h4,h5]
 | .agg a,.agg b,h=>by have e:=qkc (a:=a) (b:=b) (by simpa only[V.beq]using h);rw[e]
 | .tup a,.tup b,h=>by have e:=qkc (a:=a) (b:=b) (by simpa only[V.beq]using h);rw[e]
 | .fn f a b,.fn f' a' b',h=>by simp only[V.beq,jE,beq_iff_eq]at h;rw[h.1.1,qkc h.1.2,qkc h.2]
 | .nilfn,.nilfn,_=>rfl
 | .nilp,.nilp,_=>rfl
 | .map a,.map b,h=>by simp[V.beq]at h;rw[h]
 | .sit a,.sit b,h=>by simp[V.beq]at h;rw[h]
 | .bsl a b c d,.bsl a' b' c' d',h=>by simp[V.beq]at h;obtain⟨⟨⟨h1,h2⟩,h3⟩,h4⟩:=h;rw[h1,h2,h3,h4]
 | .yld a,.yld b,h=>by simp[V.beq]at h;rw[h]
 | .view p a,.view q b,h=>by simp only[V.beq,jE,beq_iff_eq]at h;rw[h.1,qkc h.2]
theorem qkc:∀{a b:List V},qzj a b=true->a=b
 | [],[],_=>rfl
 | [],_ :: _,h=>by simp[qzj]at h
 | _ :: _,[],h=>by simp[qzj]at h
 | a :: as,b :: bs,h=>by simp only[qzj,jE]at h;rw[q9l h.1,qkc h.2]
theorem qvx:∀{a b:List (List V)},qyw a b=true->a=b
 | [],[],_=>rfl
 | [],_ :: _,h=>by simp[qyw]at h
 | _ :: _,[],h=>by simp[qyw]at h
 | a :: as,b :: bs,h=>by simp only[qyw,jE]at h;rw[qkc h.1,qvx h.2]
end
theorem zym:∀{a b:K},kEq a b=true->a=b
 | .box a,.box b,h=>by simp only[kEq]at h;rw[qkc h]
 | .arr n a,.arr m b,h=>by simp only[kEq,jE,beq_iff_eq]at h;rw[h.1,qvx h.2]
 | .frz n a,.frz m b,h=>by simp only[kEq,jE,beq_iff_eq]at h;rw[h.1,qvx h.2]
theorem q5d:∀{a b:H},qwx a b=true->a=b
 | [],[],_=>rfl
 | [],_ :: _,h=>by simp[qwx]at h
 | _ :: _,[],h=>by simp[qwx]at h
 | ⟨g,k⟩ :: h,⟨g',k'⟩ :: h',e=>by simp only[qwx,jE,beq_iff_eq]at e;rw[e.1.1,zym e.1.2,q5d e.2]
end Go.Am
