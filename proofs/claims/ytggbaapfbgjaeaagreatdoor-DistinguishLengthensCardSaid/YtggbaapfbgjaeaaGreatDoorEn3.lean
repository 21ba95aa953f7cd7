/- Arrays compared;slices. -/
import Derived.Test.YtggbaapfbgjaeaaGreatDoorEn2
import Derived.Laws.Tables
import Derived.Laws.MakeOwn
import Derived.Great.BuildSlice
import Derived.Lib.AppendZerosOnto
import Derived.Deep.Upon
import Derived.Laws.RangeString
import Derived.MapKept
import Derived.ChangeKeysEq
set_option linter.all false
set_option maxHeartbeats 4000000
namespace Go.Am
open Go (World Value Addr Obj Program Act Operand Oper Op Sem Result Next undef execOp TypeId TypeDesc)
theorem qrj{E:Env}{b:Nat}:∀{vs:List V} {o:Nat},qbc E vs b o<->∀i v,vs[i]?=some v->∃u,E.w.cell? ⟨b,o+i,none⟩=some u/\rel E v u
 | [],o=>by simp[qbc]
 | x :: xs,o=>by
  unfold qbc;rw[qrj];constructor
  .rintro⟨h1,h2⟩ i v hi;cases i with
   | zero=>simp at hi;subst hi;exact h1
   | succ i =>have:=h2 i v (by simpa using hi);rw[show o+1+i=o+(i+1)by omega]at this;exact this
  .intro h;refine⟨h 0 x rfl,fun i v hi=>?_⟩;have:=h (i+1) v (by simpa using hi);rw[show o+(i+1)=o+1+i by omega]at this;exact this
theorem qfz{E:Env}{b n:Nat}:∀{rs:List (List V)} {o:Nat},qak E n rs b o<->∀i r,rs[i]?=some r->r.length=n/\qbc E r b (o+i*n)
 | [],o=>by simp[qak]
 | x :: xs,o=>by
  unfold qak;rw[qfz];constructor
  .rintro⟨h1,h2,h3⟩ i r hi;cases i with
   | zero=>simp at hi;subst hi;simpa using⟨h1,h2⟩
   | succ i =>have:=h3 i r (by simpa using hi);rw[show o+n+i*n=o+(i+1)*n by rw[Nat.succ_mul];omega]at this;exact this
  .intro h;refine⟨(h 0 x rfl).1,by simpa using(h 0 x rfl).2,fun i r hi=>?_⟩;have:=h (i+1) r (by simpa using hi);rw[show o+(i+1)*n=o+n+i*n by rw[Nat.succ_mul];omega]at this;exact this
theorem qta{P:Program}{E E':Env}(hE:Ok P E)(x:Ext E E'){vs:List V}{b o:Nat}(hc:∀j,j<vs.length->E'.w.cell? ⟨b,o+j,none⟩=E.w.cell? ⟨b,o+j,none⟩)(h:qbc E vs b o):qbc E' vs b o:=by rw[qrj]at *;intro i v hi;obtain⟨u,h1,h2⟩:=h i v hi;exact⟨u,(hc i (jG.1 hi).1).trans h1,qcz hE x v u h2⟩
theorem qvc(off:Nat):∀(l vs:List V) (i:Nat),off+vs.length<=l.length->(qsa l off vs)[i]?=if off<=i/\i<off+vs.length then vs[i-off]? else l[i]?:=by
 induction off with
 | zero =>
  intro l;induction l with
  | nil=>intro vs i h;cases vs with
   | nil=>simp[qsa]
   | cons v vs=>simp at h
  | cons x xs ih =>
   intro vs i h;cases vs with
   | nil=>simp[qsa]
   | cons v vs =>
    simp only[qsa];cases i with
    | zero=>simp
    | succ i =>have:=ih vs i (by simp at h ⊢;omega);simp only[List.getElem?_cons_succ,this];simp
 | succ off ih =>
  intro l vs i h;cases l with
  | nil=>simp at h
  | cons x xs =>
   cases vs with
   | nil=>simp[qsa];intro h1 h2;omega
   | cons v vs =>
    simp only[qsa];cases i with
    | zero=>simp
    | succ i =>have:=ih xs (v :: vs) i (by simp at h ⊢;omega);simp only[List.getElem?_cons_succ,this];simp only[Nat.add_sub_add_right];congr 1;simp only[List.length_cons,eq_iff_iff];omega
theorem qiu(off:Nat):∀(l vs:List V),(qsa l off vs).length=l.length:=by
 induction off with
 | zero =>
  intro l;induction l with
  | nil=>intro vs;cases vs<;>simp[qsa]
  | cons x xs ih=>intro vs;cases vs<;>simp[qsa,ih]
 | succ off ih =>
  intro l vs;cases l with
  | nil=>cases vs<;>simp[qsa]
  | cons x xs=>cases vs<;>simp[qsa,ih]
theorem qmm{E:Env}{v:V}{u:Value}(h:rel E v u)(hk:v.known=true):qai E v.cells u.cells.toList:=by
 cases v<;>try (simp[V.known]at hk;done)
 case agg cs =>unfold rel at h;obtain⟨us,rfl,hl⟩:=h;exact hl
 case view p cs =>
  have h':=h;unfold rel at h;obtain⟨b,o,_,_,⟨_,rfl⟩ | ⟨_,cap,rfl,_⟩⟩:=h
  all_goals
   simp only[V.cells];unfold qai;exact⟨_,_,rfl,h',by simp[qai]⟩
 all_goals
  simp only[V.cells];have h':=h;unfold rel at h;unfold qai
  first
   | (subst h;exact⟨_,_,rfl,h',by simp[qai]⟩)
   | (obtain⟨a1,rfl⟩:=h;exact⟨_,_,rfl,h',by simp[qai]⟩)
   | (obtain⟨a1,a2,rfl,_⟩:=h;exact⟨_,_,rfl,h',by simp[qai]⟩)
   | (obtain⟨a1,rfl,_⟩:=h;exact⟨_,_,rfl,h',by simp[qai]⟩)
   | (obtain⟨_,a1,a2,rfl,_⟩:=h;exact⟨_,_,rfl,h',by simp[qai]⟩)
   | (obtain⟨_,_,a1,a2,rfl,_⟩:=h;exact⟨_,_,rfl,h',by simp[qai]⟩)
   | (obtain⟨_,a1,rfl,_⟩:=h;exact⟨_,_,rfl,h',by simp[qai]⟩)
   | (obtain⟨_,_,⟨_,rfl⟩ | ⟨_,_,_,_,rfl⟩,_⟩:=h<;>exact⟨_,_,rfl,h',by simp[qai]⟩)
theorem q4b{E:Env}{v:V}{u:Value}(h:rel E v u)(hk:v.cell1=true):u.oneCell'=true:=by
 cases v<;>try (simp[V.cell1]at hk;done)
 all_goals
  unfold rel at h
  first
   | (subst h;rfl)
   | (obtain⟨a1,rfl⟩:=h;rfl)
   | (obtain⟨a1,rfl,_⟩:=h;rfl)
   | (obtain⟨a1,a2,rfl,_⟩:=h;rfl)
   | (obtain⟨_,a1,a2,rfl,_⟩:=h;rfl)
   | (obtain⟨_,_,a1,a2,rfl,_⟩:=h;rfl)
   | (obtain⟨_,a1,rfl,_⟩:=h;rfl)
   | (obtain⟨_,_,⟨_,rfl⟩ | ⟨_,_,_,_,rfl⟩,_⟩:=h<;>rfl)
theorem qgn{E:Env}{b:Nat}:∀{vs:List V} {us:List Value} {o:Nat},(∀j u,us[j]?=some u->E.w.cell? ⟨b,o+j,none⟩=some u)->qai E vs us->qbc E vs b o
 | [],_,_,_,_=>by simp[qbc]
 | v :: vs,us,o,hc,h=>by unfold qai at h;obtain⟨u,us',rfl,h1,h2⟩:=h;unfold qbc;refine⟨⟨u,by simpa using hc 0 u rfl,h1⟩,qgn (fun j w hj=>?_) h2⟩;have:=hc (j+1) w (by simpa using hj);rw[show o+(j+1)=o+1+j by omega]at this;exact this
theorem qny{P:Program}:∀{vs:List V} {us:List Value} {E:Env},Ok P E->qai E vs us->∃E',Ok P E'/\Ext E E'/\E'.w=E.w/\E'.S=E.S/\E'.h=(qca E.h vs).2/\qai E' (qca E.h vs).1 us/\(∀i,i<E.h.length->E'.b i=E.b i)
 | [],us,E,hE,h=>⟨E,hE,Ext.refl E,rfl,rfl,rfl,by simpa[qca]using h,fun _ _=>rfl⟩
 | v :: vs,us,E,hE,h=>by
  unfold qai at h;obtain⟨u,us',rfl,h1,h2⟩:=h;have other:(∀(q:V),q=v->q ≠ .nils)->∃E',Ok P E'/\Ext E E'/\E'.w=E.w/\E'.S=E.S/\E'.h=(qca E.h (v :: vs)).2/\qai E' (qca E.h (v :: vs)).1 (u :: us')/\(∀i,i<E.h.length->E'.b i=E.b i):=by
   intro hne;obtain⟨E',e1,e2,e3,e3',e4,e5,e6⟩:=qny hE h2;have hb:qca E.h (v :: vs)=(v :: (qca E.h vs).1,(qca E.h vs).2):=by cases v<;>first | rfl | exact absurd rfl (hne _ rfl)
   rw[hb];refine⟨E',e1,e2,e3,e3',e4,?_,e6⟩;unfold qai;exact⟨u,us',rfl,qcz hE e2 v u h1,e5⟩
  by_cases hv:v=.nils
  .subst hv;have hu:=h1;unfold rel at hu;obtain⟨ad,rfl⟩:=hu;obtain⟨k1,k2⟩:=qhd hE (Grow.refl E.w) ⟨0,.arr 0 []⟩ none (by intro b C h;cases h) (fun _=>by
    unfold qej;exact⟨rfl,.inl ⟨by simp,rfl⟩⟩)
   obtain⟨E',e1,e2,e3,e3',e4,e5,e6⟩:=qny k1 (qbb hE k2 _ _ h2);refine⟨E',e1,k2.trans e2,e3,e3',e4,?_,fun i hi=>?_⟩
   .simp only[qca];unfold qai;refine⟨_,us',rfl,qcz k1 e2 _ _ ?_,e5⟩;unfold rel;refine⟨by simp,by simp,ad,0,rfl,jD _,fun _=>rfl,fun y hy hne=>absurd rfl hne,fun o ho _ _=>?_⟩;simp at ho;subst ho;exact⟨by simp[qmh],by simp[qcl],.inl ⟨by simp,rfl⟩⟩
   .rw[e6 i (by simp;omega)];exact if_neg (by omega)
  .exact other (fun q hq=>by rw[hq];exact hv)
theorem zal{P:Program}{E:Env}(hE:Ok P E){vs:List V}{us:List Value}(hl:qai E vs us)(ty:TypeId) :
  ∃E',Ok P E'/\Ext E E'/\E'.w=E.w.alloc (.cells us.toArray ty)/\E'.h=(qiq E.h vs).2/\rel E' (qiq E.h vs).1 (.pointer (some ⟨E.w.heap.size,0,none⟩)):=by
 obtain⟨E1,a1,a2,a3,a3',a4,a5,a6⟩:=qny hE hl;have hg:Grow E1.w (E1.w.alloc (.cells us.toArray ty)):=Grow.alloc _ _;have hnew:(E1.w.alloc (.cells us.toArray ty)).heap[E1.w.heap.size]?=some (.cells us.toArray ty (0,0)):=Go.heap_alloc_new _ _;obtain⟨k1,k2⟩:=qhd a1 hg ⟨0,.box (qca E.h vs).1⟩ (some (E1.w.heap.size,us.length,0)) (by intro b C h;cases h;simp) (fun x=>by
  unfold qej;right;refine⟨E1.w.heap.size,(us.length,0),us.toArray,ty,by simp,fun h=>by have:=a1.S _ h;omega,hnew,by simpa using(qav a5).symm,?_⟩;refine qgn (fun j u hj=>?_) (qbb a1 x _ _ a5);show World.cell? (E1.w.alloc (.cells us.toArray ty)) ⟨E1.w.heap.size,0+j,none⟩=some u;unfold World.cell?;rw[hnew];simpa using hj)
 refine⟨_,k1,a2.trans k2,by simp[a3],by simp[qiq,a4],?_⟩;simp only[qiq];rw[<-a4];unfold rel;refine⟨by simp,E1.w.heap.size,0,by rw[a3],fun o ho _=>⟨⟨(us.length,0),by simp⟩,rfl⟩⟩
section
variable{P:Program}{E:Env}(hE:Ok P E){s:List V}{a:Act}(hs:qai E s a.tmps.toList){o:Oper}
include hE hs
omit hs in
theorem zcg{e:TypeId}{z:V}(ho:o.op=.alloc e)(hz:qrz P e=some z)(hk:z.known=true\/zuj P e=true):Does P E a o (qiq E.h z.cells).1 (qiq E.h z.cells).2:=by
 unfold qrz at hz;cases hi:P.info? e with
 | none=>rw[hi]at hz;cases hz
 | some i =>
  rw[hi]at hz;cases hz0:i.zero with
  | none=>simp[hz0]at hz
  | some u =>
   simp only[Option.bind_some,hz0]at hz;have hr:rel E z u:=q9c hz;have hcr:qai E z.cells u.cells.toList:=by
    rcases hk with hk | hk
    .exact qmm hr hk
    .unfold zuj at hk;rw[show(P.info? e).bind (·.zero)=some u by rw[hi];exact hz0]at hk;cases u<;>try (exact absurd hk Bool.false_ne_true)
     case map r =>
      cases r
      case some=>exact absurd hk Bool.false_ne_true
      cases hz;simp[V.cells,Value.cells,qai,rel]
     case nilIface =>cases hz;simp[V.cells,Value.cells,qai,rel]
   obtain⟨E',e1,e2,e3,e4,e5⟩:=zal hE hcr e;refine⟨E',e1,e2,e4,_,?_,.inl ⟨_,rfl,e5⟩⟩;rw[e3];simp[execOp,ho,Go.Instr.alloc,Go.zeroValue,qlv hi,hz0,Go.newVar,Go.newRow]
theorem zls{e:TypeId}{x:Operand}{x':A}(ho:o.op=.box e x)(h1:cA x=some x')(hk:(x'.ev s).known=true):Does P E a o (qiq E.h (x'.ev s).cells).1 (qiq E.h (x'.ev s).cells).2:=by obtain⟨E',e1,e2,e3,e4,e5⟩:=zal hE (qmm (qax hs h1) hk) e;refine⟨E',e1,e2,e4,_,?_,.inl ⟨_,rfl,e5⟩⟩;rw[e3];simp[execOp,ho,Go.Instr.box,Go.newVar,Go.newRow]
end
theorem qhm{P:Program}{b off:Nat}{ty:TypeId}:∀(us:List Value) (i:Nat) (w:World) (cs:Array Value),w.heap[b]?=some (.cells cs ty (0,0))->off+i+us.length<=cs.size->(∀u∈us,u.oneCell'=true) ->
  ∃w' cs',(Go.storeCells ⟨b,off,none⟩ us i).run P w=.ok () w'/\w'.heap.size=w.heap.size/\w'.heap[b]?=some (.cells cs' ty (0,0))/\cs'.size=cs.size/\(∀k,k≠b->w'.heap[k]?=w.heap[k]?)/\w'.os=w.os/\w'.output=w.output /\
   ∀j:Nat,cs'[j]?=if off+i<=j/\j<off+i+us.length then us[j-(off+i)]? else cs[j]?
 | [],i,w,cs,hb,_,_=>⟨w,cs,rfl,rfl,hb,rfl,fun _ _=>rfl,rfl,rfl,fun j=>by simp;intro h1 h2;omega⟩
 | u :: us,i,w,cs,hb,hl,ho=>by
  have hlt:off+i<cs.size:=by simp only[List.length_cons]at hl;omega
  have hl2:off+(i+1)+us.length<=(cs.setIfInBounds (off+i) u).size:=by simp only[List.length_cons]at hl;simp;omega
  have hc:w.cell? ⟨b,off+i,none⟩=some cs[off+i]:=by simp only[World.cell?,hb];simp[hlt]
  have hf:w.frozen? ⟨b,off+i,none⟩=false:=Go.frozen_of_row w b _ cs ty hb;have hs:=Go.run_store P w ⟨b,off+i,none⟩ u .plain (ho u (by simp));rw[hc,hf]at hs;simp only[Bool.false_eq_true,if_false]at hs;have h1:=Go.heap_setCell_same w b (off+i) cs ty u hb;obtain⟨w',cs',g1,g2,g3,g4,g5,g6,g7,g8⟩:=qhm (P:=P) us (i+1) (w.setCell ⟨b,off+i,none⟩ u) (cs.setIfInBounds (off+i) u) h1 hl2 (fun v hv=>ho v (by simp[hv]));refine⟨w',cs',?_,by rw[g2];simp,g3,by rw[g4];simp,fun k hk=>(g5 k hk).trans (Go.heap_setCell_other w _ k u hk),g6,g7,fun j=>?_⟩
  .simp only[Go.storeCells,qcm,Sem.run_bind,hs,Go.Result.andThen_ok];exact g1
  .rw[g8 j];simp only[List.length_cons]at hl ⊢;by_cases h2:j=off+i
   .subst h2;rw[if_neg (by omega),if_pos (by omega)];simp[show off+i<cs.size by omega]
   .by_cases h3:off+(i+1)<=j/\j<off+(i+1)+us.length
    .rw[if_pos h3,if_pos (by omega)];rw[show j-(off+i)=(j-(off+(i+1)))+1 by omega];simp
    .rw[if_neg h3,if_neg (by omega)];rw[Array.getElem?_setIfInBounds_ne (by omega)]
theorem qnr{P:Program}{b off:Nat}{ty t:TypeId}{w:World}{cs:Array Value}{v:Value}(hz:P.cellsOf t≠0)(hv:v.cells.size=P.cellsOf t)(hb:w.heap[b]?=some (.cells cs ty (0,0)))(hl:off+v.cells.size<=cs.size)(ho:∀u∈v.cells.toList,u.oneCell'=true) :
  ∃w' cs',(Go.storeVar t ⟨b,off,none⟩ v).run P w=.ok () w'/\w'.heap.size=w.heap.size/\w'.heap[b]?=some (.cells cs' ty (0,0))/\cs'.size=cs.size/\(∀k,k≠b->w'.heap[k]?=w.heap[k]?)/\w'.os=w.os/\w'.output=w.output /\
   ∀j:Nat,cs'[j]?=if off<=j/\j<off+v.cells.size then v.cells[j-off]? else cs[j]?:=by
 obtain⟨i,hi,hsz⟩:=qcq hz;obtain⟨w',cs',g1,g2,g3,g4,g5,g6,g7,g8⟩:=qhm (P:=P) (b:=b) (off:=off) (ty:=ty) v.cells.toList 0 w cs hb (by simpa using hl) ho;refine⟨w',cs',?_,g2,g3,g4,g5,g6,g7,fun j=>?_⟩
 .have:¬(v.cells.size≠i.size):=by omega
  simp[Go.storeVar,qbg hi,this,g1]
 .have:=g8 j;simpa using this
theorem qhp:∀(vs:List V) (h:H),∃t,(qca h vs).2=h++t
 | [],h=>⟨[],by simp[qca]⟩
 | v :: vs,h=>by
  by_cases hv:v=.nils
  .subst hv;obtain⟨t,ht⟩:=qhp vs (h++[⟨0,.arr 0 []⟩]);exact⟨⟨0,.arr 0 []⟩ :: t,by simp[qca,ht]⟩
  .obtain⟨t,ht⟩:=qhp vs h;refine⟨t,?_⟩;have hb:qca h (v :: vs)=(v :: (qca h vs).1,(qca h vs).2):=by cases v<;>first | rfl | exact absurd rfl hv
   rw[hb];exact ht
theorem zfe{vs:List V}{h:H}{i:Nat}{o:Ob}(e:h[i]?=some o):(qca h vs).2[i]?=some o:=by obtain⟨t,ht⟩:=qhp vs h;rw[ht,jI (qbe e)];exact e
theorem qml:∀(vs:List V) (h:H),(qca h vs).1.length=vs.length
 | [],h=>rfl
 | v :: vs,h=>by
  by_cases hv:v=.nils
  .subst hv;simp[qca,qml vs]
  .have hb:qca h (v :: vs)=(v :: (qca h vs).1,(qca h vs).2):=by cases v<;>first | rfl | exact absurd rfl hv
   rw[hb];simp[qml vs]
theorem qdv{w:World}{b:Nat}{cs:Array Value}{ty:TypeId}{fr:Nat×Nat}(h:w.heap[b]?=some (.cells cs ty fr))(j:Nat):w.cell? ⟨b,j,none⟩=cs[j]?:=by unfold World.cell?;rw[h];rfl
theorem qxk{E:Env}{b o off:Nat}{cells vs:List V}{us:List Value}{cs0 cs1:Nat->Option Value}(hc:∀j,E.w.cell? ⟨b,j,none⟩=cs1 j)(hn:∀j,cs1 j=if o+off<=j/\j<o+off+us.length then us[j-(o+off)]? else cs0 j)
  (hold:∀i v,cells[i]?=some v->∃u,cs0 (o+i)=some u/\rel E v u) (hl:off+vs.length<=cells.length) (hv:qai E vs us):qbc E (qsa cells off vs) b o:=by
 rw[qrj];intro i v hi;rw[qvc off cells vs i hl]at hi;have hlen:=qav hv;split at hi
 .rename_i hw;obtain⟨u,h1,h2⟩:=relL_get? hv hi;refine⟨u,?_,h2⟩;rw[hc,hn,if_pos (by omega),show o+i-(o+off)=i-off by omega];exact h1
 .rename_i hw;obtain⟨u,h1,h2⟩:=hold i v hi;refine⟨u,?_,h2⟩;rw[hc,hn,if_neg (by omega)];exact h1
theorem zmv{P:Program}{E:Env}(hE:Ok P E){S S':Nat->Prop}(hS:∀b,E.S b->S' b)(h:∀b,S b->S' b){v:V}(hi:inS E S v):inS E S' v:=by
 rcases zkj v with⟨id,g,m,off,len,rfl⟩ | ⟨k1,_,k3,_,_⟩
 .exact fun u hu=>qos (E:=⟨E.b,S,E.h,E.w⟩) (E':=⟨E.b,S',E.h,E.w⟩) rfl h (qfy _ _ (.inr ⟨_,_,_,_,_,rfl⟩)) (hi u hu)
 .exact qwl hE hS k1 k3
theorem zmu{P:Program}{E E1:Env}(hE:Ok P E)(x:Ext E E1){S':Nat->Prop}(hS:∀b,E.S b->S' b){w v:V}(h:inS E1 S' v)(hw:E1.w=E.w)(hh:E1.h=zcm E.h w):inS E S' v:=by
 rcases zkj v with⟨id,g,m,off,len,rfl⟩ | ⟨k1,_,k3,_,_⟩
 .intro u hu;rcases q8e E.h w (.sl id g m off len)with e | e
  .have:=h u (qcz hE x.toExt0 _ _ hu);rw[hh,e]at this;exact qos (E:=⟨E1.b,S',zcm E.h w,E1.w⟩) (E':=⟨E.b,S',E.h,E.w⟩) hw.symm (fun _ h=>h) (qfy _ _ (.inr ⟨_,_,_,_,_,rfl⟩)) this
  .rw[e];unfold rel;trivial
 .exact qwl hE hS k1 k3
theorem qwf{P:Program}:∀(vs:List V) {E:Env},Ok P E->∃E',Ok P E'/\Ext E E'/\E'.h=q7m E.h vs/\E'.w=E.w/\E'.b=E.b/\∀v∈vs,inS E E'.S v
 | [],E,hE=>⟨E,hE,Ext.refl E,rfl,rfl,rfl,fun v hv=>by cases hv⟩
 | v :: vs,E,hE=>by
  obtain⟨E1,a1,a2,a3,a4,a5,a6⟩:=zgz hE v;obtain⟨E2,b1,b2,b3,b4,b5,b6⟩:=qwf vs a1;refine⟨E2,b1,a2.trans b2,by rw[b3,a3];rfl,b4.trans a4,b5.trans a5,fun w hw=>?_⟩;rcases List.mem_cons.1 hw with rfl | hw
  .exact zmv hE (a2.trans b2).S b2.S a6
  .exact zmu hE a2 (a2.trans b2).S (b6 w hw) a4 a3
theorem zcn{h:H}{i:Nat}(hn:∀g n els,h[i]?≠some ⟨g,.nst n els⟩):qqv h i=qfu h i:=by
 unfold qqv;split
 .rename_i g n els e;exact absurd e (hn g n els)
 .rfl
theorem zar{h:H}{i g m off len:Nat}(hn:zdk h (.sl i g m off len)=true):∀g n els,h[i]?≠some ⟨g,.nst n els⟩:=by intro g n els e;simp only[zdk,e]at hn;cases hn
theorem qpq{id:Nat}:∀{vs:List V} {h:H},(∀v∈vs,∀i g m off len,v=.sl i g m off len->i≠id)->vs.all (zdk h)=true->(q7m h vs)[id]?=h[id]?
 | [],_,_,_=>rfl
 | v :: vs,h,hn,hp=>by
  simp only[List.all_cons,jE]at hp;show(q7m (zcm h v) vs)[id]?=h[id]?;rcases zkj v with⟨i,g,m,off,len,rfl⟩ | ⟨_,_,_,k4,_⟩
  .have:=hn (.sl i g m off len) (by simp) i g m off len rfl;have e:zcm h (.sl i g m off len)=qfu h i:=zcn (zar hp.1);rw[e,qpq (fun w hw=>hn w (by simp[hw])) (by
    rw[jP]at hp ⊢;intro w hw;cases w<;>try rfl
    simp only[zdk];split
    .rename_i e2;exact absurd (qrx.1 e2) (zar (hp.2 _ hw) _ _ _)
    .rfl)]
   unfold qfu;split
   .rw[jO this]
   .rfl
  .rw[k4];exact qpq (fun w hw=>hn w (by simp[hw])) hp.2
theorem qsx{P:Program}{E E':Env}(hE:Ok P E)(x:Ext E E')(hw:E'.w=E.w){v:V}{u:Value}(h:rel E v u)(hi:inS E E'.S v):rel E' (qan E.h v) u:=by
 cases v<;>try exact qcz hE x _ _ h
 case immc els=>exact qqy (qcz hE x _ _ h)
 case nils =>unfold rel at h;obtain⟨a,rfl⟩:=h;simp only[qan];unfold rel;exact⟨a,0,rfl,jD _,rfl,.inl rfl⟩
 case nilx =>unfold rel at h;subst h;simp only[qan];unfold rel;exact⟨none,0,rfl,jD _,rfl,.inl rfl⟩
 case sl id g m off len =>exact qeb (n:=0) (E:=⟨E.b,E'.S,E.h,E.w⟩) (E':=E') ⟨hw,fun _ h=>h,fun i hi=>absurd hi (Nat.not_lt_zero _)⟩ _ _ (qfy E.h (.sl id g m off len) (.inr ⟨id,g,m,off,len,rfl⟩)) (qii hE x.S h hi)
theorem qsy{P:Program}{E E':Env}(hE:Ok P E)(hw:E'.w=E.w)(hS:∀b,E.S b->E'.S b):∀{vs:List V} {us:List Value},qai E vs us->(∀v∈vs,inS E E'.S v)->(vs.map (qan E.h)).all V.pcell=true->qai E' (vs.map (qan E.h)) us
 | [],us,h,_,_=>by unfold qai at *;exact h
 | v :: vs,us,h,hi,hp=>by unfold qai at h;obtain⟨u,us',rfl,h1,h2⟩:=h;simp only[List.map_cons,List.all_cons,jE]at hp ⊢;unfold qai;refine⟨u,us',rfl,?_,qsy hE hw hS h2 (fun w hw=>hi w (by simp[hw])) hp.2⟩;have r1:=qii hE hS h1 (hi v (by simp));refine qeb (n:=0) (E:=⟨E.b,E'.S,E.h,E.w⟩) (E':=E') ⟨hw,fun _ h=>h,fun i hi=>absurd hi (Nat.not_lt_zero _)⟩ _ _ ?_ r1;have:=qmz (n:=0) (r:=[qan E.h v]) (by simp[hp.1]);simpa[qek]using this
theorem q5t{h:H}{v:V}(hp:v.pcell=true):qan h v=v:=by cases v<;>first | rfl | (simp[V.pcell]at hp)
theorem q9z{i g:Nat}{cells:List V}:∀{cs:List V} {h:H},h[i]?=some ⟨g,.box cells⟩->(q7l h cs)[i]?=some ⟨g,.box cells⟩
 | [],_,e=>e
 | v :: vs,h,e=>by
  show(q7l (zkh h v) vs)[i]?=_;refine q9z ?_;rcases qwd h v with e2 | ⟨j,e2⟩<;>rw[e2]
  .exact e
  .exact qyi e
theorem zmk{h:H}{id i g:Nat}{cells:List V}(e:h[i]?=some ⟨g,.box cells⟩):(qqv h id)[i]?=some ⟨g,.box cells⟩:=by
 unfold qqv;split
 .rename_i g' n els h1;split
  .have hi:i≠id:=by rintro rfl;rw[e]at h1;cases h1
   rw[jO (Ne.symm hi)];exact q9z e
  .exact e
 .exact qyi e
theorem q3x{P:Program}{E:Env}(hE:Ok P E){id g m el off n:Nat}{els:List (List V)}{row cs:List V}{us:List Value}(ho:E.h[id]?=some ⟨g,.arr m els⟩)(hrow:els[el]?=some row)(hn:cs.length=n)(hoff:off+n<=row.length)
  (hp:cs.all V.pcell=true) (hr:qai E cs us) (h1:∀u∈us,u.oneCell'=true) {b x:Nat} {C:Nat×Nat} (hb:E.b id=some (b,C)) (hx:x=(C.2+el)*m+off) {t:TypeId} (hz:P.cellsOf t≠0) {v:Value} (hv:v.cells.toList=us) (hsz:v.cells.size=P.cellsOf t) :
  ∃E',Ok P E'/\Ext E E'/\E'.h=E.h.set id ⟨g,.arr m (els.set el (qsa row off cs))⟩/\(Go.storeVar t ⟨b,x,none⟩ v).run P E.w=.ok () E'.w:=by
 have hro:=hE.obj id _ ho;unfold qej at hro;obtain⟨hpu,hor⟩:=hro;rcases hor with⟨h,_⟩ | ⟨b',C',ca,ty,q1,q2,q3,q4,q5,q6,q7⟩
 .rw[hb]at h;cases h
 .rw[hb]at q1;cases q1;rw[Nat.add_mul]at hx q5;have hul:us.length=n:=by rw[<-qav hr,hn]
  have helt:=(jG.1 hrow).1;obtain⟨hrl,hrat⟩:=qci q7 hrow;have hfit:x+v.cells.size<=ca.size:=by
   have e1:v.cells.size=us.length:=by rw[<-hv];simp
   have:(el+1)*m<=C.1*m:=jV m (by omega);rw[Nat.succ_mul]at this;omega
  obtain⟨w',ca',g1,g2,g3,g4,g5,g6,g7,g8⟩:=qnr (P:=P) (b:=b) (off:=x) (ty:=ty) (w:=E.w) hz hsz q3 hfit (by rw[hv];exact h1);have hpu':qcc (els.set el (qsa row off cs))=true:=by
   simp only[qcc,jP]at hpu ⊢;intro r hr;rcases jT hr with hr | rfl
   .exact hpu r hr
   .intro c hc;obtain⟨i,hi⟩:=List.mem_iff_getElem?.1 hc;rw[qvc off row cs i (by omega)]at hi;split at hi
    .exact(jP.1 hp) c (jR hi)
    .exact(jP.1 (by simpa using hpu row (jR hrow))) c (jR hi)
  obtain⟨k1,k2⟩:=qkx hE ho rfl (o':=⟨g,.arr m (els.set el (qsa row off cs))⟩) (fun _ h=>by cases h) (w':=w') (by omega) (fun k hk hne=>g5 k (fun e=>hne C (by rw[e];exact hb))) g6 g7 (E.b id) (fun k D hk=>.inl ⟨D,hk⟩)
   (jD _) rfl (fun _=>⟨rfl,by simp[qmh],rfl⟩) (fun y=>by
    unfold qej;refine⟨hpu',.inr ⟨b,C,ca',ty,by simp[hb],q2,g3,q4,by rw[Nat.add_mul];omega,by simpa using q6,?_⟩⟩;rw[qfz];intro i r hi;by_cases hie:i=el
    .subst hie;rw[jN helt]at hi;cases hi;refine⟨by rw[qiu];exact hrl,?_⟩;refine qxk (cs0:=fun j=>ca[j]?) (cs1:=fun j=>ca'[j]?) (us:=us) (fun j=>qdv g3 j) (fun j=>?_) (fun j v hj=>?_) (by omega) (qbb hE y _ _ hr)
     .have:=g8 j;rw[this];have e1:v.cells.size=us.length:=by rw[<-hv];simp
      have e2:C.2*m+i*m+off=x:=by omega
      rw[e1,e2];congr 1;rw[<-hv];simp
     .obtain⟨u,h2,h3⟩:=qnc hrat hj;refine⟨u,?_,qcz hE y _ _ h3⟩;rw[qdv q3]at h2;exact h2
    .rw[jO (Ne.symm hie)]at hi;obtain⟨hl,hat⟩:=qci q7 hi;refine⟨hl,qta hE y (fun j hj=>?_) hat⟩;show w'.cell? ⟨b,C.2*m+i*m+j,none⟩=E.w.cell? ⟨b,C.2*m+i*m+j,none⟩;rw[qdv g3,qdv q3,g8];rw[if_neg];have e1:v.cells.size=us.length:=by rw[<-hv];simp
     intro hh;rcases Nat.lt_or_gt_of_ne hie with h | h
     .have:(i+1)*m<=el*m:=jV m (by omega);rw[Nat.succ_mul]at this;omega
     .have:(el+1)*m<=i*m:=jV m (by omega);rw[Nat.succ_mul]at this;omega)
  exact⟨_,k1,k2,rfl,g1⟩
theorem ziq{P:Program}{E:Env}(hE:Ok P E){id g m el off n:Nat}{els:List (List V)}{row cs:List V}{us:List Value}(ho:E.h[id]?=some ⟨g,.nst m els⟩)(hrow:els[el]?=some row)(hn:cs.length=n)(hoff:off+n<=row.length)
  (hr:qai E cs us) (h1:∀u∈us,u.oneCell'=true) {b x:Nat} {C:Nat×Nat} (hb:E.b id=some (b,C)) (hx:x=(C.2+el)*m+off) {t:TypeId} (hz:P.cellsOf t≠0) {v:Value} (hv:v.cells.toList=us) (hsz:v.cells.size=P.cellsOf t) :
  ∃E',Ok P E'/\Ext E E'/\E'.h=E.h.set id ⟨g,.nst m (els.set el (qsa row off cs))⟩/\(Go.storeVar t ⟨b,x,none⟩ v).run P E.w=.ok () E'.w:=by
 have hor:=hE.obj id _ ho;unfold qej at hor;rcases hor with⟨h,_⟩ | ⟨b',C',ca,ty,q1,q2,q3,q4,q5,q6,q7⟩
 .rw[hb]at h;cases h
 .rw[hb]at q1;cases q1;rw[Nat.add_mul]at hx q5;have hul:us.length=n:=by rw[<-qav hr,hn]
  have helt:=(jG.1 hrow).1;obtain⟨hrl,hrat⟩:=qci q7 hrow;have hfit:x+v.cells.size<=ca.size:=by
   have e1:v.cells.size=us.length:=by rw[<-hv];simp
   have:(el+1)*m<=C.1*m:=jV m (by omega);rw[Nat.succ_mul]at this;omega
  obtain⟨w',ca',g1,g2,g3,g4,g5,g6,g7,g8⟩:=qnr (P:=P) (b:=b) (off:=x) (ty:=ty) (w:=E.w) hz hsz q3 hfit (by rw[hv];exact h1);obtain⟨k1,k2⟩:=qkx hE ho rfl (o':=⟨g,.nst m (els.set el (qsa row off cs))⟩) (fun _ h=>by cases h) (w':=w') (by omega) (fun k hk hne=>g5 k (fun e=>hne C (by rw[e];exact hb))) g6 g7 (E.b id) (fun k D hk=>.inl ⟨D,hk⟩)
   (jD _) rfl (fun _=>⟨rfl,by simp[qmh],rfl⟩) (fun y=>by
    unfold qej;refine .inr ⟨b,C,ca',ty,by simp[hb],q2,g3,q4,by rw[Nat.add_mul];omega,by simpa using q6,?_⟩;rw[qfz];intro i r hi;by_cases hie:i=el
    .subst hie;rw[jN helt]at hi;cases hi;refine⟨by rw[qiu];exact hrl,?_⟩;refine qxk (cs0:=fun j=>ca[j]?) (cs1:=fun j=>ca'[j]?) (us:=us) (fun j=>qdv g3 j) (fun j=>?_) (fun j v hj=>?_) (by omega) (qbb hE y _ _ hr)
     .have:=g8 j;rw[this];have e1:v.cells.size=us.length:=by rw[<-hv];simp
      have e2:C.2*m+i*m+off=x:=by omega
      rw[e1,e2];congr 1;rw[<-hv];simp
     .obtain⟨u,h2,h3⟩:=qnc hrat hj;refine⟨u,?_,qcz hE y _ _ h3⟩;rw[qdv q3]at h2;exact h2
    .rw[jO (Ne.symm hie)]at hi;obtain⟨hl,hat⟩:=qci q7 hi;refine⟨hl,qta hE y (fun j hj=>?_) hat⟩;show w'.cell? ⟨b,C.2*m+i*m+j,none⟩=E.w.cell? ⟨b,C.2*m+i*m+j,none⟩;rw[qdv g3,qdv q3,g8];rw[if_neg];have e1:v.cells.size=us.length:=by rw[<-hv];simp
     intro hh;rcases Nat.lt_or_gt_of_ne hie with h | h
     .have:(i+1)*m<=el*m:=jV m (by omega);rw[Nat.succ_mul]at this;omega
     .have:(el+1)*m<=i*m:=jV m (by omega);rw[Nat.succ_mul]at this;omega)
  exact⟨_,k1,k2,rfl,g1⟩
theorem qwa{n:Nat}:∀{h:H} {i j g:Nat} {cells:List V},qqs n i h=some (j,g,cells)->∃k,j=i+k/\j<n/\h[k]?=some ⟨g,.box cells⟩/\cells.any (zhk n)=true
 | [],_,_,_,_,e=>by simp[qqs]at e
 | ⟨g0,k0⟩ :: h,i,j,g,cells,e=>by
  simp only[qqs]at e;split at e
  .cases e
  .rename_i hlt;have step:qqs n (i+1) h=some (j,g,cells)->∃k,j=i+k/\j<n/\(⟨g0,k0⟩ :: h)[k]?=some ⟨g,.box cells⟩/\cells.any (zhk n)=true:=by
    intro e;obtain⟨k,h1,h2,h3,h4⟩:=qwa e;exact⟨k+1,by omega,h2,by simpa using h3,h4⟩
   cases k0<;>simp only at e<;>try exact step e
   split at e
   .rename_i ha;cases e;exact⟨0,by omega,by omega,rfl,ha⟩
   .exact step e
theorem zaa:∀{vs:List V} {h:H} {i g:Nat} {cells:List V},h[i]?=some ⟨g,.box cells⟩->(q7m h vs)[i]?=some ⟨g,.box cells⟩
 | [],_,_,_,_,e=>e
 | v :: vs,h,i,g,cells,e=>by
  show(q7m (zcm h v) vs)[i]?=_;refine zaa ?_;cases v<;>try exact e
  exact zmk e
theorem q4s{n:Nat}{v:V}(h:zhk n v=true):∃i g m o l,v=.sl i g m o l/\n<=i:=by cases v<;>simp[zhk]at h;exact⟨_,_,_,_,_,rfl,h⟩
theorem zai{n i:Nat}(hi:i<=n):∀{cells:List V},cells.any (zhk n)=true->qek i cells=true->False
 | [],h,_=>by simp at h
 | v :: vs,h,hl=>by
  simp only[List.any_cons,Bool.or_eq_true]at h;simp only[qek,jE]at hl;rcases h with h | h
  .obtain⟨j,g,m,o,l,rfl,hj⟩:=q4s h;have:=hl.1;simp only[V.low,jW]at this;omega
  .exact zai hi h hl.2
theorem q4l{P:Program}{E E1 E2:Env}(hE:Ok P E)(x:Ext0 E E2){n:Nat}(hw:E2.w=E.w)(hS:∀b,E.S b->E1.S b)(hS2:∀b,E1.S b->E2.S b):∀{cells:List V} {b o:Nat},(∀v∈cells,zhk n v=true->inS E E1.S v)->qbc E cells b o->qbc E2 (cells.map (qsn n E.h)) b o
 | [],_,_,_,_=>by simp[qbc]
 | v :: vs,b,o,hi,h=>by
  unfold qbc at h;obtain⟨⟨u,h1,h2⟩,h3⟩:=h;simp only[List.map_cons];unfold qbc;refine⟨⟨u,by rw[hw];exact h1,?_⟩,q4l hE x hw hS hS2 (fun v hv=>hi v (by simp[hv])) h3⟩;unfold qsn;split
  .rename_i hv;obtain⟨i,g,m,off,l,rfl,_⟩:=q4s hv;have r:=qii hE hS h2 (hi _ (by simp) hv);exact qeb (n:=0) (E:=⟨E.b,E1.S,E.h,E.w⟩) (E':=E2) ⟨hw,hS2,fun i hi=>absurd hi (Nat.not_lt_zero _)⟩ _ _ (qfy E.h _ (.inr ⟨_,_,_,_,_,rfl⟩)) r
  .exact qcz hE x v u h2
theorem zfq(h:H):∀k n,n<=zvb h k n
 | 0,n=>jD n
 | k+1,n=>by
  simp only[zvb];split
  .exact jD n
  .have:=zfq h k (n+1);omega
theorem qxx{n m:Nat}(hnm:n<=m){E:Env}:∀{vs:List V} {us:List Value},qai E vs us->qai (q1o m E) (vs.map (qbl n)) us
 | [],_,h=>by unfold qai at *;exact h
 | v :: vs,us,h=>by
  unfold qai at h;obtain⟨u,us',h1,h2,h3⟩:=h;simp only[List.map_cons];unfold qai;refine⟨u,us',h1,?_,qxx hnm h3⟩;unfold qbl;split
  .rename_i hl;exact qeb (qvg m E) v u (qll hnm v hl) h2
  .unfold rel;trivial
theorem q7d{P:Program}{E:Env}(hE:Ok P E)(n:Nat):∃E',Ok P E'/\(∀E0,Ext E0 E->E0.h.length<=n->Ext E0 E')/\E'.w=E.w/\E'.h=qgt n E.h/\∀vs us,qai E vs us->qai E' (vs.map (qbl n)) us:=by
 have plain:qgt n E.h=qlc n E.h->∃E',Ok P E'/\(∀E0,Ext E0 E->E0.h.length<=n->Ext E0 E')/\E'.w=E.w/\E'.h=qgt n E.h/\∀vs us,qai E vs us->qai E' (vs.map (qbl n)) us:=fun e =>⟨q1o n E,q9k hE n,fun E0 x h=>qsk x h,rfl,e.symm,fun vs us h=>qov h⟩
 by_cases hok:q2m n E.h=true
 .exact plain (by simp only[qgt,hok,if_true])
 by_cases hnh:ztj n E.h=true
 .have hm:=zfq E.h (E.h.length-n) n;refine⟨q1o (zvb E.h (E.h.length-n) n) E,q9k hE _,fun E0 x h=>qsk x (by omega),rfl,by simp only[qgt,hok,hnh,if_true];rfl,fun vs us h=>qxx hm h⟩
 .cases hf:qqs n 0 E.h with
  | none=>exact plain (by simp only[qgt,hok,hnh,hf];rfl)
  | some q =>
   obtain⟨i,g,cells⟩:=q;obtain⟨k,hk,hin,hob,hany⟩:=qwa hf;have hik:k=i:=by omega
   subst hik;obtain⟨E1,a1,a2,a3,a4,a5,a6⟩:=qwf (cells.filter (zhk n)) hE;have hob1:E1.h[k]?=some ⟨g,.box cells⟩:=by rw[a3];exact zaa hob
   obtain⟨k1,k2⟩:=qkx a1 hob1 rfl (o':=⟨g,.box (cells.map (qsn n E.h))⟩) (fun c hc _ hl=>by cases hc;exact zai (by omega) hany hl) (w':=E1.w) (jD _) (fun _ _ _=>rfl) rfl rfl (E1.b k) (fun b C h=>.inl ⟨C,h⟩)
    (jD _) rfl (fun _=>⟨rfl,jD _,rfl⟩) (fun y=>by
     have hro:=hE.obj k _ hob;unfold qej at hro ⊢;rcases hro with h | ⟨b,C,cs,ty,q1,q2,q3,q4,q5⟩
     .exact .inl (by simp only[if_true];rw[a5];exact h)
     .have hro1:=a1.obj k _ hob1;unfold qej at hro1;rcases hro1 with h | ⟨b',C',cs',ty',p1,p2,p3,p4,p5⟩
      .rw[a5,q1]at h;cases h
      .rw[a5,q1]at p1;cases p1;refine .inr ⟨b,C,cs',ty',by simp only[if_true];rw[a5];exact q1,p2,p3,by simpa using p4,?_⟩;exact q4l (E1:=E1) hE (a2.trans y).toExt0 a4 a2.S (fun _ h=>h) (fun v hv hh=>a6 v (List.mem_filter.2 ⟨hv,hh⟩)) q5)
   generalize hE2:(⟨fun i=>if i=k then E1.b k else E1.b i,E1.S,E1.h.set k ⟨g,.box (cells.map (qsn n E.h))⟩,E1.w⟩:Env)=E2 at k1 k2;refine⟨q1o n E2,q9k k1 n,fun E0 x h=>qsk ((x.trans a2).trans k2) h,?_,?_,fun vs us h=>qov (qbb hE (a2.trans k2).toExt0 _ _ h)⟩
   .show E2.w=E.w;rw[<-hE2];exact a4
   .show qlc n E2.h=_;rw[<-hE2];show qlc n (E1.h.set k _)=_;rw[a3];simp only[qgt,hok,hnh,hf];rfl
theorem qxw{n:Nat}{E E':Env}(x:Agree n E E'){v:V}{u:Value}(h:rel E v u):rel E' (qbl n v) u:=by
 unfold qbl;split
 .rename_i hl;exact qeb x v u hl h
 .unfold rel;trivial
theorem qqd{n:Nat}{E E':Env}(x:Agree n E E'):∀{vs:List V} {us:List Value},qai E vs us->qai E' (vs.map (qbl n)) us
 | [],_,h=>by unfold qai at *;exact h
 | v :: vs,us,h=>by unfold qai at h;obtain⟨u,us',h1,h2,h3⟩:=h;simp only[List.map_cons];unfold qai;exact⟨u,us',h1,qxw x h2,qqd x h3⟩
theorem qni{n:Nat}{E E':Env}(x:Agree n E E'):∀{vs:List V} {b o:Nat},qbc E vs b o->qbc E' (vs.map (qbl n)) b o
 | [],_,_,_=>by simp[qbc]
 | v :: vs,b,o,h=>by unfold qbc at h;obtain⟨⟨u,h1,h2⟩,h3⟩:=h;simp only[List.map_cons];unfold qbc;exact⟨⟨u,by rw[x.w];exact h1,qxw x h2⟩,qni x h3⟩
theorem qpi{n:Nat}{E E':Env}(x:Agree n E E'){m:Nat}:∀{rs:List (List V)} {b o:Nat},qak E m rs b o->qak E' m (rs.map fun r=>r.map (qbl n)) b o
 | [],_,_,_=>by simp[qak]
 | r :: rs,b,o,h=>by unfold qak at h;simp only[List.map_cons];unfold qak;exact⟨by simpa using h.1,qni x h.2.1,qpi x h.2.2⟩
theorem qxl{E:Env}:∀{s:List V} {us:List Value} {k:Nat} {v:V},qai E s us->(∀u,rel E (qaj s k) u->us[k]?=some u->rel E v u)->qai E (qep s k v) us
 | [],us,k,v,h,_=>by unfold qep;exact h
 | x :: s,us,0,v,h,hv=>by unfold qai at h;obtain⟨u,us',rfl,h2,h3⟩:=h;unfold qep qai;exact⟨u,us',rfl,hv u h2 rfl,h3⟩
 | x :: s,us,k+1,v,h,hv=>by unfold qai at h;obtain⟨u,us',rfl,h2,h3⟩:=h;unfold qep qai;exact⟨u,us',rfl,h2,qxl h3 fun u hu h=>hv u hu (by simpa using h)⟩
def qpa(n id:Nat)(o:Ob)(E:Env):Env:=⟨fun i=>if i=n then E.b id else E.b i,E.S,qlc n E.h++[o],E.w⟩
theorem zre{P:Program}{E:Env}(hE:Ok P E){n id g:Nat}{cells:List V}(hob:E.h[id]?=some ⟨g,.box cells⟩)(hn:n<=id)(hl:qek n cells=true) :
  Ok P (qpa n id ⟨g,.box cells⟩ E)/\(∀E0,Ext E0 E->E0.h.length<=n->Ext E0 (qpa n id ⟨g,.box cells⟩ E))/\Agree n E (qpa n id ⟨g,.box cells⟩ E)/\∀u,rel E (.bptr id 0) u->rel (qpa n id ⟨g,.box cells⟩ E) (.bptr n 0) u:=by
 have hlt:id<E.h.length:=qbe hob;have hlen:(qlc n E.h).length=n:=by rw[qdz];omega
 have hlo:∀i,i<n->(qpa n id ⟨g,.box cells⟩ E).h[i]?=(qlc n E.h)[i]?:=fun i hi=>jI (by omega);have hhi:(qpa n id ⟨g,.box cells⟩ E).h[n]?=some ⟨g,.box cells⟩:=by show(qlc n E.h++[_])[n]?=_;rw[jJ (by omega),hlen,Nat.sub_self];rfl
 have hle:∀i o,(qpa n id ⟨g,.box cells⟩ E).h[i]?=some o->i<=n:=fun i o h=>by
  have:=qbe h;have e:(qpa n id ⟨g,.box cells⟩ E).h.length=n+1:=by show(qlc n E.h++[_]).length=_;rw[jF,hlen];rfl
  omega
 have hb:∀i,i<n->(qpa n id ⟨g,.box cells⟩ E).b i=E.b i:=fun i hi=>if_neg (by omega);have hbn:(qpa n id ⟨g,.box cells⟩ E).b n=E.b id:=if_pos rfl;have hgen:∀i,i<n->qgr (qpa n id ⟨g,.box cells⟩ E).h i=qgr E.h i:=fun i hi=>by have e:=quw (h:=E.h) hi;unfold qgr at e ⊢;rw[hlo i hi];exact e
 have x:Agree n E (qpa n id ⟨g,.box cells⟩ E):=by
  refine⟨rfl,fun _ h=>h,fun i hi hil=>⟨?_,hgen i hi,hb i hi,fun o' ho'=>?_⟩⟩
  .show i<(qlc n E.h++[_]).length;rw[jF,hlen];omega
  .rw[hlo i hi]at ho';obtain⟨_,o0,h1,rfl⟩:=qhi ho';obtain⟨s1,s2,s3,s4,_⟩:=qda n o0;exact⟨o0,h1,s1.symm,s2.symm,s3.symm,s4.symm⟩
 -- an object of the new memory,and its name in the old one
 have old:∀i o,(qpa n id ⟨g,.box cells⟩ E).h[i]?=some o->∃j o0,E.h[j]?=some o0/\(qpa n id ⟨g,.box cells⟩ E).b i=E.b j/\o.k.isFrz=o0.k.isFrz/\(j=i/\i<n/\o=qbw n o0\/j=id/\i=n/\o=⟨g,.box cells⟩):=by
  intro i o ho;by_cases hi:i<n
  .have ho':=ho;rw[hlo i hi]at ho';obtain⟨_,o0,h1,rfl⟩:=qhi ho';exact⟨i,o0,h1,hb i hi,(qda n o0).2.2.2.2,.inl ⟨rfl,hi,rfl⟩⟩
  .have:i=n:=by have:=hle i o ho;omega
   subst this;rw[hhi]at ho;cases ho;exact⟨id,_,hob,hbn,rfl,.inr ⟨rfl,rfl,rfl⟩⟩
 refine⟨⟨fun i o ho=>?_,fun i j o1 o2 b C C' h1 h2 f1 f2 b1 b2=>?_,hE.S⟩,fun E0 y h=>?_,x,fun u hu=>?_⟩
 .obtain⟨j,o0,h1,hbj,_,⟨rfl,hi,rfl⟩ | ⟨rfl,rfl,rfl⟩⟩:=old i o ho
  .have hr:=hE.obj j o0 h1;unfold qej at hr ⊢;rw[hbj];unfold qbw;cases hk:o0.k<;>rw[hk]at hr<;>simp only[hk]
   case box cells =>refine hr.imp (fun h=>h) ?_;rintro⟨b,C,cs,ty,q1,q2,q3,q4,q5⟩;exact⟨b,C,cs,ty,q1,q2,q3,by simpa using q4,qni x q5⟩
   case arr m els =>refine⟨hr.1,hr.2.imp (fun h=>h) ?_⟩;rintro⟨b,C,cs,ty,q1,q2,q3,q4,q5,q6,q7⟩;exact⟨b,C,cs,ty,q1,q2,q3,q4,q5,q6,qdr x _ _ _ _ hr.1 q7⟩
   case frz m els =>refine⟨hr.1,hr.2.imp (fun h=>h) ?_⟩;rintro⟨b,C,cs,ty,q1,q2,q3,q4,q5,q6,q7⟩;exact⟨b,C,cs,ty,q1,q2,q3,q4,q5,q6,qdr x _ _ _ _ hr.1 q7⟩
   case nst m els =>refine hr.imp (fun h=>⟨h.1,by rw[h.2];rfl⟩) ?_;rintro⟨b,C,cs,ty,q1,q2,q3,q4,q5,q6,q7⟩;exact⟨b,C,cs,ty,q1,q2,q3,q4,q5,by simpa using q6,qpi x q7⟩
   case map es =>obtain⟨b,C,ms,cl,q1,q2,q3,q4⟩:=hr;exact⟨b,C,ms,cl,q1,q2,q3,qrl x _ _ q4⟩
   case sit s p=>exact hr
   case loop sl ps a c p =>obtain⟨b,C,L,q1,q2,q3,q4,q5,q6,q7⟩:=hr;exact⟨b,C,L,q1,q2,q3,qqd x q4,q5,q6,q7⟩
  .have hr:=hE.obj j _ h1;rw[hob]at h1;cases h1;unfold qej at hr ⊢;rw[hbj];refine hr.imp (fun h=>h) ?_;rintro⟨b,C,cs,ty,q1,q2,q3,q4,q5⟩;exact⟨b,C,cs,ty,q1,q2,q3,q4,qnd x _ _ _ hl q5⟩
 .obtain⟨j1,p1,q1,e1,g1,d1⟩:=old i o1 h1;obtain⟨j2,p2,q2,e2,g2,d2⟩:=old j o2 h2;rw[g1]at f1;rw[g2]at f2;rw[e1]at b1;rw[e2]at b2;have:=hE.inj j1 j2 p1 p2 b C C' q1 q2 f1 f2 b1 b2;rcases d1 with⟨a1,a2,_⟩ | ⟨a1,a2,_⟩<;>rcases d2 with⟨a3,a4,_⟩ | ⟨a3,a4,_⟩<;>omega
 .have z:=qsk y h;have hlo':∀i,i<E0.h.length->(qpa n id ⟨g,.box cells⟩ E).h[i]?=(q1o n E).h[i]?:=fun i hi=>hlo i (by omega);have hb':∀i,i<E0.h.length->(qpa n id ⟨g,.box cells⟩ E).b i=(q1o n E).b i:=fun i hi=>hb i (by omega);refine⟨⟨y.S,y.size,y.keep,fun b hbs hm=>?_,?_,fun i hi=>?_,fun i o' hi ho' hc=>?_,y.os,y.output,fun i o' hi ho'=>?_⟩,y.back,fun i g cells h1 h2 h3=>?_⟩
  .obtain⟨i,o,C,h1,h2,h3⟩:=hm;obtain⟨j,o0,q1,e1,g1,_⟩:=old i o h1;exact y.muts b hbs ⟨j,o0,C,q1,by rw[<-e1];exact h2,by rw[<-g1];exact h3⟩
  .show E0.h.length<=(qlc n E.h++[_]).length;rw[jF,hlen];omega
  .rw[hgen i (by omega)];exact y.gen i hi
  .rw[hlo' i hi]at ho';rw[hb' i hi];exact z.obj i o' hi ho' hc
  .rw[hlo' i hi]at ho';exact z.tags i o' hi ho'
  .have hi:=qbe h1;rw[hlo' i hi,hb' i hi];exact z.free i g cells h1 h2 h3
 .unfold rel at hu ⊢;obtain⟨_,b,q,rfl,h3⟩:=hu;refine⟨qbe hhi,b,q,rfl,fun o ho ht=>?_⟩;rw[hhi]at ho;cases ho;obtain⟨⟨C,hC⟩,h5⟩:=h3 _ hob rfl;exact⟨⟨C,by rw[hbn];exact hC⟩,h5⟩
theorem zqz{P:Program}{E:Env}(hE:Ok P E)(n k:Nat){s:List V}{us:List Value}(hs:qai E s us) :
  ∃E' s',Ok P E'/\(∀E0,Ext E0 E->E0.h.length<=n->Ext E0 E')/\E'.w=E.w/\zoq n k ⟨s,E.h⟩=⟨s',E'.h⟩/\qai E' s' us:=by
 by_cases hx:∃id g cells,qaj s k=.bptr id 0/\n<=id/\E.h[id]?=some ⟨g,.box cells⟩/\qek n cells=true
 .obtain⟨id,g,cells,h1,h2,h3,h4⟩:=hx;obtain⟨a1,a2,a3,a4⟩:=zre hE h3 h2 h4;refine⟨_,_,a1,a2,rfl,by simp only[zoq,h1,h2,h3,h4,if_true];rfl,qxl (qqd a3 hs) fun u _ hu=>?_⟩;have:=qls k hs;rw[h1,List.getD_eq_getElem?_getD,hu]at this;exact a4 u this
 .obtain⟨E',c1,c2,c3,c4,c5⟩:=q7d hE n;refine⟨E',_,c1,c2,c3,?_,c5 _ _ hs⟩;have e:zoq n k ⟨s,E.h⟩=qvr n ⟨s,E.h⟩:=by
   unfold zoq;simp only;split
   .rename_i id hk;split
    .rename_i hn;split
     .rename_i g cells hob;split
      .rename_i hl;exact absurd ⟨id,g,cells,hk,hn,hob,hl⟩ hx
      .rfl
     .rfl
    .rfl
   .rfl
  rw[e];simp only[qvr,c4]
theorem quz{E:Env}:∀{vs:List V} {us:List Value},qai E vs us->vs.all V.cell1=true->∀u∈us,u.oneCell'=true
 | [],us,h,_,u,hu=>by unfold qai at h;subst h;cases hu
 | v :: vs,us,h,hc,u,hu=>by
  unfold qai at h;obtain⟨u',us',rfl,h1,h2⟩:=h;simp only[List.all_cons,jE]at hc;rcases List.mem_cons.1 hu with rfl | hu
  .exact q4b h1 hc.1
  .exact quz h2 hc.2 u hu
theorem qmu{h:H}:∀{vs:List V},vs.all V.pcell=true->vs.map (qan h)=vs
 | [],_=>rfl
 | v :: vs,hp=>by simp only[List.all_cons,jE]at hp;simp only[List.map_cons,q5t hp.1,qmu hp.2]
theorem zde{v:V}{id:Nat}(h:v.low1 id=true):∀c∈v.cells,∀i g m off len,c=.sl i g m off len->i≠id:=by
 intro c hc i g m off len e;subst e;cases v<;>simp only[V.cells,List.mem_singleton]at hc<;>try (cases hc;done)
 case sl j g' m' off' len' =>cases hc;simpa[V.low1]using h
 case agg cs =>simp only[V.low1,jP]at h;simpa using h _ hc
section
variable{P:Program}{E:Env}(hE:Ok P E){s:List V}{a:Act}(hs:qai E s a.tmps.toList){o:Oper}
include hE hs
theorem zck{t:TypeId}{x y:Operand}{x' y':A}(ho:o.op=.store t x y)(hz:P.cellsOf t≠0)(h1:cA x=some x')(r2:rel E (y'.ev s) (a.eval y)){h':H}(hv:zbk E.h (P.cellsOf t) (x'.ev s) (y'.ev s)=some h'):Does P E a o .undef h':=by
 have r1:=qax hs h1;unfold zbk at hv;split at hv
 .rename_i hc;obtain⟨hlen,hk,hc1⟩:=hc;have hcl:=qmm r2 hk;have hcs:(a.eval y).cells.size=P.cellsOf t:=by
   have:=qav hcl;rw[hlen]at this;simpa using this.symm
  have hone:=quz hcl hc1;split at hv
  .-- a box
   rename_i id off hp;rw[hp]at r1;split at hv
   .rename_i g cells hob;split at hv
    .rename_i hfit;cases hv;obtain⟨b,C,cs,ty,hu,q1,q2,q3,q4,q5⟩:=q3w hE r1 (show q1g E.h id=some cells by unfold q1g;rw[hob]);obtain⟨E1,a1,a2,a3,a3',a4,a5,a6⟩:=qny hE hcl;have hob1:E1.h[id]?=some ⟨g,.box cells⟩:=by rw[a4];exact zfe hob
     have hb1:E1.b id=some (b,C):=(a6 id (qbe hob)).trans q1;obtain⟨w',cs',g1,g2,g3,g4,g5,g6,g7,g8⟩:=qnr (P:=P) (b:=b) (off:=off) (ty:=ty) (w:=E.w) (t:=t) (v:=a.eval y) hz hcs q3 (by omega) hone;obtain⟨k1,k2⟩:=qkx a1 hob1 rfl (o':=⟨g,.box (qsa cells off (qca E.h (y'.ev s).cells).1)⟩) (fun _ _=>by rw[hb1];simp) (w':=w') (by rw[a3];omega) (fun k hk hne=>by rw[a3];exact g5 k (fun e=>hne C (by rw[e];exact hb1))) (by rw[a3];exact g6) (by rw[a3];exact g7) (E1.b id) (fun k D hk=>.inl ⟨D,hk⟩)
      (jD _) rfl (fun _=>⟨rfl,jD _,rfl⟩) (fun z=>by
       unfold qej;right;refine⟨b,C,cs',ty,by simp[hb1],by rw[a3'];exact q2,g3,by rw[qiu];omega,?_⟩;refine qxk (cs0:=fun j=>cs[j]?) (cs1:=fun j=>cs'[j]?) (us:=(a.eval y).cells.toList) (fun j=>qdv g3 j) (fun j=>?_) (fun j v hj=>?_) (by rw[qml];omega) (qbb a1 z _ _ a5)
       .rw[g8 j];simp
       .obtain⟨u,h3,h4⟩:=qnc q5 hj;refine⟨u,?_,qcz a1 z _ _ (qcz hE a2 _ _ h4)⟩;rw[qdv q3]at h3;exact h3)
     refine⟨_,k1,a2.trans k2,by simp[a4],_,?_,.inr ⟨rfl,rfl⟩⟩;simp[execOp,ho,hu,Go.Instr.storeAt,Go.Instr.sureAddr,g1]
    .cases hv
   .cases hv
  .-- an element
   rename_i id g el off hp;rw[hp]at r1;split at hv
   .rename_i g' m els hob;split at hv
    .rename_i row hrow;have place:∀gg,g'=gg->gg=g->∃b C xx,a.eval x=.pointer (some ⟨b,xx,none⟩)/\E.b id=some (b,C)/\xx=(C.2+el)*m+off:=by
      rintro _ rfl rfl;unfold rel at r1;obtain⟨_,_,b,xx,hu,hb⟩:=r1;obtain⟨C,e1,e2⟩:=hb _ hob rfl rfl;exact⟨b,C,xx,hu,e1,e2⟩
     simp only at hv;split at hv
     .rename_i hc;obtain⟨rfl,hfit,hp1,hp2⟩:=hc;cases hv;obtain⟨b,C,xx,hu,e1,e2⟩:=place _ rfl rfl;rw[qmu hp2]at hp1 ⊢;obtain⟨E',k1,k2,k3,k4⟩:=q3x hE hob hrow hlen hfit hp1 hcl hone e1 e2 hz rfl hcs;refine⟨E',k1,k2,k3,_,?_,.inr ⟨rfl,rfl⟩⟩;simp[execOp,ho,hu,Go.Instr.storeAt,Go.Instr.sureAddr,k4]
     .split at hv
      .rename_i hc;obtain⟨rfl,hfit,hp1,hlow,hnn⟩:=hc;cases hv;obtain⟨b,C,xx,hu,e1,e2⟩:=place _ rfl rfl;obtain⟨E1,b1,b2,b3,b4,b5,b6⟩:=qwf (y'.ev s).cells hE;have hob1:E1.h[id]?=some ⟨g',.arr m els⟩:=by rw[b3,qpq (zde hlow) hnn];exact hob
       have hr:=qsy hE b4 b2.S hcl b6 hp1;obtain⟨E',k1,k2,k3,k4⟩:=q3x b1 hob1 hrow (by simpa using hlen) hfit hp1 hr hone (by rw[b5];exact e1) e2 hz rfl hcs;refine⟨E',k1,b2.trans k2,by rw[k3,b3];rfl,_,?_,.inr ⟨rfl,rfl⟩⟩;rw[b4]at k4;simp[execOp,ho,hu,Go.Instr.storeAt,Go.Instr.sureAddr,k4]
      .cases hv
    .cases hv
   .rename_i g' m els hob;split at hv
    .rename_i row hrow;split at hv
     .rename_i hc;obtain⟨rfl,hfit⟩:=hc;cases hv;unfold rel at r1;obtain⟨_,_,b,xx,hu,hb⟩:=r1;obtain⟨C,e1,e2⟩:=hb _ hob rfl rfl;obtain⟨E',k1,k2,k3,k4⟩:=ziq hE hob hrow hlen hfit hcl hone e1 e2 hz rfl hcs;refine⟨E',k1,k2,k3,_,?_,.inr ⟨rfl,rfl⟩⟩;simp[execOp,ho,hu,Go.Instr.storeAt,Go.Instr.sureAddr,k4]
     .cases hv
    .cases hv
   .cases hv
  .cases hv
 .cases hv
end
theorem qlt{E:Env}:∀{vs:List V} {us:List Value},qai E vs us<->vs.length=us.length/\∀(i:Nat) v u,vs[i]?=some v->us[i]?=some u->rel E v u
 | [],us=>by
  constructor
  .intro h;unfold qai at h;subst h;exact⟨rfl,fun i v u h=>by simp at h⟩
  .rintro⟨h,_⟩;unfold qai;simpa using h.symm
 | v :: vs,us=>by
  constructor
  .intro h;refine⟨qav h,?_⟩;unfold qai at h;obtain⟨u,us',rfl,h1,h2⟩:=h;intro i w x hi hj;cases i with
   | zero=>simp at hi hj;subst hi;subst hj;exact h1
   | succ i=>exact(qlt.1 h2).2 i w x (by simpa using hi) (by simpa using hj)
  .rintro⟨h,k⟩;cases us with
   | nil=>simp at h
   | cons u us =>unfold qai;exact⟨u,us,rfl,k 0 v u rfl rfl,qlt.2 ⟨by simpa using h,fun i w x hi hj=>k (i+1) w x (by simpa using hi) (by simpa using hj)⟩⟩
theorem q9x{off:Nat}:∀(us:List Value) (j0:Nat) (cs:Array Value) (k:Nat),off+j0+us.length<=cs.size ->
  ((us.zipIdx j0).foldl (fun(cs:Array Value) (p:Value×Nat)=>cs.setIfInBounds (off+p.2) p.1) cs)[k]?=if off+j0<=k/\k<off+j0+us.length then us[k-(off+j0)]? else cs[k]?
 | [],j0,cs,k,_=>by simp;intro h1 h2;omega
 | u :: us,j0,cs,k,h=>by
  have hlt:off+j0<cs.size:=by simp only[List.length_cons]at h;omega
  have hl2:off+(j0+1)+us.length<=(cs.setIfInBounds (off+j0) u).size:=by simp only[List.length_cons]at h;simp;omega
  simp only[List.zipIdx_cons,List.foldl_cons];rw[q9x us (j0+1) _ k hl2];simp only[List.length_cons]at h ⊢;by_cases h2:k=off+j0
  .subst h2;rw[if_neg (by omega),if_pos (by omega)];simp[hlt]
  .by_cases h3:off+(j0+1)<=k/\k<off+(j0+1)+us.length
   .rw[if_pos h3,if_pos (by omega),show k-(off+j0)=(k-(off+(j0+1)))+1 by omega];simp
   .rw[if_neg h3,if_neg (by omega),Array.getElem?_setIfInBounds_ne (by omega)]
theorem q4m{off:Nat}:∀(l:List (Value×Nat)) (cs:Array Value),(l.foldl (fun(cs:Array Value) (p:Value×Nat)=>cs.setIfInBounds (off+p.2) p.1) cs).size=cs.size
 | [],cs=>rfl
 | p :: l,cs=>by simp only[List.foldl_cons];rw[q4m l];simp
theorem zts{E:Env}{cells vs:List V}{cs us:Array Value}{off:Nat}(h1:qai E cells cs.toList)(h2:qai E vs us.toList)(h3:off+vs.length<=cells.length) :
  qai E (qsa cells off vs) (us.zipIdx.foldl (fun(cs:Array Value) (p:Value×Nat)=>cs.setIfInBounds (off+p.2) p.1) cs).toList:=by
 have l1:=qav h1;have l2:=qav h2;simp only[Array.length_toList]at l1 l2;have e:us.zipIdx.foldl (fun(cs:Array Value) (p:Value×Nat)=>cs.setIfInBounds (off+p.2) p.1) cs=(us.toList.zipIdx 0).foldl (fun(cs:Array Value) (p:Value×Nat)=>cs.setIfInBounds (off+p.2) p.1) cs:=by rw[<-Array.foldl_toList];simp
 rw[e,qlt];have hsz:=q4m (off:=off) (us.toList.zipIdx 0) cs;refine⟨by rw[qiu];rw[l1,<-hsz];simp,fun i v u hi hj=>?_⟩;rw[qvc off cells vs i h3]at hi;have hj':((us.toList.zipIdx 0).foldl (fun(cs:Array Value) (p:Value×Nat)=>cs.setIfInBounds (off+p.2) p.1) cs)[i]?=some u:=by simpa using hj
 rw[q9x us.toList 0 cs i (by simp;omega)]at hj';simp only[Nat.add_zero,Array.length_toList]at hj';split at hi
 .rename_i hw;rw[if_pos (by omega)]at hj';exact(qlt.1 h2).2 (i-off) v u hi hj'
 .rename_i hw;rw[if_neg (by omega)]at hj';exact(qlt.1 h1).2 i v u hi (by simpa using hj')
def qfm(E:Env)(place:Nat->Option (Nat×Nat)):List (Nat×Nat×V)->List (Nat×Value)->Prop
 | [],us=>us=[]
 | (off,n,v) :: r,us=>∃i u us',us=(i,u) :: us'/\place i=some (off,n)/\rel E v u/\qfm E place r us'
theorem qof{E:Env}{place:Nat->Option (Nat×Nat)}:∀{ps:List (Nat×Nat×V)} {qs:List (Nat×Value)} {cells r:List V} {cs:Array Value},qfm E place ps qs->qai E cells cs.toList->qqr cells ps=some r ->
  ∃r',Go.Instr.fill place cs qs=some r'/\qai E r r'.toList
 | [],qs,cells,r,cs,h,hc,hf=>by unfold qfm at h;subst h;simp only[qqr]at hf;cases hf;exact⟨cs,rfl,hc⟩
 | (off,n,v) :: ps,qs,cells,r,cs,h,hc,hf=>by
  unfold qfm at h;obtain⟨i,u,us',rfl,hp,hr,hrest⟩:=h;simp only[qqr]at hf;split at hf
  .rename_i hcond;obtain⟨h1,h2,h3⟩:=hcond;have hcl:=qmm hr h2;have l1:=qav hcl;have l2:=qav hc;simp only[Array.length_toList]at l1 l2;obtain⟨r',e1,e2⟩:=qof hrest (zts hc hcl (by omega)) hf;refine⟨r',?_,e2⟩;have hn:¬(u.cells.size≠n\/off+u.cells.size>cs.size):=by omega
   simp only[Go.Instr.fill,hp];rw[if_neg (by simpa using hn)];exact e1
  .cases hf
theorem qgz{n:Nat}:∀{els:List (List V)} {i:Nat} {r:List V} {j:Nat},(∀q∈els,q.length=n)->els[i]?=some r->j<n->els.flatten[i*n+j]?=r[j]?
 | [],i,r,j,_,h,_=>by simp at h
 | q :: els,0,r,j,hn,h,hj=>by simp at h;subst h;have:=hn q (by simp);simp only[List.flatten_cons,Nat.zero_mul,Nat.zero_add];rw[jI (by omega)]
 | q :: els,i+1,r,j,hn,h,hj=>by have hq:=hn q (by simp);simp only[List.flatten_cons];rw[jJ (by rw[Nat.succ_mul];omega)];rw[show(i+1)*n+j-q.length=i*n+j by rw[Nat.succ_mul];omega];exact qgz (fun p hp=>hn p (by simp[hp])) (by simpa using h) hj
theorem qau{n:Nat}:∀{els:List (List V)},(∀q∈els,q.length=n)->els.flatten.length=els.length*n
 | [],_=>by simp
 | q :: els,hn=>by simp only[List.flatten_cons,jF,List.length_cons,Nat.succ_mul];rw[hn q (by simp),qau (fun p hp=>hn p (by simp[hp]))];omega
theorem qfw{E:Env}{b n o:Nat}{els:List (List V)}{cs:List Value}(hn:∀q∈els,q.length=n)(hc:∀(j:Nat) u,cs[j]?=some u->j<els.length*n->E.w.cell? ⟨b,o+j,none⟩=some u)
  (hr:qai E els.flatten (cs.take (els.length*n))):qak E n els b o:=by
 rw[qfz];intro i r hi;have hrn:=hn r (jR hi);refine⟨hrn,?_⟩;rw[qrj];intro j v hj;have hjn:j<n:=by rw[<-hrn];exact(jG.1 hj).1
 have hfl:=qgz hn hi hjn;rw[hj]at hfl;obtain⟨u,h1,h2⟩:=relL_get? hr hfl;have hlt:i*n+j<els.length*n:=by have hi':=(jG.1 hi).1;have:(i+1)*n<=els.length*n:=jV n (by omega);rw[Nat.succ_mul]at this;omega
 refine⟨u,?_,h2⟩;rw[Nat.add_assoc];refine hc _ u ?_ hlt;rw[List.getElem?_take_of_lt hlt]at h1;exact h1
theorem qiw{E:Env}{b n:Nat}{els:List (List V)}{cs:List Value}(hn:∀q∈els,q.length=n)(hc:∀(j:Nat) u,cs[j]?=some u->j<els.length*n->E.w.cell? ⟨b,j,none⟩=some u)
  (hr:qai E els.flatten (cs.take (els.length*n))):qak E n els b 0 :=
 qfw hn (fun j u h1 h2=>by rw[Nat.zero_add];exact hc j u h1 h2) hr
theorem q5s{n:Nat}:∀{els:List (List V)} {i:Nat} {v:List V},(∀q∈els,q.length=n)->v.length=n->i<els.length->qsa els.flatten (i*n) v=(els.set i v).flatten:=by
 intro els i v hn hv hi;have hn':∀q∈els.set i v,q.length=n:=fun q hq=>by
  rcases jT hq with h | rfl
  .exact hn q h
  .exact hv
 have hle:i*n+v.length<=els.flatten.length:=by rw[qau hn,hv];have:(i+1)*n<=els.length*n:=jV n (by omega);rw[Nat.succ_mul]at this;exact this
 apply List.ext_getElem?;intro k;rw[qvc _ _ _ _ hle];by_cases hk:k<els.length*n
 .have hn0:0<n:=by
   rcases Nat.eq_zero_or_pos n with h | h
   .subst h;simp at hk
   .exact h
  have hkd:k / n<els.length:=(Nat.div_lt_iff_lt_mul hn0).2 hk;have hkm:k % n<n:=Nat.mod_lt k hn0;have hke:k=(k / n)*n+k % n:=by rw[Nat.mul_comm];exact(Nat.div_add_mod k n).symm
  generalize k / n=q at *;generalize k % n=r at *;subst hke;by_cases hq:q=i
  .subst hq;rw[if_pos (by omega),qgz hn' (r:=v) (by rw[jN hi]) hkm];congr 1;omega
  .have hw:¬(i*n<=q*n+r/\q*n+r<i*n+v.length):=by
    rintro⟨h1,h2⟩;rcases Nat.lt_or_gt_of_ne hq with h | h
    .have:(q+1)*n<=i*n:=jV n (by omega);rw[Nat.succ_mul]at this;omega
    .have:(i+1)*n<=q*n:=jV n (by omega);rw[Nat.succ_mul]at this;omega
   rw[if_neg hw];have hg:els[q]?=some els[q]:=jA hkd;rw[qgz hn hg hkm,qgz hn' (r:=els[q]) (by rw[jO (fun e=>hq e.symm)];exact hg) hkm]
 .rw[if_neg (by rintro⟨_,h⟩;rw[qau hn]at hle;omega)];rw[jY (by rw[qau hn];omega),jY (by rw[qau hn'];simp;omega)]
theorem qfx{P:Program}{E:Env}{t:TypeId}{zs:List V}(h:zeroCells P t=some zs):∃i z,P.info? t=some i/\i.zero=some z/\qai E zs z.cells.toList:=by
 unfold zeroCells qrz at h;cases hi:P.info? t with
 | none=>simp[hi]at h
 | some i =>
  cases hz:i.zero with
  | none=>simp[hi,hz]at h
  | some z =>
   simp only[hi,Option.bind_some,hz]at h;cases hc:cV z with
   | none=>rw[hc]at h;cases h
   | some v =>
    rw[hc]at h;cases h;by_cases hzm:z=.map none
    .subst hzm;cases hc;refine⟨i,_,rfl,hz,?_⟩;show qai E [.undef] [.map none];unfold qai;exact⟨_,_,rfl,by unfold rel;trivial,by unfold qai;rfl⟩
    by_cases hzi:z=.nilIface
    .subst hzi;cases hc;refine⟨i,_,rfl,hz,?_⟩;show qai E [.undef] [.nilIface];unfold qai;exact⟨_,_,rfl,by unfold rel;trivial,by unfold qai;rfl⟩
    refine⟨i,z,rfl,hz,qmm (q9c hc) ?_⟩;cases v<;>try rfl
    -- a constant is known
    unfold cV at hc;split at hc
    .rename_i cs;cases hm:cs.toList.mapM cV1 with
     | none=>rw[hm]at hc;cases hc
     | some l=>rw[hm]at hc;cases hc
    .unfold cV1 at hc;split at hc<;>first | (cases hc;done) | (exact absurd rfl hzm) | (exact absurd rfl hzi) | (split at hc<;>cases hc)
theorem qlu{E:Env}{s:List V}{a:Act}(hs:qai E s a.tmps.toList){place:Nat->Option (Nat×Nat)}{f:Nat×Operand->Option (Nat×Nat×A)}(hf:∀p q,f p=some q->place p.1=some (q.1,q.2.1)/\cA p.2=some q.2.2) :
  ∀{l:List (Nat×Operand)} {l':List (Nat×Nat×A)},l.mapM f=some l'->qfm E place (l'.map fun p=>(p.1,p.2.1,p.2.2.ev s)) (l.map fun p=>(p.1,a.eval p.2))
 | [],l',h=>by simp at h;subst h;simp[qfm]
 | p :: l,l',h=>by
  simp only[List.mapM_cons,bind,Option.bind]at h;cases h1:f p with
  | none=>rw[h1]at h;cases h
  | some q =>
   rw[h1]at h;simp only at h;cases h2:l.mapM f with
   | none=>rw[h2]at h;cases h
   | some qs =>rw[h2]at h;cases h;obtain⟨e1,e2⟩:=hf p q h1;simp only[List.map_cons];unfold qfm;exact⟨_,_,_,rfl,e1,qax hs e2,qlu hs hf h2⟩
theorem qzz{P:Program}:∀(fs:List Go.Field),fs.all (fun f=>(P.info? f.type).isSome)=true->fs.mapM (fun f=>(P.info? f.type).map fun i=>(f.offset,i.size))=some (fs.map fun f=>(f.offset,P.cellsOf f.type))
 | [],_=>rfl
 | f :: fs,h=>by simp only[List.all_cons,jE]at h;obtain⟨i,hi⟩:=Option.isSome_iff_exists.1 h.1;simp[List.mapM_cons,hi,qzz fs h.2,Program.cellsOf]
section
variable{P:Program}{E:Env}(hE:Ok P E){s:List V}{a:Act}(hs:qai E s a.tmps.toList){o:Oper}
include hE hs
theorem zch{t:TypeId}{parts:Array (Nat×Operand)}{zs:List V}{ps:List (Nat×Nat×A)}(ho:o.op=.build t parts)(hz:zeroCells P t=some zs)
  (hp:(∃fs,P.underlying t=some (.struct fs)/\parts.toList.mapM (zix P fs)=some ps/\fs.toList.all (fun f=>(P.info? f.type).isSome)=true)\/(∃n e,P.underlying t=some (.array n e)/\parts.toList.mapM (ziw P e)=some ps/\(P.info? e).isSome=true))
  {r:List V} (hv:qqr zs (ps.map fun p=>(p.1,p.2.1,p.2.2.ev s))=some r):Does P E a o (.agg r) E.h:=by
 obtain⟨i,z,hi,hz0,hzr⟩:=qfx (E:=E) hz;have key:∃r',P.built t (parts.toList.map fun p=>(p.1,a.eval p.2))=some r'/\qai E r r'.toList:=by
  rcases hp with⟨fs,hu,hm,hall⟩ | ⟨n,e,hu,hm,hall⟩
  .have hpl:=qzz fs.toList hall;have hrp:=qlu hs (place:=(((fs.toList.map fun f=>(f.offset,P.cellsOf f.type)).toArray)[·]?)) (f:=zix P fs) (fun p q h=>by
    unfold zix at h;cases hf:fs[p.1]? with
    | none=>rw[hf]at h;cases h
    | some f =>
     rw[hf]at h;cases hc:cA p.2 with
     | none=>simp[hc]at h
     | some x =>simp only[hc,Option.map_some,jC]at h;subst h;refine⟨?_,rfl⟩;simp[hf]) hm
   obtain⟨r',e1,e2⟩:=qof hrp hzr hv;refine⟨r',?_,e2⟩;unfold Program.built;simp only[hi,hu,hz0,hpl];exact e1
  .obtain⟨ie,hie⟩:=Option.isSome_iff_exists.1 hall;have hrp:=qlu hs (place:=fun i=>some (i*ie.size,ie.size)) (f:=ziw P e) (fun p q h=>by
    unfold ziw at h;cases hc:cA p.2 with
    | none=>simp[hc]at h
    | some x =>simp only[hc,Option.map_some,jC]at h;subst h;simp[Program.cellsOf,hie]) hm
   obtain⟨r',e1,e2⟩:=qof hrp hzr hv;refine⟨r',?_,e2⟩;unfold Program.built;simp only[hi,hu,hz0,hie];exact e1
 obtain⟨r',h1,h2⟩:=key;have hb:=Go.run_build (P:=P) E.w t (parts.map fun p=>(p.1,a.eval p.2)) r' (by simpa using h1);refine Does.same hE (u:=.agg r') ?_ (by unfold rel;exact⟨r',rfl,h2⟩);simp[execOp,ho,hb]
end
theorem qsm{n:Nat}:∀{qs:List (Nat×V)} {els els':List (List V)},(∀q∈els,q.length=n)->qsl n els qs=some els' ->
  qqr els.flatten (qs.map fun q=>(q.1*n,n,q.2))=some els'.flatten/\(∀q∈els',q.length=n)/\els'.length=els.length/\∀q∈qs,q.2.cells.all V.pcell=true
 | [],els,els',hn,h=>by simp only[qsl]at h;cases h;exact⟨rfl,hn,rfl,fun q hq=>by cases hq⟩
 | (i,v) :: qs,els,els',hn,h=>by
  simp only[qsl]at h;split at h
  .rename_i hc;obtain⟨h1,h2,h3,h4⟩:=hc;have hn':∀q∈els.set i v.cells,q.length=n:=fun q hq=>by
    rcases jT hq with h | rfl
    .exact hn q h
    .exact h1
   obtain⟨e1,e2,e3,e4⟩:=qsm hn' h;refine⟨?_,e2,by rw[e3];simp,fun q hq=>?_⟩
   .simp only[List.map_cons,qqr];rw[if_pos,q5s hn h1 h4]
    .exact e1
    .refine⟨h1,h2,?_⟩;rw[qau hn];have:(i+1)*n<=els.length*n:=jV n (by omega);rw[Nat.succ_mul]at this;exact this
   .rcases List.mem_cons.1 hq with rfl | hq
    .exact h3
    .exact e4 q hq
  .cases h
theorem qia{E:Env}{n len:Nat}{zs:List V}{z:Array Value}(hz:qai E zs z.toList)(hn:zs.length=n)(h0:0<n) :
  qai E (List.replicate len zs).flatten ((Array.range (len*n)).map (z[· % z.size]!)).toList:=by
 have hl:∀q∈List.replicate len zs,q.length=n:=fun q hq=>by rw[List.eq_of_mem_replicate hq];exact hn
 have hzs:z.size=n:=by have:=qav hz;simp at this;omega
 rw[qlt];refine⟨by rw[qau hl];simp,fun k v u hk hu=>?_⟩;have hk':k<len*n:=by have:=(jG.1 hk).1;rw[qau hl]at this;simpa using this
 have hkm:k % n<n:=Nat.mod_lt k h0;have hkd:k / n<len:=(Nat.div_lt_iff_lt_mul h0).2 hk';have hke:k=(k / n)*n+k % n:=by rw[Nat.mul_comm];exact(Nat.div_add_mod k n).symm
 have hg:(List.replicate len zs)[k / n]?=some zs:=by simp[hkd]
 rw[hke,qgz hl hg hkm]at hk;simp only[Array.toList_map,Array.toList_range,List.getElem?_map,List.getElem?_range hk',Option.map_some,jC]at hu;subst hu;refine(qlt.1 hz).2 (k % n) v _ hk ?_;rw[hzs];simp[hzs,hkm]
theorem q2r{E:Env}{v:V}{u:Value}(h:rel E v u):rel E (qan [] v) u:=by
 cases v<;>try exact h
 case immc els=>exact qqy h
 case nils =>simp only[qan];unfold rel at h ⊢;obtain⟨a,rfl⟩:=h;exact⟨a,0,rfl,jD _,rfl,.inl rfl⟩
 case nilx =>simp only[qan];unfold rel at h ⊢;subst h;exact⟨none,0,rfl,jD _,rfl,.inl rfl⟩
 case sl id g n off len =>simp only[qan,qhg,qpb];unfold rel;trivial
theorem qdj{E:Env}:∀{vs:List V} {us:List Value},qai E vs us->qai E (vs.map (qan [])) us
 | [],_,h=>h
 | v :: vs,us,h=>by unfold qai at h;obtain⟨u,us',rfl,h1,h2⟩:=h;simp only[List.map_cons];unfold qai;exact⟨u,us',rfl,q2r h1,qdj h2⟩
theorem zrw{P:Program}{E:Env}(hE:Ok P E){n:Nat}{els:List (List V)}{cs:Array Value}{ty:TypeId}(hn:∀q∈els,q.length=n)(h0:0<n)(hp:qcc els=true)(hr:qai E els.flatten cs.toList){cap:Nat}(hcap:els.length<=cap) :
  ∃E',Ok P E'/\Ext E E'/\E'.h=E.h/\E'.w=E.w.alloc (.cells cs ty)/\rel E' (.imm els) (.slice (some ⟨E.w.heap.size,0,none⟩) els.length cap):=by
 obtain⟨k1,k2⟩:=qwj hE (Grow.alloc E.w (.cells cs ty)) (S':=fun b=>E.S b\/b=E.w.heap.size) (fun b h=>.inl h) (fun b h=>h.imp (fun h=>h) (fun h=>by subst h;simp));refine⟨_,k1,k2,rfl,rfl,?_⟩;unfold rel;refine⟨_,cap,rfl,hcap,hp,.inr ⟨E.w.heap.size,0,n,rfl,h0,.inr rfl,?_⟩⟩;have hnew:(E.w.alloc (.cells cs ty)).heap[E.w.heap.size]?=some (.cells cs ty (0,0)):=Go.heap_alloc_new _ _;have hlen:=qav hr;rw[qau hn]at hlen;refine qiw (cs:=cs.toList) hn (fun j u hj _=>?_) ?_
 .show(E.w.alloc (.cells cs ty)).cell? ⟨E.w.heap.size,j,none⟩=some u;rw[qdv hnew];simpa using hj
 .rw[hlen,List.take_length];exact qbb hE k2 _ _ hr
theorem qtr:∀{ps:List (Nat×Nat×V)} {cells r:List V},qqr cells ps=some r->r.length=cells.length
 | [],cells,r,h=>by simp only[qqr,jC]at h;rw[h]
 | (off,n,v) :: ps,cells,r,h=>by
  simp only[qqr]at h;split at h
  .rw[qtr h,qiu]
  .cases h
theorem zog{P:Program}{E:Env}(hE:Ok P E){cells:List V}{cs:Array Value}{ty:TypeId}(hr:qai E cells cs.toList) :
  ∃E',Ok P E'/\Ext E E'/\E'.h=E.h/\E'.w=E.w.alloc (.cells cs ty)/\rel E' (.view false cells) (.slice (some ⟨E.w.heap.size,0,none⟩) cells.length cells.length):=by
 obtain⟨k1,k2⟩:=qwj hE (Grow.alloc E.w (.cells cs ty)) (S':=fun b=>E.S b\/b=E.w.heap.size) (fun b h=>.inl h) (fun b h=>h.imp (fun h=>h) (fun h=>by subst h;simp));refine⟨_,k1,k2,rfl,rfl,?_⟩;have hnew:(E.w.alloc (.cells cs ty)).heap[E.w.heap.size]?=some (.cells cs ty (0,0)):=Go.heap_alloc_new _ _;unfold rel;refine⟨E.w.heap.size,0,.inr rfl,qgn (us:=cs.toList) (fun j u hj=>?_) (qbb hE k2 _ _ hr),.inr ⟨rfl,_,rfl,jD _⟩⟩;show(E.w.alloc (.cells cs ty)).cell? ⟨E.w.heap.size,0+j,none⟩=some u;rw[qdv hnew];simpa using hj
theorem qor{E:Env}{n:Nat}:∀{qs:List (Nat×V)} {us:List (Nat×Value)},qs.length=us.length->(∀(i:Nat) q u,qs[i]?=some q->us[i]?=some u->q.1=u.1/\rel E q.2 u.2)->qfm E (fun i=>some (i*n,n)) (qs.map fun q=>(q.1*n,n,q.2)) us
 | [],us,h,_=>by
  cases us with
  | nil=>simp[qfm]
  | cons _ _=>simp at h
 | q :: qs,us,h,k=>by
  cases us with
  | nil=>simp at h
  | cons u us =>obtain⟨e1,e2⟩:=k 0 q u rfl rfl;simp only[List.map_cons];unfold qfm;exact⟨u.1,u.2,us,rfl,by rw[e1],e2,qor (by simpa using h) fun i p v hp hv=>k (i+1) p v (by simpa using hp) (by simpa using hv)⟩
theorem qkt{E:Env}{s:List V}{a:Act}(hs:qai E s a.tmps.toList):∀{l:List (Nat×Operand)} {l':List (Nat×A)},l.mapM qyq=some l'->l'.length=l.length/\∀(i:Nat) p q,l[i]?=some p->l'[i]?=some q->q.1=p.1/\rel E (q.2.ev s) (a.eval p.2)
 | [],l',h=>by simp at h;subst h;exact⟨rfl,fun i p q h=>by simp at h⟩
 | p :: l,l',h=>by
  simp only[List.mapM_cons,bind,Option.bind]at h;cases h1:qyq p with
  | none=>rw[h1]at h;cases h
  | some q =>
   rw[h1]at h;simp only at h;cases h2:l.mapM qyq with
   | none=>rw[h2]at h;cases h
   | some qs =>
    rw[h2]at h;cases h;obtain⟨e1,e2⟩:=qkt hs h2;refine⟨by simp[e1],fun i p' q' hp hq=>?_⟩;cases i with
    | zero =>
     simp at hp hq;subst hp;subst hq;unfold qyq at h1;cases hc:cA p.2 with
     | none=>simp[hc]at h1
     | some x =>simp only[hc,Option.map_some,jC]at h1;subst h1;exact⟨rfl,qax hs hc⟩
    | succ i=>exact e2 i p' q' (by simpa using hp) (by simpa using hq)
theorem q7n(h:H):∀(a b:List V),q7m h (a++b)=q7m (q7m h a) b:=by
 intro a;induction a generalizing h with
 | nil=>intro b;rfl
 | cons v vs ih=>intro b;exact ih (zcm h v) b
theorem zrn(h:H):∀(vs:List V),qyn h vs=q7m h (vs.flatMap V.cells):=by
 intro vs;induction vs generalizing h with
 | nil=>rfl
 | cons v vs ih =>show qyn (zwx h v) vs=_;rw[ih,List.flatMap_cons,q7n];rfl
theorem qwg{P:Program}{E:Env}(hE:Ok P E)(vs:List V):∃E',Ok P E'/\Ext E E'/\E'.h=qyn E.h vs/\E'.w=E.w/\E'.b=E.b/\∀v∈vs,∀c∈v.cells,inS E E'.S c:=by obtain⟨E',a1,a2,a3,a4,a5,a6⟩:=qwf (vs.flatMap V.cells) hE;exact⟨E',a1,a2,by rw[a3,zrn],a4,a5,fun v hv c hc=>a6 c (List.mem_flatMap.2 ⟨v,hv,hc⟩)⟩
theorem q5v{P:Program}{E E':Env}(hE:Ok P E)(hw:E'.w=E.w)(hS:∀b,E.S b->E'.S b){v:V}{u:Value}(h:rel E v u)(hi:∀c∈v.cells,inS E E'.S c)(hp:(qfn E.h v).cells.all V.pcell=true):rel E' (qfn E.h v) u:=by
 cases v
 case agg cs =>unfold rel at h;obtain⟨us,rfl,hl⟩:=h;simp only[qfn]at hp ⊢;unfold rel;exact⟨us,rfl,qsy hE hw hS hl hi hp⟩
 case tup vs=>simp[qfn,V.cells,V.pcell]at hp
 case sl id g m off len =>exact qeb (n:=0) (E:=⟨E.b,E'.S,E.h,E.w⟩) (E':=E') ⟨hw,fun _ h=>h,fun i hi=>absurd hi (Nat.not_lt_zero _)⟩ _ _ (qfy E.h (.sl id g m off len) (.inr ⟨id,g,m,off,len,rfl⟩)) (qii hE hS h (hi _ (by simp[V.cells])))
 all_goals
  refine qeb (n:=0) (E:=⟨E.b,E'.S,E.h,E.w⟩) (E':=E') ⟨hw,fun _ h=>h,fun i hi=>absurd hi (Nat.not_lt_zero _)⟩ _ _ ?_ (qii hE hS h (hi _ (by simp[V.cells])))
  first
   | rfl
   | (exfalso;simp[qfn,qan,V.cells,V.pcell]at hp;done)
   | (simp only[qfn,qan,V.cells,V.pcell,List.all_cons,List.all_nil,Bool.and_true,jE]at hp;simp[qfn,qan,V.low,hp])
section
variable{P:Program}{E:Env}(hE:Ok P E){s:List V}{a:Act}(hs:qai E s a.tmps.toList){o:Oper}
include hE hs
theorem zhy{t e:TypeId}{len:Nat}{parts:Array (Nat×Operand)}{zs:List V}{ps:List (Nat×A)}(ho:o.op=.buildSlice t len parts)(ht:P.underlying t=some (.slice e))(hz:zeroCells P e=some zs)(hm:parts.toList.mapM qyq=some ps)
  (hn0:P.cellsOf e≠0) (hl0:len≠0) (hzl:zs.length=P.cellsOf e) (hlen:len*P.cellsOf e<=2 ^ 20) (E1:Env) (g:V->V) (els:List (List V)) (k1:Ok P E1) (k2:Ext E E1) (kw:E1.w=E.w)
  (kr:∀(j:Nat) p q,parts.toList[j]?=some p->ps[j]?=some q->(g (q.2.ev s)).cells.all V.pcell=true->rel E1 (g (q.2.ev s)) (a.eval p.2))
  (hf:qsl (P.cellsOf e) (List.replicate len (zs.map (qan []))) (ps.map fun p=>(p.1,g (p.2.ev s)))=some els) (hp:qcc els=true) {v:V} (hv:v=.imm els\/v=.immc els):Does P E a o v E1.h:=by
 obtain⟨i,z,hi,hz0,hzr⟩:=qfx (E:=E) hz;obtain⟨hpl,hpr⟩:=qkt hs hm;have hisz:i.size=P.cellsOf e:=by simp[Program.cellsOf,hi]
 have hrl:∀q∈List.replicate len (zs.map (qan [])),q.length=P.cellsOf e:=fun q hq=>by rw[List.eq_of_mem_replicate hq];simpa using hzl
 obtain⟨f1,f2,f3,f4⟩:=qsm hrl hf;have hparts:qfm E1 (fun i=>some (i*P.cellsOf e,P.cellsOf e)) ((ps.map fun p=>(p.1,g (p.2.ev s))).map fun q=>(q.1*P.cellsOf e,P.cellsOf e,q.2)) (parts.toList.map fun p=>(p.1,a.eval p.2)):=by refine qor (by simp[hpl]) fun j q u hq hu=>?_;simp only[List.getElem?_map,jM]at hq hu;obtain⟨q0,hq0,rfl⟩:=hq;obtain⟨p0,hp0,rfl⟩:=hu;refine⟨(hpr j p0 q0 hp0 hq0).1,kr j p0 q0 hp0 hq0 ?_⟩;exact f4 (q0.1,g (q0.2.ev s)) (List.mem_map.2 ⟨q0,jR hq0,rfl⟩)
 have hzr1:=qia (E:=E1) (len:=len) (n:=P.cellsOf e) (zs:=zs.map (qan [])) (z:=z.cells) (qdj (qbb hE k2 _ _ hzr)) (by simpa using hzl) (by omega);obtain⟨cs,c1,c2⟩:=qof hparts hzr1 f1;obtain⟨E2,m1,m2,m3,m4,m5⟩:=zrw k1 (n:=P.cellsOf e) (els:=els) (cs:=cs) (ty:=e) f2 (by omega) hp c2 (cap:=len) (by rw[f3];simp);have hels:els.length=len:=by rw[f3];simp
 have m6:rel E2 v (.slice (some ⟨E1.w.heap.size,0,none⟩) els.length len):=by
  rcases hv with rfl | rfl
  .exact m5
  .unfold rel at m5 ⊢;obtain⟨a,cap,q1,q2,q3,q4⟩:=m5;cases q1;exact⟨_,by rw[hels],q3,q4⟩
 refine⟨E2,m1,k2.trans m2,m3,_,?_,.inl ⟨_,rfl,m6⟩⟩;rw[m4,kw,hels];have hb:=Go.run_buildSlice (P:=P) E.w t e len (parts.map fun p=>(p.1,a.eval p.2)) cs i z ht hi hz0 (by rw[hisz];omega) (by rw[hisz];simp only[Nat.mul_eq_zero,not_or];exact⟨hl0,hn0⟩) (by rw[hisz];simpa using c1);simp[execOp,ho,hb]
theorem zlz{t e:TypeId}{len:Nat}{parts:Array (Nat×Operand)}{zs:List V}{ps:List (Nat×A)}(ho:o.op=.buildSlice t len parts)(ht:P.underlying t=some (.slice e))(hz:zeroCells P e=some zs)(hm:parts.toList.mapM qyq=some ps)
  (hlen:len*P.cellsOf e<=2 ^ 20) (hn0:P.cellsOf e≠0) (hl0:len≠0) (hzl:zs.length=P.cellsOf e) {v:V} {h':H} (hv:exO (.lit (P.cellsOf e) (zs.map (qan [])) len ps) s E.h=some (v,h')):Does P E a o v h':=by
 simp only[exO]at hv;obtain⟨hpl,hpr⟩:=qkt hs hm;split at hv
 .rename_i els hf;split at hv
  .rename_i hp;cases hv;exact zhy hE hs ho ht hz hm hn0 hl0 hzl hlen E (fun v=>v) els hE (Ext.refl E) rfl (fun j p q hp' hq' _=>(hpr j p q hp' hq').2) hf hp (.inr rfl)
  .cases hv
 .cases hv
theorem q7f{t e:TypeId}{len:Nat}{parts:Array (Nat×Operand)}{zs:List V}{ps:List (Nat×A)}{fz:Bool}(ho:o.op=.buildSlice t len parts)(ht:P.underlying t=some (.slice e))(hz:zeroCells P e=some zs)(hm:parts.toList.mapM qyq=some ps)
  (hlen:len*P.cellsOf e<=2 ^ 20) (hn0:P.cellsOf e≠0) (hl0:len≠0) (hzl:zs.length=P.cellsOf e) {v:V} {h':H} (hv:exO (.bslice fz (P.cellsOf e) (zs.map (qan [])) len ps) s E.h=some (v,h')):Does P E a o v h':=by
 simp only[exO,if_neg hl0]at hv;obtain⟨i,z,hi,hz0,hzr⟩:=qfx (E:=E) hz;obtain⟨hpl,hpr⟩:=qkt hs hm;have hisz:i.size=P.cellsOf e:=by simp[Program.cellsOf,hi]
 have key:∀(E1:Env) (g:V->V) (els:List (List V)),Ok P E1->Ext E E1->E1.w=E.w->(∀(j:Nat) p q,parts.toList[j]?=some p->ps[j]?=some q->(g (q.2.ev s)).cells.all V.pcell=true->rel E1 (g (q.2.ev s)) (a.eval p.2)) ->
   qsl (P.cellsOf e) (List.replicate len (zs.map (qan []))) (ps.map fun p=>(p.1,g (p.2.ev s)))=some els->qcc els=true->Does P E a o (.imm els) E1.h :=
  fun E1 g els k1 k2 kw kr hf hp=>zhy hE hs ho ht hz hm hn0 hl0 hzl hlen E1 g els k1 k2 kw kr hf hp (.inl rfl)
 cases fz with
 | true =>
  simp only[if_true]at hv;cases hf:qsl (P.cellsOf e) (List.replicate len (zs.map (qan []))) (ps.map fun p=>(p.1,qfn E.h (p.2.ev s)))with
  | none=>rw[hf]at hv;cases hv
  | some els =>
   rw[hf]at hv;simp only at hv;split at hv
   .rename_i hp;cases hv;obtain⟨E1,b1,b2,b3,b4,b5,b6⟩:=qwg hE (ps.map fun p=>p.2.ev s);have:=key E1 (qfn E.h) els b1 b2 b4 (fun j p q hp' hq' hpc=>q5v hE b4 b2.S (hpr j p q hp' hq').2 (fun c hc=>b6 _ (List.mem_map.2 ⟨q,jR hq',rfl⟩) c hc) hpc) hf hp;rw[b3]at this;exact this
   .cases hv
 | false =>
  simp only[Bool.false_eq_true,if_false]at hv;cases hf:qsl (P.cellsOf e) (List.replicate len (zs.map (qan []))) (ps.map fun p=>(p.1,p.2.ev s))with
  | none =>
   rw[hf]at hv;simp only at hv;split at hv
   .rename_i hn1;split at hv
    .rename_i cells hfc;cases hv;have hrl:∀q∈List.replicate len (zs.map (qan [])),q.length=P.cellsOf e:=fun q hq=>by rw[List.eq_of_mem_replicate hq];simpa using hzl
     have hparts:qfm E (fun i=>some (i*P.cellsOf e,P.cellsOf e)) ((ps.map fun p=>(p.1,p.2.ev s)).map fun q=>(q.1*P.cellsOf e,P.cellsOf e,q.2)) (parts.toList.map fun p=>(p.1,a.eval p.2)):=by refine qor (by simp[hpl]) fun j q u hq hu=>?_;simp only[List.getElem?_map,jM]at hq hu;obtain⟨q0,hq0,rfl⟩:=hq;obtain⟨p0,hp0,rfl⟩:=hu;exact hpr j p0 q0 hp0 hq0
     have hzr1:=qia (E:=E) (len:=len) (n:=P.cellsOf e) (zs:=zs.map (qan [])) (z:=z.cells) (qdj hzr) (by simpa using hzl) (by omega);have hfc':qqr (List.replicate len (zs.map (qan []))).flatten ((ps.map fun p=>(p.1,p.2.ev s)).map fun q=>(q.1*P.cellsOf e,P.cellsOf e,q.2))=some cells:=by rw[List.map_map];exact hfc
     obtain⟨cs,c1,c2⟩:=qof hparts hzr1 hfc';obtain⟨E2,m1,m2,m3,m4,m5⟩:=zog hE (ty:=e) c2;have hcl:cells.length=len:=by have h1:=qav c2;have h2:=qtr hfc';rw[h2,qau hrl,hn1];simp
     refine⟨E2,m1,m2,m3,_,?_,.inl ⟨_,rfl,m5⟩⟩;rw[m4,hcl];have hb:=Go.run_buildSlice (P:=P) E.w t e len (parts.map fun p=>(p.1,a.eval p.2)) cs i z ht hi hz0 (by rw[hisz];omega) (by rw[hisz];simp only[Nat.mul_eq_zero,not_or];exact⟨hl0,hn0⟩) (by rw[hisz];simpa using c1);simp[execOp,ho,hb]
    .cases hv
   .cases hv
  | some els =>
   rw[hf]at hv;simp only at hv;split at hv
   .rename_i hp;cases hv;exact key E (fun v=>v) els hE (Ext.refl E) rfl (fun j p q hp' hq' _=>(hpr j p q hp' hq').2) hf hp
   .cases hv
end
theorem q1k(g:Nat){P:Program}{E:Env}(hE:Ok P E){n C:Nat}{els:List (List V)}{cs:Array Value}{ty:TypeId}{w':World}(hg:Grow E.w w')(hnew:w'.heap[E.w.heap.size]?=some (.cells cs ty (0,0)))(hn:∀q∈els,q.length=n)(h0:0<n)(hp:qcc els=true)
  (hsz:cs.size=C*n) (hle:els.length<=C) (hr:qai E els.flatten (cs.toList.take (els.length*n))) :
  ∃E',Ok P E'/\Ext E E'/\E'.h=E.h++[⟨g,.arr n els⟩]/\E'.w=w'/\rel E' (.sl E.h.length g n 0 els.length) (.slice (some ⟨E.w.heap.size,0,none⟩) els.length C):=by
 obtain⟨k1,k2⟩:=qhd hE hg ⟨g,.arr n els⟩ (some (E.w.heap.size,C,0)) (by intro b D h;cases h;exact⟨jD _,qea hnew⟩) (fun x=>by
  unfold qej;refine⟨hp,.inr ⟨E.w.heap.size,(C,0),cs,ty,by simp,fun h=>by have:=hE.S _ h;omega,hnew,h0,by simpa using hsz,hle,?_⟩⟩;rw[show((C,0):Nat×Nat).2*n=0 from Nat.zero_mul n];refine qiw (cs:=cs.toList) hn (fun j u hj _=>?_) (qbb hE x _ _ hr);show w'.cell? ⟨E.w.heap.size,j,none⟩=some u;rw[qdv hnew];simpa using hj)
 refine⟨_,k1,k2,rfl,rfl,?_⟩;unfold rel;refine⟨by simp,by simp[qgr],_,_,rfl,hle,(fun h=>by cases h),(fun y hy _=>by cases hy;rfl),fun o ho _ _=>?_⟩;simp at ho;subst ho;exact⟨by simp[qmh],by simp[qcl],.inr ⟨E.w.heap.size,(C,0),0,by simp,rfl,by simp,fun _=>by simp⟩⟩
theorem zat(g:Nat){P:Program}{E:Env}(hE:Ok P E){n C:Nat}{els:List (List V)}{cs:Array Value}{ty:TypeId}{w':World}(hg:Grow E.w w')(hnew:w'.heap[E.w.heap.size]?=some (.cells cs ty (0,0)))(hn:∀q∈els,q.length=n)(h0:0<n)
  (hsz:cs.size=C*n) (hle:els.length<=C) (hr:qai E els.flatten (cs.toList.take (els.length*n))) :
  ∃E',Ok P E'/\Ext E E'/\E'.h=E.h++[⟨g,.nst n els⟩]/\E'.w=w'/\rel E' (.sl E.h.length g n 0 els.length) (.slice (some ⟨E.w.heap.size,0,none⟩) els.length C):=by
 obtain⟨k1,k2⟩:=qhd hE hg ⟨g,.nst n els⟩ (some (E.w.heap.size,C,0)) (by intro b D h;cases h;exact⟨jD _,qea hnew⟩) (fun x=>by
  unfold qej;refine .inr ⟨E.w.heap.size,(C,0),cs,ty,by simp,fun h=>by have:=hE.S _ h;omega,hnew,h0,by simpa using hsz,hle,?_⟩;rw[show((C,0):Nat×Nat).2*n=0 from Nat.zero_mul n];refine qiw (cs:=cs.toList) hn (fun j u hj _=>?_) (qbb hE x _ _ hr);show w'.cell? ⟨E.w.heap.size,j,none⟩=some u;rw[qdv hnew];simpa using hj)
 refine⟨_,k1,k2,rfl,rfl,?_⟩;unfold rel;refine⟨by simp,by simp[qgr],_,_,rfl,hle,(fun h=>by cases h),(fun y hy _=>by cases hy;rfl),fun o ho _ _=>?_⟩;simp at ho;subst ho;exact⟨by simp[qmh],by simp[qcl],.inr ⟨E.w.heap.size,(C,0),0,by simp,rfl,by simp,fun _=>by simp⟩⟩
theorem q6z{P:Program}{E:Env}(hE:Ok P E){n C:Nat}{els:List (List V)}{cs:Array Value}{ty:TypeId}{w':World}(hg:Grow E.w w')(hnew:w'.heap[E.w.heap.size]?=some (.cells cs ty (0,0)))(hn:∀q∈els,q.length=n)(h0:0<n)(hp:qcc els=true)
  (hsz:cs.size=C*n) (hle:els.length<=C) (hr:qai E els.flatten (cs.toList.take (els.length*n))) :
  ∃E',Ok P E'/\Ext E E'/\E'.h=E.h++[⟨0,.arr n els⟩]/\E'.w=w'/\rel E' (.sl E.h.length 0 n 0 els.length) (.slice (some ⟨E.w.heap.size,0,none⟩) els.length C):=q1k 0 hE hg hnew hn h0 hp hsz hle hr
theorem qna{k:Nat}{r:List V}(h:r.all V.pcell=true):qcc (List.replicate k r)=true:=by simp only[qcc,jP];intro q hq;rw[List.eq_of_mem_replicate hq];simpa[jP]using h
theorem qmt(z:Array Value)(n:Nat):Go.madeCells z n=(Array.range n).map (z[· % z.size]!):=rfl
section
variable{P:Program}{E:Env}(hE:Ok P E){s:List V}{a:Act}(hs:qai E s a.tmps.toList){o:Oper}
include hE hs
theorem q4f{t e:TypeId}{l c:Operand}{l' c':A}{zs:List V}(ho:o.op=.makeSlice t l c)(ht:P.underlying t=some (.slice e))(hz:zeroCells P e=some zs)(hn0:P.cellsOf e≠0)(hzl:zs.length=P.cellsOf e)(h1:cA l=some l')(h2:cA c=some c')
  {v:V} {h':H} (hv:exO (.mkslice (P.cellsOf e) (P.bytesOf e) (zs.map (qan [])) l' c') s E.h=some (v,h')):Does P E a o v h':=by
 obtain⟨i,z,hi,hz0,hzr⟩:=qfx (E:=E) hz;have hisz:i.size=P.cellsOf e:=by simp[Program.cellsOf,hi]
 have hib:i.bytes=P.bytesOf e:=by simp[Program.bytesOf,hi]
 simp only[exO]at hv;cases hl:qqj (l'.ev s)with
 | none=>rw[hl]at hv;cases hv
 | some m =>
  cases hc:qqj (c'.ev s)with
  | none=>rw[hl,hc]at hv;cases hv
  | some k =>
   rw[hl,hc]at hv;simp only at hv;split at hv
   .rename_i hcond;obtain⟨hmk,hkb,hpz,hk62⟩:=hcond;cases hv;obtain⟨ql,il,e1,e2,e3⟩:=qeu hl;obtain⟨qc,ic,f1,f2,f3⟩:=qeu hc;have r1:=qax hs h1;have r2:=qax hs h2;rw[e1]at r1;rw[f1]at r2;unfold rel at r1 r2;have hrun:=Go.run_make (P:=P) E.w t e i z ht hi hz0 ql qc il ic e2 (by omega) (by
     have:((k*i.bytes:Nat):Int)<=281474976710656:=by rw[hib];omega
     rw[Int.natCast_mul]at this;rw[Int.mul_comm];have hk:ic=(k:Int):=by omega
     rw[hk];exact this) (by omega)
    have hrl:∀q∈List.replicate m (zs.map (qan [])),q.length=P.cellsOf e:=fun q hq=>by rw[List.eq_of_mem_replicate hq];simpa using hzl
    have hzm:=qia (E:=E) (len:=k) (n:=P.cellsOf e) (zs:=zs.map (qan [])) (z:=z.cells) (qdj hzr) (by simpa using hzl) (by omega);have htake:qai E (List.replicate m (zs.map (qan []))).flatten ((Go.madeCells z.cells (k*P.cellsOf e)).toList.take (m*P.cellsOf e)):=by
     have h3:=qhs (m*P.cellsOf e) hzm;rw[qmt];have:(List.replicate k (zs.map (qan []))).flatten.take (m*P.cellsOf e)=(List.replicate m (zs.map (qan []))).flatten:=by rw[show k=m+(k-m)by omega,<-List.replicate_append_replicate,jZ,List.take_append_of_le_length (by rw[qau hrl];simp),kB (by rw[qau hrl];simp)]
     rw[this]at h3;exact h3
    obtain⟨E',k1,k2,k3,k4,k5⟩:=q1k 1 hE (n:=P.cellsOf e) (C:=k) (els:=List.replicate m (zs.map (qan []))) (Grow.alloc E.w (.cells (Go.madeCells z.cells (k*P.cellsOf e)) e)) (Go.heap_alloc_new _ _) hrl (by omega) (qna hpz)
     (by rw[Go.size_madeCells]) (by simpa using hmk) (by simpa using htake)
    refine⟨E',k1,k2,k3,_,?_,.inl ⟨_,rfl,by simpa using k5⟩⟩;rw[k4];rw[hisz]at hrun;simp[execOp,ho,r1,r2,hrun,e3,f3]
   .cases hv
theorem zcj{t e:TypeId}{l c:Operand}{l' c':A}{zs:List V}(ho:o.op=.makeSlice t l c)(ht:P.underlying t=some (.slice e))(hz:zeroCells P e=some zs)(hn0:P.cellsOf e≠0)(hzl:zs.length=P.cellsOf e)(h1:cA l=some l')(h2:cA c=some c')
  {v:V} {h':H} (hv:exO (.mknst (P.cellsOf e) (P.bytesOf e) zs l' c') s E.h=some (v,h')):Does P E a o v h':=by
 obtain⟨i,z,hi,hz0,hzr⟩:=qfx (E:=E) hz;have hisz:i.size=P.cellsOf e:=by simp[Program.cellsOf,hi]
 have hib:i.bytes=P.bytesOf e:=by simp[Program.bytesOf,hi]
 simp only[exO]at hv;cases hl:qqj (l'.ev s)with
 | none=>rw[hl]at hv;cases hv
 | some m =>
  cases hc:qqj (c'.ev s)with
  | none=>rw[hl,hc]at hv;cases hv
  | some k =>
   rw[hl,hc]at hv;simp only at hv;split at hv
   .rename_i hcond;obtain⟨hmk,hkb,hpz,hk62⟩:=hcond;cases hv;obtain⟨ql,il,e1,e2,e3⟩:=qeu hl;obtain⟨qc,ic,f1,f2,f3⟩:=qeu hc;have r1:=qax hs h1;have r2:=qax hs h2;rw[e1]at r1;rw[f1]at r2;unfold rel at r1 r2;have hrun:=Go.run_make (P:=P) E.w t e i z ht hi hz0 ql qc il ic e2 (by omega) (by
     have:((k*i.bytes:Nat):Int)<=281474976710656:=by rw[hib];omega
     rw[Int.natCast_mul]at this;rw[Int.mul_comm];have hk:ic=(k:Int):=by omega
     rw[hk];exact this) (by omega)
    have hrl:∀q∈List.replicate m zs,q.length=P.cellsOf e:=fun q hq=>by rw[List.eq_of_mem_replicate hq];exact hzl
    have hzm:=qia (E:=E) (len:=k) (n:=P.cellsOf e) (zs:=zs) (z:=z.cells) hzr hzl (by omega);have htake:qai E (List.replicate m zs).flatten ((Go.madeCells z.cells (k*P.cellsOf e)).toList.take (m*P.cellsOf e)):=by
     have h3:=qhs (m*P.cellsOf e) hzm;rw[qmt];have:(List.replicate k zs).flatten.take (m*P.cellsOf e)=(List.replicate m zs).flatten:=by rw[show k=m+(k-m)by omega,<-List.replicate_append_replicate,jZ,List.take_append_of_le_length (by rw[qau hrl];simp),kB (by rw[qau hrl];simp)]
     rw[this]at h3;exact h3
    obtain⟨E',k1,k2,k3,k4,k5⟩:=zat 1 hE (n:=P.cellsOf e) (C:=k) (els:=List.replicate m zs) (Grow.alloc E.w (.cells (Go.madeCells z.cells (k*P.cellsOf e)) e)) (Go.heap_alloc_new _ _) hrl (by omega)
     (by rw[Go.size_madeCells]) (by simpa using hmk) (by simpa using htake)
    refine⟨E',k1,k2,k3,_,?_,.inl ⟨_,rfl,by simpa using k5⟩⟩;rw[k4];rw[hisz]at hrun;simp[execOp,ho,r1,r2,hrun,e3,f3]
   .cases hv
theorem zmb{t e:TypeId}{len:Nat}{parts:Array (Nat×Operand)}{zs:List V}{ps:List (Nat×A)}(ho:o.op=.buildSlice t len parts)(ht:P.underlying t=some (.slice e))(hz:zeroCells P e=some zs)(hm:parts.toList.mapM qyq=some ps)
  (hlen:len*P.cellsOf e<=2 ^ 20) (hn0:P.cellsOf e≠0) (hzl:zs.length=P.cellsOf e) {v:V} {h':H} (hv:exO (.own (P.cellsOf e) (zs.map (qan [])) len ps) s E.h=some (v,h')):Does P E a o v h':=by
 simp only[exO]at hv;obtain⟨i,z,hi,hz0,hzr⟩:=qfx (E:=E) hz;obtain⟨hpl,hpr⟩:=qkt hs hm;have hisz:i.size=P.cellsOf e:=by simp[Program.cellsOf,hi]
 split at hv
 .rename_i els hf;split at hv
  .rename_i hc;obtain⟨hl0,hp⟩:=hc;cases hv;obtain⟨E1,b1,b2,b3,b4,b5,b6⟩:=qwg hE (ps.map fun p=>p.2.ev s);have hrl:∀q∈List.replicate len (zs.map (qan [])),q.length=P.cellsOf e:=fun q hq=>by rw[List.eq_of_mem_replicate hq];simpa using hzl
   obtain⟨f1,f2,f3,f4⟩:=qsm hrl hf;have hparts:qfm E1 (fun i=>some (i*P.cellsOf e,P.cellsOf e)) ((ps.map fun p=>(p.1,qfn E.h (p.2.ev s))).map fun q=>(q.1*P.cellsOf e,P.cellsOf e,q.2)) (parts.toList.map fun p=>(p.1,a.eval p.2)):=by refine qor (by simp[hpl]) fun j q u hq hu=>?_;simp only[List.getElem?_map,jM]at hq hu;obtain⟨q0,hq0,rfl⟩:=hq;obtain⟨p0,hp0,rfl⟩:=hu;refine⟨(hpr j p0 q0 hp0 hq0).1,?_⟩;exact q5v hE b4 b2.S (hpr j p0 q0 hp0 hq0).2 (fun c hc=>b6 _ (List.mem_map.2 ⟨q0,jR hq0,rfl⟩) c hc) (f4 (q0.1,qfn E.h (q0.2.ev s)) (List.mem_map.2 ⟨q0,jR hq0,rfl⟩))
   have hzr1:=qia (E:=E1) (len:=len) (n:=P.cellsOf e) (zs:=zs.map (qan [])) (z:=z.cells) (qdj (qbb hE b2 _ _ hzr)) (by simpa using hzl) (by omega);obtain⟨cs,c1,c2⟩:=qof hparts hzr1 f1;have hels:els.length=len:=by rw[f3];simp
   have hcl:cs.toList.length=els.length*P.cellsOf e:=by have:=qav c2;rw[qau f2]at this;exact this.symm
   obtain⟨E2,m1,m2,m3,m4,m5⟩:=q1k 0 b1 (n:=P.cellsOf e) (C:=len) (els:=els) (cs:=cs) (ty:=e) (Grow.alloc E1.w (.cells cs e)) (Go.heap_alloc_new _ _) f2 (by omega) hp (by rw[<-hels,<-hcl];simp) (by omega) (by rw[<-hcl,List.take_length];exact c2);rw[hels]at m5;refine⟨E2,m1,b2.trans m2,by rw[m3,b3],_,?_,.inl ⟨_,rfl,by rw[<-b3];exact m5⟩⟩;rw[m4,b4];have hb:=Go.run_buildSlice (P:=P) E.w t e len (parts.map fun p=>(p.1,a.eval p.2)) cs i z ht hi hz0 (by rw[hisz];omega) (by rw[hisz];simp only[Nat.mul_eq_zero,not_or];exact⟨hl0,hn0⟩) (by rw[hisz];simpa using c1);simp[execOp,ho,hb]
  .cases hv
 .cases hv
end
open Go (World Value Addr Obj Program Act Operand Oper Op Sem Result Next undef execOp TypeId TypeDesc Builtin.append_ Builtin.firstCells TypeInfo)
structure Ap(P:Program)(t u ty e:TypeId)(i:TypeInfo)(x:Value)(n:Nat)(news:List Value)(w:World):Prop where
 room:∀b off sLen sCap w',sLen+n<=sCap->(Go.storeCells ⟨b,off+sLen*i.size,none⟩ news 0).run P w=.ok () w' ->
  (Builtin.append_ #[t,u] ty #[.slice (some ⟨b,off,none⟩) sLen sCap,x]).run P w=.ok (.slice (some ⟨b,off,none⟩) (sLen+n) sCap) w'
 none:n=0->∀base sLen sCap,sLen<=sCap->(Builtin.append_ #[t,u] ty #[.slice base sLen sCap,x]).run P w=.ok (.slice base sLen sCap) w
 grow:∀base sLen sCap (olds:List Value),(Builtin.firstCells i.size sLen (.slice base sLen sCap)).run P w.drew=.ok olds.toArray w.drew->sCap<sLen+n->(sLen+n)*i.bytes<=2 ^ 47 ->
  ∃C cs,(Builtin.append_ #[t,u] ty #[.slice base sLen sCap,x]).run P w=.ok (.slice (some ⟨w.heap.size,0,Option.none⟩) (sLen+n) C) (w.drew.alloc (.cells cs e)) /\
   sLen+n<=C/\cs.size=olds.length+news.length+(C-(sLen+n))*i.size/\∀(j:Nat) (v:Value),(olds++news)[j]?=some v->cs[j]?=some v
 len:news.length=n*i.size
theorem q1z{olds news:List Value}{z:Array Value}{j:Nat}{v:Value}(h:(olds++news)[j]?=some v):((olds++news).toArray++z)[j]?=some v:=by have hlt:=(jG.1 h).1;rw[Array.getElem?_append_left (by simpa using hlt)];simpa using h
theorem zsa{n b:Nat}(hb:b≠0)(h:n*b<=2 ^ 47):n<=2 ^ 47:=by have:n*1<=n*b:=Nat.mul_le_mul_left n (by omega);omega
theorem qup{P:Program}{t u ty e e':TypeId}{i:TypeInfo}{z:Value}(ht:P.underlying t=some (.slice e))(hu:P.underlying u=some (.slice e'))(hi:P.info? e=some i)(hz:i.zero=some z)(hzs:z.cells.size=i.size)(hb:i.bytes≠0){w:World}
  {a:Option Addr} {n cap:Nat} {news:List Value} (hl:news.length=n*i.size) (hc:news=[]\/∃b o,a=some ⟨b,o,none⟩/\∀(j:Nat) (v:Value),news[j]?=some v->w.cell? ⟨b,o+j,none⟩=some v) (h1:∀v∈news,v.oneCell'=true) (hn:n=0\/a≠none) :
  Ap P t u ty e i (.slice a n cap) n news w:=by
 have hs:Go.Src P i.size u (.slice a n cap) n news w:=by
  cases a with
  | none =>
   have:n=0:=hn.resolve_right (fun h=>h rfl);subst this;have:news=[]:=by simpa using hl
   subst this;exact Go.Src.ofNil (P:=P) w hu cap
  | some a =>
   refine Go.Src.ofSlice (P:=P) w hu a n cap news hl ?_ h1;rcases hc with rfl | ⟨b,o,hab,hcc⟩
   .intro j v h;simp at h
   .cases hab;intro j v h;rw[qcm];exact hcc j v h
 constructor
 .intro b off sLen sCap w' hr hst;rcases hs.kind with⟨e',hk⟩ | hk<;>simp[Builtin.append_,Go.run_underlying ht,Go.run_underlying hk,Go.sizeOf,Go.typeInfo,hi,hs.len,hr,hs.cells,Go.Addr.add_lit,hst]
 .intro h0 base sLen sCap hle;subst h0;have:news=[]:=by simpa using hl
  subst this;exact Go.run_append_nothing (P:=P) w t u ty e i ht hi base sLen sCap hle _ hs
 .intro base sLen sCap olds hold hg hfit;have h47:=zsa hb hfit;refine⟨_,_,Go.run_append_grow_src (P:=P) w t u ty e i z ht hi hz base sLen sCap olds hold _ n news hs hg (by omega) (Go.growslice_fits hg (by omega)),Go.grownCap_ge _ _ _ _,?_,?_⟩
  .simp only[Array.size_append,Go.size_zeroCells,hzs];simp
  .intro j v h;exact q1z h
 .exact hl
theorem zlb{P:Program}{t u ty e:TypeId}{i:TypeInfo}{z:Value}{kn kq:Go.IntKind}(ht:P.underlying t=some (.slice e))(hu:P.underlying u=some (.int kn))(hi:P.info? e=some i)(hz:i.zero=some z)(hzs:z.cells.size=i.size)(hb:i.bytes≠0)(h0:0<i.size){w:World}
  {n:Nat} (hn:n*i.bytes<=2 ^ 47):Ap P t u ty e i (.int kq n) n (Go.Builtin.zeroCells z.cells n).toList w:=by
 have h47:=zsa hb hn;have hw:Go.IntKind.i64.wrap (n:Int)=n:=by rw[Go.IntKind.wrap_i64];omega
 have hneg:¬((n:Int)<0):=by omega
 have h48i:¬(281474976710656<(n:Int)*(i.bytes:Int)):=by rw[<-Int.natCast_mul];omega
 have hw0:Go.IntKind.i64.wrap 0=0:=by rw[Go.IntKind.wrap_i64];omega
 constructor
 .intro b off sLen sCap w' hr hst;by_cases hn0:n=0
  .subst hn0;have hr':sLen<=sCap:=by omega
   have:Go.Builtin.zeroCells z.cells 0=#[]:=by simp[Go.Builtin.zeroCells]
   rw[this]at hst;simp[Builtin.append_,Go.run_underlying ht,Go.run_underlying hu,Go.sizeOf,Go.typeInfo,hi,hr',Go.asInt,Go.asIntOf,hw0,Go.Addr.add_lit];rw[hst];simp
  .have hns:¬(n*i.size=0):=Nat.mul_ne_zero hn0 (by omega);simp[Builtin.append_,Go.run_underlying ht,Go.run_underlying hu,Go.sizeOf,Go.typeInfo,Go.zeroValue,hi,hz,hr,Go.asInt,Go.asIntOf,hw,hneg,h48i,hns,Go.Addr.add_lit,hst]
 .intro h0' base sLen sCap hle;subst h0';cases base<;>simp[Builtin.append_,Go.run_underlying ht,Go.run_underlying hu,Go.sizeOf,Go.typeInfo,hi,hle,Go.asInt,Go.asIntOf,Go.storeCells,hw0]
 .intro base sLen sCap olds hold hg hfit;have h47:=zsa hb hfit;by_cases hn0:n=0
  .-- more than there is room for,though nothing is appended: the length is more than the capacity
   subst hn0;have hle:¬(sLen<=sCap):=by omega
   have h63:¬(9223372036854775807<(sLen:Int)):=by omega
   have hns:=Go.growslice_fits (need:=sLen) (old:=sCap) (bytes:=i.bytes) (by omega) (by simpa using hfit);have h48':¬(281474976710656<Go.Builtin.nextslicecap sLen sCap*i.bytes):=by omega
   refine⟨Go.grownCap w (sLen+0) sCap e,(olds++(Go.Builtin.zeroCells z.cells 0).toList).toArray++Go.Builtin.zeroCells z.cells (Go.grownCap w (sLen+0) sCap e-(sLen+0)),?_,Go.grownCap_ge _ _ _ _,?_,fun j v h=>q1z h⟩
   .simp[Builtin.append_,Go.run_underlying ht,Go.run_underlying hu,Go.sizeOf,Go.typeInfo,Go.zeroValue,hi,hz,Go.asInt,Go.asIntOf,hw0,hle,h63,h48',Go.Question.forced,hold,Go.newRow,Go.grownCap,Go.Builtin.zeroCells]
   .simp only[Array.size_append,Go.size_zeroCells,hzs];simp
  .refine⟨_,_,Go.Lib.run_append_grow_zeros (P:=P) w t u ty e i z kq kn ht hu hi hz base sLen sCap olds hold n (by omega) h0 hg (by omega) (by omega) (Go.growslice_fits hg (by omega)),Go.grownCap_ge _ _ _ _,?_,?_⟩
   .simp only[Array.size_append,Go.size_zeroCells,hzs];simp[Go.size_zeroCells,hzs]
   .intro j v h;have:=q1z (z:=Go.Builtin.zeroCells z.cells (Go.grownCap w (sLen+n) sCap e-(sLen+n))) h;rw[show olds.toArray++Go.Builtin.zeroCells z.cells n=(olds++(Go.Builtin.zeroCells z.cells n).toList).toArray by apply Array.ext';simp];exact this
 .simp[Go.size_zeroCells,hzs]
theorem qiz{E:Env}{n b:Nat}:∀{rs:List (List V)} {o:Nat},qak E n rs b o->∃us:List Value,us.length=rs.length*n/\(∀(j:Nat) u,us[j]?=some u->E.w.cell? ⟨b,o+j,none⟩=some u)/\qai E rs.flatten us
 | [],o,_=>⟨[],by simp,fun j u h=>by simp at h,by simp[qai]⟩
 | r :: rs,o,h=>by
  unfold qak at h;obtain⟨us,h1,h2,h3⟩:=qiv h.2.1;obtain⟨ws,k1,k2,k3⟩:=qiz h.2.2;refine⟨us++ws,by simp only[jF,List.length_cons,h1,h.1,k1,Nat.succ_mul];omega,fun j u hj=>?_,by rw[List.flatten_cons];exact qch h3 k3⟩;by_cases hlt:j<us.length
  .rw[jI hlt]at hj;exact h2 j u hj
  .rw[jJ (by omega)]at hj;have:=k2 _ u hj;rw[show o+n+(j-us.length)=o+j by rw[h1,h.1]at hlt ⊢;omega]at this;exact this
theorem qgc{cs:Array Value}{l:List Value}(h:∀(j:Nat) v,l[j]?=some v->cs[j]?=some v):cs.toList.take l.length=l:=by
 apply List.ext_getElem?;intro j;by_cases hj:j<l.length
 .rw[List.getElem?_take_of_lt hj];have:=h j _ (jA hj);rw[jA hj,Array.getElem?_toList];exact this
 .rw[jY (by simp;omega),jY (by omega)]
theorem q1l{P:Program}{E:Env}(hE:Ok P E){id g m n:Nat}{els els':List (List V)}(ho:E.h[id]?=some ⟨g,.arr m els⟩){w':World}(hsz:E.w.heap.size<=w'.heap.size)
  (hw:∀k,k<E.w.heap.size->(∀C,E.b id≠some (k,C))->w'.heap[k]?=E.w.heap[k]?) (hos:w'.os=E.w.os) (hout:w'.output=E.w.output) {b:Nat} {C:Nat×Nat} {cs:Array Value} {ty:TypeId}
  (hb:(∃C',E.b id=some (b,C'))\/(E.w.heap.size<=b/\b<w'.heap.size)) (hnew:w'.heap[b]?=some (.cells cs ty (0,0))) (h0:0<n) (hn:∀q∈els',q.length=n) (hp:qcc els'=true) (hcs:cs.size=(C.2+C.1)*n) (hle:els'.length<=C.1)
  (hr:qai E els'.flatten ((cs.toList.drop (C.2*n)).take (els'.length*n))) {l:Nat} (hl:l<=els'.length) :
  ∃E',Ok P E'/\Ext E E'/\E'.h=E.h.set id ⟨g+1,.arr n els'⟩/\E'.w=w'/\rel E' (.sl id (g+1) n 0 l) (.slice (some ⟨b,C.2*n,none⟩) l C.1):=by
 have hnS:¬E.S b:=by
  rcases hb with⟨C',hb⟩ | hb
  .exact hE.notS ho rfl hb
  .intro h;have:=hE.S b h;omega
 obtain⟨k1,k2⟩:=qkx hE ho rfl (o':=⟨g+1,.arr n els'⟩) (fun _ h=>by cases h) (w':=w') hsz hw hos hout (some (b,C)) (fun k D hk=>by cases hk;exact hb) (by simp) rfl (fun h=>by rcases h with h | h<;>simp[qjd]at h) (fun y=>by
  unfold qej;refine⟨hp,.inr ⟨b,C,cs,ty,by simp,hnS,hnew,h0,hcs,hle,?_⟩⟩;refine qfw (cs:=cs.toList.drop (C.2*n)) hn (fun j u hj _=>?_) (qbb hE y _ _ hr);show w'.cell? ⟨b,C.2*n+j,none⟩=some u;rw[qdv hnew];simpa using hj)
 refine⟨_,k1,k2,rfl,rfl,?_⟩;have hlt:=qbe ho;unfold rel;refine⟨by simpa using hlt,by simp[qgr,hlt],_,_,rfl,by omega,(fun h=>by cases h),(fun y hy _=>by cases hy;rfl),fun o ho' _ _=>?_⟩;simp only[jN hlt,jC]at ho';subst ho';exact⟨by simpa[qmh]using hl,by simp[qcl],.inr ⟨b,C,C.2*n,by simp,rfl,by simp,fun _=>by simp⟩⟩
theorem zau{P:Program}{E:Env}(hE:Ok P E){id g n:Nat}{k0:K}{els':List (List V)}(ho:E.h[id]?=some ⟨g,k0⟩)(hk0:k0.isOwn=true){w':World}(hsz:E.w.heap.size<=w'.heap.size)
  (hw:∀k,k<E.w.heap.size->(∀C,E.b id≠some (k,C))->w'.heap[k]?=E.w.heap[k]?) (hos:w'.os=E.w.os) (hout:w'.output=E.w.output) {b:Nat} {C:Nat×Nat} {cs:Array Value} {ty:TypeId}
  (hb:(∃C',E.b id=some (b,C'))\/(E.w.heap.size<=b/\b<w'.heap.size)) (hnew:w'.heap[b]?=some (.cells cs ty (0,0))) (h0:0<n) (hn:∀q∈els',q.length=n) (hcs:cs.size=(C.2+C.1)*n) (hle:els'.length<=C.1)
  (hr:qai E els'.flatten ((cs.toList.drop (C.2*n)).take (els'.length*n))) {l:Nat} (hl:l<=els'.length) :
  ∃E',Ok P E'/\Ext E E'/\E'.h=E.h.set id ⟨g+1,.nst n els'⟩/\E'.w=w'/\rel E' (.sl id (g+1) n 0 l) (.slice (some ⟨b,C.2*n,none⟩) l C.1):=by
 have hnf:k0.isFrz=false:=by cases k0<;>simp[K.isOwn]at hk0<;>rfl
 have ht1:qjd k0=1:=by cases k0<;>simp[K.isOwn]at hk0<;>rfl
 have hnb:∀cells,k0 ≠ .box cells:=by cases k0<;>simp[K.isOwn]at hk0<;>simp
 have hnS:¬E.S b:=by
  rcases hb with⟨C',hb⟩ | hb
  .exact hE.notS ho hnf hb
  .intro h;have:=hE.S b h;omega
 obtain⟨k1,k2⟩:=qkx hE ho hnf (o':=⟨g+1,.nst n els'⟩) (fun _ h=>absurd h (hnb _)) (w':=w') hsz hw hos hout (some (b,C)) (fun k D hk=>by cases hk;exact hb) (by simp) ht1.symm (fun h=>by rcases h with h | h<;>simp[ht1]at h) (fun y=>by
  unfold qej;refine .inr ⟨b,C,cs,ty,by simp,hnS,hnew,h0,hcs,hle,?_⟩;refine qfw (cs:=cs.toList.drop (C.2*n)) hn (fun j u hj _=>?_) (qbb hE y _ _ hr);show w'.cell? ⟨b,C.2*n+j,none⟩=some u;rw[qdv hnew];simpa using hj)
 refine⟨_,k1,k2,rfl,rfl,?_⟩;have hlt:=qbe ho;unfold rel;refine⟨by simpa using hlt,by simp[qgr,hlt],_,_,rfl,by omega,(fun h=>by cases h),(fun y hy _=>by cases hy;rfl),fun o ho' _ _=>?_⟩;simp only[jN hlt,jC]at ho';subst ho';exact⟨by simpa[qmh]using hl,by simp[qcl],.inr ⟨b,C,C.2*n,by simp,rfl,by simp,fun _=>by simp⟩⟩
theorem q3y{P:Program}{E:Env}(hE:Ok P E){id g m n:Nat}{els els':List (List V)}(ho:E.h[id]?=some ⟨g,.arr m els⟩){w':World}(hsz:E.w.heap.size<=w'.heap.size)
  (hw:∀k,k<E.w.heap.size->(∀C,E.b id≠some (k,C))->w'.heap[k]?=E.w.heap[k]?) (hos:w'.os=E.w.os) (hout:w'.output=E.w.output) {b C:Nat} {cs:Array Value} {ty:TypeId}
  (hb:(∃C',E.b id=some (b,C'))\/(E.w.heap.size<=b/\b<w'.heap.size)) (hnew:w'.heap[b]?=some (.cells cs ty (0,0))) (h0:0<n) (hn:∀q∈els',q.length=n) (hp:qcc els'=true) (hcs:cs.size=C*n) (hle:els'.length<=C)
  (hr:qai E els'.flatten (cs.toList.take (els'.length*n))) {l:Nat} (hl:l<=els'.length) :
  ∃E',Ok P E'/\Ext E E'/\E'.h=E.h.set id ⟨g+1,.arr n els'⟩/\E'.w=w'/\rel E' (.sl id (g+1) n 0 l) (.slice (some ⟨b,0,none⟩) l C):=by
 have h:=q1l hE ho hsz hw hos hout hb hnew h0 hn hp (C:=(C,0)) (by simpa using hcs) hle (by simpa using hr) hl;simpa using h
theorem zir{P:Program}{E:Env}(hE:Ok P E){id g n:Nat}{k0:K}{els':List (List V)}(ho:E.h[id]?=some ⟨g,k0⟩)(hk0:k0.isOwn=true){w':World}(hsz:E.w.heap.size<=w'.heap.size)
  (hw:∀k,k<E.w.heap.size->(∀C,E.b id≠some (k,C))->w'.heap[k]?=E.w.heap[k]?) (hos:w'.os=E.w.os) (hout:w'.output=E.w.output) {b C:Nat} {cs:Array Value} {ty:TypeId}
  (hb:(∃C',E.b id=some (b,C'))\/(E.w.heap.size<=b/\b<w'.heap.size)) (hnew:w'.heap[b]?=some (.cells cs ty (0,0))) (h0:0<n) (hn:∀q∈els',q.length=n) (hcs:cs.size=C*n) (hle:els'.length<=C)
  (hr:qai E els'.flatten (cs.toList.take (els'.length*n))) {l:Nat} (hl:l<=els'.length) :
  ∃E',Ok P E'/\Ext E E'/\E'.h=E.h.set id ⟨g+1,.nst n els'⟩/\E'.w=w'/\rel E' (.sl id (g+1) n 0 l) (.slice (some ⟨b,0,none⟩) l C):=by
 have h:=zau hE ho hk0 hsz hw hos hout hb hnew h0 hn (C:=(C,0)) (by simpa using hcs) hle (by simpa using hr) hl;simpa using h
theorem qmy{els:List (List V)}{p:Nat}{ys:List (List V)}(hp:p<=els.length):(qdc els p ys).length=max (p+ys.length) els.length:=by simp[qdc];omega
theorem qzy{els:List (List V)}{p:Nat}{ys:List (List V)}(h:qcc els=true)(k:qcc ys=true):qcc (qdc els p ys)=true :=
 qju (qih h) (qju k (qop h))
theorem qdn{P:Program}(w:World)(size:Nat)(a:Option Addr)(cap:Nat):(Builtin.firstCells size 0 (.slice a 0 cap)).run P w=.ok ([]:List Value).toArray w:=by
 cases a with
 | none=>exact Go.run_firstCells_none w size 0 0 cap
 | some a=>exact Go.run_firstCells_some w size 0 a 0 cap [] (by simp) (fun j v h=>by simp at h)
theorem qkz{n:Nat}{els:List (List V)}(h:qno n els=true):∀q∈els,q.length=n:=by intro q hq;simp only[qno,jP]at h;simpa using h q hq
theorem qui{cs:Array Value}{l:List Value}{D:Nat}(h:∀(j:Nat) v,l[j]?=some v->cs[D+j]?=some v):(cs.toList.drop D).take l.length=l:=by
 apply List.ext_getElem?;intro j;by_cases hj:j<l.length
 .rw[List.getElem?_take_of_lt hj,List.getElem?_drop];have:=h j _ (jA hj);rw[jA hj,Array.getElem?_toList];exact this
 .rw[jY (by simp;omega),jY (by omega)]
theorem q1i{P:Program}{E:Env}{t u ty e:TypeId}{i:TypeInfo}{yv:Value}{news:List Value}{ys:List (List V)}(hA:Ap P t u ty e i yv ys.length news E.w)(hnews:qai E ys.flatten news)(hone:∀v∈news,v.oneCell'=true)(hn:∀q∈ys,q.length=i.size)
  {id off len xx b:Nat} {C:Nat×Nat} {els:List (List V)} {cs0:Array Value} {ty0:TypeId} (hb0:E.b id=some (b,C)) (q3:E.w.heap[b]?=some (.cells cs0 ty0 (0,0))) (q5:cs0.size=(C.2+C.1)*i.size) (q6:els.length<=C.1) (q7:qak E i.size els b (C.2*i.size))
  (hle:off+len<=els.length) (hxx:C.1-off≠0\/off=0->xx=(C.2+off)*i.size) (hy:ys≠[]\/off=0) (hfit:(len+ys.length)*i.bytes<=2 ^ 47) :
  ∃(w':World) (b':Nat) (C':Nat×Nat) (cs:Array Value) (ty':TypeId),(Builtin.append_ #[t,u] ty #[.slice (some ⟨b,xx,none⟩) len (C.1-off),yv]).run P E.w=.ok (.slice (some ⟨b',C'.2*i.size,none⟩) (len+ys.length) C'.1) w' /\
   E.w.heap.size<=w'.heap.size/\(∀k,k<E.w.heap.size->(∀D,E.b id≠some (k,D))->w'.heap[k]?=E.w.heap[k]?)/\w'.os=E.w.os/\w'.output=E.w.output/\((∃D,E.b id=some (b',D))\/(E.w.heap.size<=b'/\b'<w'.heap.size)) /\
   w'.heap[b']?=some (.cells cs ty' (0,0))/\(∀q∈qdc (els.drop off) len ys,q.length=i.size)/\cs.size=(C'.2+C'.1)*i.size/\(qdc (els.drop off) len ys).length<=C'.1 /\
   qai E (qdc (els.drop off) len ys).flatten ((cs.toList.drop (C'.2*i.size)).take ((qdc (els.drop off) len ys).length*i.size)):=by
 have hlen:=hA.len;have hrows:=qff off q7;rw[<-Nat.add_mul]at hrows;generalize hels:els.drop off=zs at hrows ⊢;have hzl:zs.length=els.length-off:=by rw[<-hels];simp
 have hlz:len<=zs.length:=by omega
 have hlen':(qdc zs len ys).length=max (len+ys.length) zs.length:=by simp[qdc];omega
 have hn':∀q∈qdc zs len ys,q.length=i.size:=by
  intro q hq;have old:q∈zs->q.length=i.size:=fun hq=>by obtain⟨j,hj⟩:=List.mem_iff_getElem?.1 hq;exact(qci hrows hj).1
  rcases jQ.1 hq with hq | hq
  .exact old (List.mem_of_mem_take hq)
  .rcases jQ.1 hq with hq | hq
   .exact hn q hq
   .exact old (List.mem_of_mem_drop hq)
 obtain⟨us,u1,u2,u3⟩:=qiz (qel len hrows);have hul:us.length=len*i.size:=by rw[u1,List.length_take,Nat.min_eq_left hlz]
 generalize hcap:C.1-off=cap at *;have hbs:=qea q3;by_cases hroom:len+ys.length<=cap
 .have hx:xx=(C.2+off)*i.size:=hxx (by
   rcases hy with hy | hy
   .have:=kA.2 hy;exact .inl (by omega)
   .exact .inr hy)
  have hoC:off<=C.1:=by omega
  have hmul:(len+ys.length)*i.size<=cap*i.size:=jV _ hroom;rw[Nat.add_mul]at hmul;have hsz:cs0.size=xx+cap*i.size:=by rw[q5,hx,<-Nat.add_mul];congr 1;omega
  obtain⟨vs,v1,v2,v3⟩:=qiz (qff (len+ys.length) hrows);have hflat:qai E (qdc zs len ys).flatten (us++(news++vs)):=by unfold qdc;rw[jZ,jZ];exact qch u3 (qch hnews v3)
  have hll:(us++(news++vs)).length=(qdc zs len ys).length*i.size:=by rw[jF,jF,hul,hlen,v1];simp only[qdc,jF,List.length_take,Nat.min_eq_left hlz,Nat.add_mul]
  obtain⟨w',cs',g1,g2,g3,g4,g5,g6,g7,g8⟩:=qhm (P:=P) (b:=b) (off:=xx+len*i.size) (ty:=ty0) news 0 E.w cs0 q3 (by omega) hone;have htk:=qui (cs:=cs') (l:=us++(news++vs)) (D:=xx) (fun j v h=>by
   rw[g8 (xx+j)];by_cases hj:j<us.length
   .rw[jI hj]at h;rw[if_neg (by omega),<-qdv q3];have:=u2 j v h;rw[<-hx]at this;exact this
   .rw[jJ (by omega)]at h;by_cases hj2:j-us.length<news.length
    .rw[jI hj2]at h;rw[if_pos (by omega)];rw[show xx+j-(xx+len*i.size+0)=j-us.length by omega];exact h
    .rw[jJ (by omega)]at h;rw[if_neg (by omega),<-qdv q3];have:=v2 _ v h;rw[<-hx,show xx+(len+ys.length)*i.size+(j-us.length-news.length)=xx+j by rw[Nat.add_mul];omega]at this;exact this)
  refine⟨w',b,(cap,C.2+off),cs',ty0,?_,by omega,fun k hk hne=>g5 k (fun h=>hne C (by rw[h];exact hb0)),g6,g7,.inl ⟨C,hb0⟩,g3,hn',?_,by rw[hlen'];show _<=cap;omega,?_⟩
  .rw[<-hx];exact hA.room b xx len cap w' hroom g1
  .rw[g4,hsz,hx,<-Nat.add_mul]
  .show qai E _ ((cs'.toList.drop ((C.2+off)*i.size)).take _);rw[<-hll,<-hx,htk];exact hflat
 .have hov:qdc zs len ys=zs.take len++ys:=by
   unfold qdc;rw[jX (by omega),List.append_nil]
  have hflat:qai E (qdc zs len ys).flatten (us++news):=by rw[hov,jZ];exact qch u3 hnews
  have hl2:(qdc zs len ys).length=len+ys.length:=by rw[hlen'];omega
  have hll:(us++news).length=(qdc zs len ys).length*i.size:=by rw[jF,hul,hlen,hl2,Nat.add_mul]
  have holds:(Builtin.firstCells i.size len (.slice (some ⟨b,xx,none⟩) len cap)).run P E.w.drew=.ok us.toArray E.w.drew:=by
   by_cases hl0:len=0
   .subst hl0;have:us=[]:=by simpa using hul
    subst this;exact qdn _ _ _ _
   .have hx:=hxx (.inl (by omega));exact Go.run_firstCells_some E.w.drew i.size len ⟨b,xx,none⟩ len cap us hul (fun j v h=>by
     rw[qcm];have:=u2 j v h;rw[<-hx]at this;exact this)
  obtain⟨C',cs,g1,g2,g3,g4⟩:=hA.grow (some ⟨b,xx,none⟩) len cap us holds (by omega) hfit;have htk:=qgc (cs:=cs) (l:=us++news) g4;have hnew:(E.w.drew.alloc (.cells cs e)).heap[E.w.heap.size]?=some (.cells cs e (0,0)):=Go.heap_alloc_new E.w.drew _;have hgr:=(Grow.drew E.w).trans (Grow.alloc E.w.drew (.cells cs e));refine⟨_,E.w.heap.size,(C',0),cs,e,by rw[show((C',0):Nat×Nat).2*i.size=0 from Nat.zero_mul _];exact g1,hgr.size,fun k hk _=>hgr.keep k hk,hgr.os,hgr.output,.inr ⟨jD _,by simp⟩,hnew,hn',?_,by rw[hl2];exact g2,?_⟩
  .rw[g3,hul,hlen,<-Nat.add_mul,<-Nat.add_mul];congr 1;show _=0+C';omega
  .rw[show((C',0):Nat×Nat).2*i.size=0 from Nat.zero_mul _,List.drop_zero,<-hll,htk];exact hflat
theorem quq{P:Program}{E:Env}(hE:Ok P E){t u ty e:TypeId}{i:TypeInfo}{yv:Value}{news:List Value}{ys:List (List V)}(hA:Ap P t u ty e i yv ys.length news E.w)(h0:0<i.size)(hnews:qai E ys.flatten news)(hone:∀v∈news,v.oneCell'=true)
  {x:V} {xv:Value} (hx:rel E x xv) {v:V} {h':H} (hv:zef E.h i.size i.bytes x ys=some (v,h')) :
  ∃E' val,Ok P E'/\Ext E E'/\E'.h=h'/\(Builtin.append_ #[t,u] ty #[xv,yv]).run P E.w=.ok val E'.w/\rel E' v val:=by
 unfold zef at hv;split at hv
 .rename_i hc;obtain⟨hsz,hpu⟩:=hc;have hn:=qkz hsz;have hlen:=hA.len;cases x<;>simp only at hv<;>try (cases hv;done)
  case nils =>
   unfold rel at hx;obtain⟨a,rfl⟩:=hx;split at hv
   .rename_i hfit;cases hv;by_cases hy:ys=[]
    .subst hy;obtain⟨k1,k2⟩:=qhd hE (Grow.refl E.w) ⟨0,.arr i.size []⟩ none (fun b C h=>by cases h) (fun _=>by
      unfold qej;exact⟨rfl,.inl ⟨by simp,rfl⟩⟩)
     refine⟨_,_,k1,k2,by simp,hA.none rfl a 0 0 (jD _),?_⟩;unfold rel;refine⟨by simp,by simp,a,0,rfl,jD _,fun _=>rfl,fun _ _ h=>absurd rfl h,fun o ho _ _=>?_⟩;simp at ho;subst ho;exact⟨by simp[qmh],by simp[qcl],.inl ⟨by simp,rfl⟩⟩
    .have hpos:0<ys.length:=kA.2 hy;obtain⟨C,cs,g1,g2,g3,g4⟩:=hA.grow a 0 0 [] (qdn _ _ _ _) (by omega) (by simpa using hfit);have htk:=qgc (cs:=cs) (l:=news) (fun j v h=>g4 j v (by simpa using h));have hnew:(E.w.drew.alloc (.cells cs e)).heap[E.w.heap.size]?=some (.cells cs e (0,0)):=Go.heap_alloc_new E.w.drew _;obtain⟨E',k1,k2,k3,k4,k5⟩:=q6z hE (n:=i.size) (C:=C) (els:=ys) ((Grow.drew E.w).trans (Grow.alloc E.w.drew (.cells cs e))) hnew hn h0 hpu (by
      simp only[List.length_nil,hlen]at g3;rw[g3,show C=ys.length+(C-(0+ys.length))by omega,Nat.add_mul];simp) (by omega) (by rw[<-hlen,htk];exact hnews)
     exact⟨E',_,k1,k2,k3,by rw[k4];exact g1,by simpa using k5⟩
   .cases hv
  case nilx =>
   unfold rel at hx;obtain⟨a,rfl⟩:∃a,xv=.slice a 0 0:=⟨none,hx⟩
   split at hv
   .rename_i hfit;cases hv;by_cases hy:ys=[]
    .subst hy;obtain⟨k1,k2⟩:=qhd hE (Grow.refl E.w) ⟨0,.arr i.size []⟩ none (fun b C h=>by cases h) (fun _=>by
      unfold qej;exact⟨rfl,.inl ⟨by simp,rfl⟩⟩)
     refine⟨_,_,k1,k2,by simp,hA.none rfl a 0 0 (jD _),?_⟩;unfold rel;refine⟨by simp,by simp,a,0,rfl,jD _,fun _=>rfl,fun _ _ h=>absurd rfl h,fun o ho _ _=>?_⟩;simp at ho;subst ho;exact⟨by simp[qmh],by simp[qcl],.inl ⟨by simp,rfl⟩⟩
    .have hpos:0<ys.length:=kA.2 hy;obtain⟨C,cs,g1,g2,g3,g4⟩:=hA.grow a 0 0 [] (qdn _ _ _ _) (by omega) (by simpa using hfit);have htk:=qgc (cs:=cs) (l:=news) (fun j v h=>g4 j v (by simpa using h));have hnew:(E.w.drew.alloc (.cells cs e)).heap[E.w.heap.size]?=some (.cells cs e (0,0)):=Go.heap_alloc_new E.w.drew _;obtain⟨E',k1,k2,k3,k4,k5⟩:=q6z hE (n:=i.size) (C:=C) (els:=ys) ((Grow.drew E.w).trans (Grow.alloc E.w.drew (.cells cs e))) hnew hn h0 hpu (by
      simp only[List.length_nil,hlen]at g3;rw[g3,show C=ys.length+(C-(0+ys.length))by omega,Nat.add_mul];simp) (by omega) (by rw[<-hlen,htk];exact hnews)
     exact⟨E',_,k1,k2,k3,by rw[k4];exact g1,by simpa using k5⟩
   .cases hv
  case immc els =>
   split at hv
   .rename_i hy;cases hv;subst hy;have hx':=hx;unfold rel at hx;obtain⟨a,rfl,hpe,h3⟩:=hx;exact⟨E,_,hE,Ext.refl E,rfl,hA.none rfl a els.length els.length (jD _),qqy hx'⟩
   rename_i hy;split at hv
   .rename_i hc;obtain⟨hse,hfit⟩:=hc;cases hv;have hpos:0<ys.length:=kA.2 hy;have hne:=qkz hse;unfold rel at hx;obtain⟨a,rfl,hpe,h3⟩:=hx;obtain⟨us,hul,u3,holds⟩:∃us:List Value,us.length=els.length*i.size/\qai E els.flatten us/\(Builtin.firstCells i.size els.length (.slice a els.length els.length)).run P E.w.drew=.ok us.toArray E.w.drew:=by
     rcases h3 with rfl | ⟨b,o,n,rfl,_,_,h4⟩
     .exact⟨[],by simp,by simp[qai],qdn _ _ _ _⟩
     .obtain⟨us,u1,u2,u3⟩:=qiz h4;have hul:us.length=els.length*i.size:=by
       have:=qav u3;rw[qau hne]at this;exact this.symm
      exact⟨us,hul,u3,Go.run_firstCells_some E.w.drew i.size els.length ⟨b,o,none⟩ els.length els.length us hul (fun j v h=>by
       rw[qcm];exact u2 j v h)⟩
    obtain⟨C,cs,g1,g2,g3,g4⟩:=hA.grow a els.length els.length us holds (by omega) hfit;have htk:=qgc (cs:=cs) (l:=us++news) g4;have hnew:(E.w.drew.alloc (.cells cs e)).heap[E.w.heap.size]?=some (.cells cs e (0,0)):=Go.heap_alloc_new E.w.drew _;have hll:(us++news).length=(els++ys).length*i.size:=by rw[jF,hul,hlen,jF,Nat.add_mul]
    obtain⟨E',k1,k2,k3,k4,k5⟩:=q6z hE (n:=i.size) (C:=C) (els:=els++ys) ((Grow.drew E.w).trans (Grow.alloc E.w.drew (.cells cs e))) hnew (fun q hq=>(jQ.1 hq).elim (hne q) (hn q)) h0 (by
      simp only[qcc,List.all_append,jE]at hpe hpu ⊢;exact⟨hpe,hpu⟩) (by
     rw[g3,hul,hlen,<-Nat.add_mul,<-Nat.add_mul];congr 1;omega) (by rw[jF];omega) (by
     rw[<-hll,htk,jZ];exact qch u3 hnews)
    exact⟨E',_,k1,k2,k3,by rw[k4];exact g1,by simpa using k5⟩
   .cases hv
  case sl id g m0 off len =>
   cases hob:E.h[id]? with
   | none=>rw[hob]at hv;cases hv
   | some ob =>
    rw[hob]at hv;obtain⟨gg,kk⟩:=ob;cases kk<;>simp only at hv<;>try (cases hv;done)
    case arr m els =>
     split at hv
     .rename_i hc;obtain⟨hgg,hoff,hle,hm,hfit⟩:=hc;subst hgg hoff;have hels:(if len=els.length then els++ys else qdc els len ys)=qdc els len ys:=by
       split
       .rename_i h;rw[h];simp[qdc]
       .rfl
      rw[hels]at hv;cases hv;have hlt:=qbe hob;unfold rel at hx;obtain⟨_,_,a,cap,rfl,hc1,hc2,hc3,h3⟩:=hx;obtain⟨_,hstr,hb⟩:=h3 _ hob rfl rfl;have hro:=hE.obj id _ hob;unfold qej at hro;obtain⟨hpe,hro⟩:=hro;have hpe':qcc (qdc els len ys)=true:=qzy hpe hpu;have hlen':(qdc els len ys).length=max (len+ys.length) els.length:=qmy hle;rcases hb with⟨hb0,hcap⟩ | ⟨b,C,xx,hb0,ha,hcap,hxx⟩
      .-- no block yet
       have he:els=[]:=by
        rcases hro with h | ⟨b,C,cs,ty,h,_⟩
        .exact h.2
        .rw[hb0]at h;cases h
       subst he;have hl0:len=0:=by simpa using hle
       subst hl0;simp only[qdc,List.take_nil,List.nil_append,List.drop_nil,List.append_nil];by_cases hy:ys=[]
       .subst hy;have hs':∀q:Nat,∃E',Ok P E'/\Ext E E'/\E'.h=E.h.set id ⟨gg+1,.arr q []⟩/\E'.w=E.w/\rel E' (.sl id (gg+1) q 0 0) (.slice a 0 cap):=by
         intro q;obtain⟨k1,k2⟩:=qkx hE hob rfl (o':=⟨gg+1,.arr q []⟩) (fun _ h=>by cases h) (w':=E.w) (jD _) (fun _ _ _=>rfl) rfl rfl none (fun b C h=>by cases h) (by simp) rfl (fun h=>by rcases h with h | h<;>simp[qjd]at h) (fun _=>by
          unfold qej;exact⟨rfl,.inl ⟨by simp,rfl⟩⟩)
         refine⟨_,k1,k2,rfl,rfl,?_⟩;unfold rel;refine⟨by simpa using hlt,by simp[qgr,hlt],a,cap,rfl,by omega,hc2,hc3,fun o ho' _ _=>?_⟩;simp only[jN hlt,jC]at ho';subst ho';exact⟨by simp[qmh],by simp[qcl],.inl ⟨by simp,hcap⟩⟩
        obtain⟨E',k1,k2,k3,k4,k5⟩:=hs' i.size;exact⟨E',_,k1,k2,k3,by rw[k4];exact hA.none rfl a 0 cap (by omega),k5⟩
       .have hpos:0<ys.length:=kA.2 hy;obtain⟨C,cs,g1,g2,g3,g4⟩:=hA.grow a 0 cap [] (qdn _ _ _ _) (by omega) (by simpa using hfit);have htk:=qgc (cs:=cs) (l:=news) (fun j v h=>g4 j v (by simpa using h));have hnew:(E.w.drew.alloc (.cells cs e)).heap[E.w.heap.size]?=some (.cells cs e (0,0)):=Go.heap_alloc_new E.w.drew _;have hgr:=(Grow.drew E.w).trans (Grow.alloc E.w.drew (.cells cs e));obtain⟨E',k1,k2,k3,k4,k5⟩:=q3y hE hob (n:=i.size) (C:=C) (els':=ys) hgr.size (fun k hk _=>hgr.keep k hk) hgr.os hgr.output (.inr ⟨jD _,by simp⟩) hnew h0 hn hpu (by
         simp only[List.length_nil,hlen]at g3;rw[g3,show C=ys.length+(C-(0+ys.length))by omega,Nat.add_mul];simp) (by omega) (by rw[<-hlen,htk];exact hnews) (jD _)
        exact⟨E',_,k1,k2,k3,by rw[k4];exact g1,by simpa using k5⟩
      .rcases hro with h | ⟨b',C',cs0,ty0,q1,q2,q3,q4,q5,q6,q7⟩
       .rw[hb0]at h;cases h.1
       .rw[hb0]at q1;cases q1;have hmn:m=i.size:=by omega
        subst hmn;have hst:m0=i.size:=hstr;subst hst;subst ha;obtain⟨w',b',C',cs',ty',a1,a2,a3,a4,a5,a6,a7,a8,a9,a10,a11⟩:=q1i hA hnews hone hn (off:=0) (len:=len) (xx:=xx) hb0 q3 q5 q6 q7 (by omega) (fun h=>hxx (by omega)) (.inr rfl) hfit;rw[List.drop_zero]at a8 a10 a11;have hcap':C.1-0=cap:=by omega
        rw[hcap']at a1;obtain⟨E',k1,k2,k3,k4,k5⟩:=q1l hE hob (n:=i.size) (els':=qdc els len ys) a2 a3 a4 a5 a6 a7 h0 a8 hpe' a9 a10 a11 (l:=len+ys.length) (by omega);exact⟨E',_,k1,k2,k3,by rw[k4];exact a1,k5⟩
     .split at hv
      .rename_i hno hc;obtain⟨hgg,hoff,hm,hy,hfit⟩:=hc;subst hgg hm;cases hv;have hpos:=kA.2 hy;unfold rel at hx;obtain⟨_,_,a,cap,rfl,hc1,hc2,hc3,h3⟩:=hx;obtain⟨_,hstr,hb⟩:=h3 _ hob rfl rfl;have hro:=hE.obj id _ hob;unfold qej at hro;obtain⟨hpe,hro⟩:=hro;rcases hb with⟨hb0,hcap⟩ | ⟨b,C,xx,hb0,ha,hcap,hxx⟩
       .exfalso;have he:els=[]:=by
         rcases hro with h | ⟨b,C,cs,ty,h,_⟩
         .exact h.2
         .rw[hb0]at h;cases h
        subst he;have h0:off+len=0:=hoff;exact hno ⟨rfl,by omega,by show len<=0;omega,.inl rfl,hfit⟩
       .rcases hro with h | ⟨b',C',cs0,ty0,q1,q2,q3,q4,q5,q6,q7⟩
        .rw[hb0]at h;cases h.1
        .rw[hb0]at q1;cases q1;have hst:m0=i.size:=hstr;subst hst;subst ha;obtain⟨w',b',C',cs',ty',a1,a2,a3,a4,a5,a6,a7,a8,a9,a10,a11⟩:=q1i hA hnews hone hn (off:=off) (len:=len) (xx:=xx) hb0 q3 q5 q6 q7 (by omega) (fun h=>hxx (by omega)) (.inl hy) hfit;rw[<-hcap]at a1;have hov:qdc (els.drop off) len ys=els.drop off++ys:=by
          unfold qdc;have hl:(els.drop off).length=len:=by rw[List.length_drop];omega
          rw[show(els.drop off).take len=els.drop off from kB (by omega),show(els.drop off).drop (len+ys.length)=[]from jX (by omega),List.append_nil]
         rw[hov]at a8 a10 a11;obtain⟨E',k1,k2,k3,k4,k5⟩:=q1l hE hob (n:=i.size) (els':=els.drop off++ys) a2 a3 a4 a5 a6 a7 h0 a8 (qju (qop hpe) hpu) a9 a10 a11 (l:=len+ys.length) (by simp;omega);exact⟨E',_,k1,k2,k3,by rw[k4];exact a1,k5⟩
      .cases hv
 .cases hv
theorem zey{P:Program}{E:Env}(hE:Ok P E){t u ty e:TypeId}{i:TypeInfo}{yv:Value}{news:List Value}{ys:List (List V)}(hA:Ap P t u ty e i yv ys.length news E.w)(h0:0<i.size)(hnews:qai E ys.flatten news)(hone:∀v∈news,v.oneCell'=true)(hsz:qno i.size ys=true)
  {x:V} {xv:Value} (hx:rel E x xv) {v:V} {h':H} (hv:zzx E.h i.size i.bytes x ys=some (v,h')) :
  ∃E' val,Ok P E'/\Ext E E'/\E'.h=h'/\(Builtin.append_ #[t,u] ty #[xv,yv]).run P E.w=.ok val E'.w/\rel E' v val:=by
 unfold zzx at hv
 .have hn:=qkz hsz;have hlen:=hA.len;cases x<;>simp only at hv<;>try (cases hv;done)
  case nils =>
   unfold rel at hx;obtain⟨a,rfl⟩:=hx;split at hv
   .rename_i hfit;cases hv;by_cases hy:ys=[]
    .subst hy;obtain⟨k1,k2⟩:=qhd hE (Grow.refl E.w) ⟨0,.nst i.size []⟩ none (fun b C h=>by cases h) (fun _=>by
      unfold qej;exact .inl ⟨by simp,rfl⟩)
     refine⟨_,_,k1,k2,by simp,hA.none rfl a 0 0 (jD _),?_⟩;unfold rel;refine⟨by simp,by simp,a,0,rfl,jD _,fun _=>rfl,fun _ _ h=>absurd rfl h,fun o ho _ _=>?_⟩;simp at ho;subst ho;exact⟨by simp[qmh],by simp[qcl],.inl ⟨by simp,rfl⟩⟩
    .have hpos:0<ys.length:=kA.2 hy;obtain⟨C,cs,g1,g2,g3,g4⟩:=hA.grow a 0 0 [] (qdn _ _ _ _) (by omega) (by simpa using hfit);have htk:=qgc (cs:=cs) (l:=news) (fun j v h=>g4 j v (by simpa using h));have hnew:(E.w.drew.alloc (.cells cs e)).heap[E.w.heap.size]?=some (.cells cs e (0,0)):=Go.heap_alloc_new E.w.drew _;obtain⟨E',k1,k2,k3,k4,k5⟩:=zat 0 hE (n:=i.size) (C:=C) (els:=ys) ((Grow.drew E.w).trans (Grow.alloc E.w.drew (.cells cs e))) hnew hn h0 (by
      simp only[List.length_nil,hlen]at g3;rw[g3,show C=ys.length+(C-(0+ys.length))by omega,Nat.add_mul];simp) (by omega) (by rw[<-hlen,htk];exact hnews)
     exact⟨E',_,k1,k2,k3,by rw[k4];exact g1,by simpa using k5⟩
   .cases hv
  case sl id g m0 off len =>
   cases hob:E.h[id]? with
   | none=>rw[hob]at hv;cases hv
   | some ob =>
    rw[hob]at hv;obtain⟨gg,kk⟩:=ob;obtain⟨m,els,hkk,hst0,hlk0,hv2,hro⟩:∃m els,kk.isOwn=true/\qcl kk=m/\qmh kk=els.length/\(if gg=g/\off=0/\len<=els.length/\(m=i.size\/m=0)/\(len+ys.length)*i.bytes<=2 ^ 47 then
      some (V.sl id (gg+1) i.size 0 (len+ys.length),E.h.set id ⟨gg+1,.nst i.size (if len=els.length then els++ys else qdc els len ys)⟩)else none)=some (v,h') /\
      ((E.b id=none/\els=[])\/∃b C cs ty,E.b id=some (b,C)/\¬E.S b/\E.w.heap[b]?=some (.cells cs ty (0,0))/\0<m/\cs.size=(C.2+C.1)*m/\els.length<=C.1/\qak E m els b (C.2*m)):=by
     have hro:=hE.obj id _ hob;unfold qej at hro;cases kk<;>simp only at hv<;>try (cases hv;done)
     case arr m els=>exact⟨m,els,rfl,rfl,rfl,hv,hro.2⟩
     case nst m els=>exact⟨m,els,rfl,rfl,rfl,hv,hro⟩
    .replace hv:=hv2;clear hv2;have ht1:qjd kk=1:=by cases kk<;>simp[K.isOwn]at hkk<;>rfl
     have hnf:kk.isFrz=false:=by cases kk<;>simp[K.isOwn]at hkk<;>rfl
     have hnb:∀cells,kk ≠ .box cells:=by cases kk<;>simp[K.isOwn]at hkk<;>simp
     split at hv
     .rename_i hc;obtain⟨hgg,hoff,hle,hm,hfit⟩:=hc;subst hgg hoff;have hels:(if len=els.length then els++ys else qdc els len ys)=qdc els len ys:=by
       split
       .rename_i h;rw[h];simp[qdc]
       .rfl
      rw[hels]at hv;cases hv;have hlt:=qbe hob;unfold rel at hx;obtain⟨_,_,a,cap,rfl,hc1,hc2,hc3,h3⟩:=hx;obtain⟨_,hstr,hb⟩:=h3 _ hob rfl ht1;simp only[hst0]at hstr;have hlen':(qdc els len ys).length=max (len+ys.length) els.length:=qmy hle;rcases hb with⟨hb0,hcap⟩ | ⟨b,C,xx,hb0,ha,hcap,hxx⟩
      .-- no block yet
       have he:els=[]:=by
        rcases hro with h | ⟨b,C,cs,ty,h,_⟩
        .exact h.2
        .rw[hb0]at h;cases h
       subst he;have hl0:len=0:=by simpa using hle
       subst hl0;simp only[qdc,List.take_nil,List.nil_append,List.drop_nil,List.append_nil];by_cases hy:ys=[]
       .subst hy;have hs':∀q:Nat,∃E',Ok P E'/\Ext E E'/\E'.h=E.h.set id ⟨gg+1,.nst q []⟩/\E'.w=E.w/\rel E' (.sl id (gg+1) q 0 0) (.slice a 0 cap):=by
         intro q;obtain⟨k1,k2⟩:=qkx hE hob hnf (o':=⟨gg+1,.nst q []⟩) (fun _ h=>absurd h (hnb _)) (w':=E.w) (jD _) (fun _ _ _=>rfl) rfl rfl none (fun b C h=>by cases h) (by simp) ht1.symm (fun h=>by rcases h with h | h<;>simp[ht1]at h) (fun _=>by
          unfold qej;exact .inl ⟨by simp,rfl⟩)
         refine⟨_,k1,k2,rfl,rfl,?_⟩;unfold rel;refine⟨by simpa using hlt,by simp[qgr,hlt],a,cap,rfl,by omega,hc2,hc3,fun o ho' _ _=>?_⟩;simp only[jN hlt,jC]at ho';subst ho';exact⟨by simp[qmh],by simp[qcl],.inl ⟨by simp,hcap⟩⟩
        obtain⟨E',k1,k2,k3,k4,k5⟩:=hs' i.size;exact⟨E',_,k1,k2,k3,by rw[k4];exact hA.none rfl a 0 cap (by omega),k5⟩
       .have hpos:0<ys.length:=kA.2 hy;obtain⟨C,cs,g1,g2,g3,g4⟩:=hA.grow a 0 cap [] (qdn _ _ _ _) (by omega) (by simpa using hfit);have htk:=qgc (cs:=cs) (l:=news) (fun j v h=>g4 j v (by simpa using h));have hnew:(E.w.drew.alloc (.cells cs e)).heap[E.w.heap.size]?=some (.cells cs e (0,0)):=Go.heap_alloc_new E.w.drew _;have hgr:=(Grow.drew E.w).trans (Grow.alloc E.w.drew (.cells cs e));obtain⟨E',k1,k2,k3,k4,k5⟩:=zir hE hob hkk (n:=i.size) (C:=C) (els':=ys) hgr.size (fun k hk _=>hgr.keep k hk) hgr.os hgr.output (.inr ⟨jD _,by simp⟩) hnew h0 hn (by
         simp only[List.length_nil,hlen]at g3;rw[g3,show C=ys.length+(C-(0+ys.length))by omega,Nat.add_mul];simp) (by omega) (by rw[<-hlen,htk];exact hnews) (jD _)
        exact⟨E',_,k1,k2,k3,by rw[k4];exact g1,by simpa using k5⟩
      .rcases hro with h | ⟨b',C',cs0,ty0,q1,q2,q3,q4,q5,q6,q7⟩
       .rw[hb0]at h;cases h.1
       .rw[hb0]at q1;cases q1;have hmn:m=i.size:=by omega
        subst hmn;have hst:m0=i.size:=hstr;subst hst;subst ha;obtain⟨w',b',C',cs',ty',a1,a2,a3,a4,a5,a6,a7,a8,a9,a10,a11⟩:=q1i hA hnews hone hn (off:=0) (len:=len) (xx:=xx) hb0 q3 q5 q6 q7 (by omega) (fun h=>hxx (by omega)) (.inr rfl) hfit;rw[List.drop_zero]at a8 a10 a11;have hcap':C.1-0=cap:=by omega
        rw[hcap']at a1;obtain⟨E',k1,k2,k3,k4,k5⟩:=zau hE hob hkk (n:=i.size) (els':=qdc els len ys) a2 a3 a4 a5 a6 a7 h0 a8 a9 a10 a11 (l:=len+ys.length) (by omega);exact⟨E',_,k1,k2,k3,by rw[k4];exact a1,k5⟩
     .cases hv
theorem zdq{els:List (List V)}(h:qcc els=true):els.flatten.all V.pcell=true:=by simp only[qcc,jP]at h;simp only[jP,List.mem_flatten];rintro v ⟨r,hr,hv⟩;exact h r hr v hv
theorem q8c{v:V}(h:v.pcell=true):v.cell1=true:=by cases v<;>first | rfl | (simp[V.pcell]at h)
theorem qrq{E:Env}{els:List (List V)}{us:List Value}(h:qcc els=true)(hr:qai E els.flatten us):∀u∈us,u.oneCell'=true :=
 quz hr (by
  have:=zdq h;simp only[jP]at this ⊢;exact fun v hv=>q8c (this v hv))
theorem q2y{P:Program}{E:Env}(hE:Ok P E){y:V}{u:Value}(h:rel E y u){n:Nat}{ys:List (List V)}(hr:qpg E.h y=some ys)(hs:qno n ys=true) :
  ∃a cap news,u=.slice a ys.length cap/\(ys.length=0\/a≠none)/\news.length=ys.length*n/\qai E ys.flatten news/\(news=[]\/∃b o,a=some ⟨b,o,none⟩/\∀(j:Nat) x,news[j]?=some x->E.w.cell? ⟨b,o+j,none⟩=some x):=by
 have hn:=qkz hs;unfold qpg at hr;have fin:∀(b o m:Nat),qak E m ys b o->ys≠[]->∃news:List Value,news.length=ys.length*n/\qai E ys.flatten news/\∀(j:Nat) x,news[j]?=some x->E.w.cell? ⟨b,o+j,none⟩=some x:=by intro b o m hrr hne;obtain⟨us,h1,h2,h3⟩:=qiz hrr;refine⟨us,?_,h3,h2⟩;have:=qav h3;rw[qau hn]at this;exact this.symm
 cases y<;>simp only[qbr]at hr<;>try (cases hr;done)
 case nils =>cases hr;unfold rel at h;obtain⟨a,rfl⟩:=h;exact⟨a,0,[],rfl,.inl rfl,by simp,by simp[qai],.inl rfl⟩
 case nilx =>cases hr;unfold rel at h;subst h;exact⟨none,0,[],rfl,.inl rfl,by simp,by simp[qai],.inl rfl⟩
 case' immc=>replace h:=qqy h
 case immc els | imm els =>
  have hels:els=ys:=by simpa using hr
  subst hels;unfold rel at h;obtain⟨a,cap,rfl,_,_,h3⟩:=h;rcases h3 with rfl | ⟨b,o,m,rfl,_,_,h4⟩
  .exact⟨a,cap,[],rfl,.inl rfl,by simp,by simp[qai],.inl rfl⟩
  .by_cases hne:els=[]
   .subst hne;exact⟨_,cap,[],rfl,.inl rfl,by simp,by simp[qai],.inl rfl⟩
   .obtain⟨news,f1,f2,f3⟩:=fin b o m h4 hne;exact⟨_,cap,news,rfl,.inr (by simp),f1,f2,.inr ⟨b,o,rfl,f3⟩⟩
 case sl id g m off len =>
  cases hrw:qhg E.h id g with
  | none=>rw[hrw]at hr;cases hr
  | some els =>
   rw[hrw]at hr;simp only at hr;cases hwn:qma els off len with
   | none=>rw[hwn]at hr;cases hr
   | some l =>
    rw[hwn]at hr;cases hr;obtain⟨o,k,ho,hg,hk⟩:=qtc hrw;obtain⟨hle,rfl⟩:=qnw hwn;unfold rel at h;obtain⟨_,_,a,cap,rfl,hc1,hc2,hc3,h3⟩:=h;have ht:qjd o.k=1:=by rcases hk with e | e<;>rw[e]<;>rfl
    obtain⟨_,hms,h5⟩:=h3 o ho hg ht;have hlen:((els.drop off).take len).length=len:=by simp;omega
    by_cases hne:(els.drop off).take len=[]
    .have hl0:len=0:=by rw[hne]at hlen;simpa using hlen.symm
     subst hl0;refine⟨a,cap,[],?_,.inl (by simp),by simp,by simp[qai],.inl rfl⟩;simp
    .have hl0:len≠0:=fun h=>hne (by rw[h];simp);have hro:=hE.obj id o ho;have hobj:∃b C,E.b id=some (b,C)/\qak E k els b (C.2*k):=by
      unfold qej at hro;rcases hk with e | e<;>rw[e]at hro<;>rcases hro.2 with h | ⟨b,C,cs,ty,q1,q2,q3,q4,q5,q6,q7⟩
      .exact absurd h.2 (fun h=>by subst h;simp at hle;omega)
      .exact⟨b,C,q1,q7⟩
      .exact absurd h.2 (fun h=>by subst h;simp at hle;omega)
      .exact⟨b,C,q1,q7⟩
     obtain⟨b,C,q1,q2⟩:=hobj;rcases h5 with⟨h,_⟩ | ⟨b',C',x,e1,e2,e3,e4⟩
     .rw[q1]at h;cases h
     .rw[q1]at e1;cases e1;have hx:=e4 (.inl (by omega));have hst:qcl o.k=k:=by rcases hk with e | e<;>rw[e]<;>rfl
      have hrr:=qel len (qff off q2);rw[<-Nat.add_mul]at hrr;obtain⟨news,f1,f2,f3⟩:=fin b _ k hrr hne;refine⟨a,cap,news,by rw[hlen],.inr (by rw[e2];simp),f1,f2,.inr ⟨b,x,e2,?_⟩⟩;intro j u hj;have:=f3 j u hj;rw[hx,hms,hst];simpa using this
theorem q4n{P:Program}{E E1:Env}(hE:Ok P E)(b2:Ext E E1)(b4:E1.w=E.w):∀{cs:List V} {b o:Nat},(∀c∈cs,inS E E1.S c)->qbc E cs b o->qbc E1 (cs.map (qan E.h)) b o
 | [],_,_,_,_=>by simp[qbc]
 | c :: cs,b,o,hi,h=>by unfold qbc at h;obtain⟨⟨u,h1,h2⟩,h3⟩:=h;simp only[List.map_cons];unfold qbc;exact⟨⟨u,by rw[b4];exact h1,qsx hE b2 b4 h2 (hi c (by simp))⟩,q4n hE b2 b4 (fun c hc=>hi c (by simp[hc])) h3⟩
theorem q6h{P:Program}{E:Env}(hE:Ok P E){y:V}{u:Value}(h:rel E y u){n:Nat}{ys:List (List V)}(hr:qhw n E.h y=some ys)(hs:qno n ys=true) :
  ∃a cap news,u=.slice a ys.length cap/\(ys.length=0\/a≠none)/\news.length=ys.length*n/\qai E ys.flatten news/\(news=[]\/∃b o,a=some ⟨b,o,none⟩/\∀(j:Nat) x,news[j]?=some x->E.w.cell? ⟨b,o+j,none⟩=some x):=by
 by_cases hvw:∃cs,y=.view false cs
 .obtain⟨cs,rfl⟩:=hvw;simp only[qhw]at hr;split at hr
  .rename_i hn;subst hn;cases hr;unfold rel at h;obtain⟨b,o,_,h2,h3⟩:=h;rcases h3 with⟨h3,_⟩ | ⟨_,cap,rfl,_⟩
   .cases h3
   obtain⟨us,u1,u2,u3⟩:=qiv h2;have hfl:∀l:List V,(l.map fun c=>[c]).flatten=l:=by
    intro l;induction l with
    | nil=>rfl
    | cons c l ih=>simp[ih]
   refine⟨some ⟨b,o,none⟩,cap,us,by simp,.inr (by simp),by simp[u1],by rw[hfl cs];exact u3,.inr ⟨b,o,rfl,u2⟩⟩
  .cases hr
 .refine q2y hE h ?_ hs;rw[<-hr];cases y<;>try rfl
  rename_i p cs;cases p
  .exact absurd ⟨cs,rfl⟩ hvw
  .rfl
section
variable{P:Program}{E:Env}(hE:Ok P E){s:List V}{a:Act}(hs:qai E s a.tmps.toList){o:Oper}
include hE hs
omit hE hs in
theorem qqm{x y:Operand}{t u:TypeId}{c:Go.Call}(ho:o.op=.call c)(hc:c.callee=.builtin .append)(ha:c.args.toList=[x,y])(hat:c.argTypes.toList=[t,u]){v:V}{h':H}
  (h:∃E' val,Ok P E'/\Ext E E'/\E'.h=h'/\(Builtin.append_ #[t,u] o.type #[a.eval x,a.eval y]).run P E.w=.ok val E'.w/\rel E' v val):Does P E a o v h':=by
 have ha':c.args=#[x,y]:=by rw[<-Array.toList_inj];simpa using ha
 have hat':c.argTypes=#[t,u]:=by rw[<-Array.toList_inj];simpa using hat
 obtain⟨E',val,k1,k2,k3,k4,k5⟩:=h;refine⟨E',k1,k2,k3,.value val,?_,.inl ⟨val,rfl,k5⟩⟩;simp only[execOp,ho,Go.resolve,hc,ha',hat',Go.invoke,Go.builtin,Sem.run_bind,Sem.run_pure,Go.Result.andThen_ok,List.map_toArray,List.map_cons,List.map_nil,k4]
theorem zlq{x y:Operand}{x' y':A}{t u e e':TypeId}{c:Go.Call}{zs:List V}(ho:o.op=.call c)(hc:c.callee=.builtin .append)(ha:c.args.toList=[x,y])(hat:c.argTypes.toList=[t,u])
  (ht:P.underlying t=some (.slice e)) (hu:P.underlying u=some (.slice e')) (hz:zeroCells P e=some zs) (hn0:P.cellsOf e≠0) (hzl:zs.length=P.cellsOf e) (hb:P.bytesOf e≠0) (h1:cA x=some x') (h2:cA y=some y') {v:V} {h':H}
  (hv:exO (.app (P.cellsOf e) (P.bytesOf e) x' y') s E.h=some (v,h')):Does P E a o v h':=by
 obtain⟨i,z,hi,hz0,hzr⟩:=qfx (E:=E) hz;have hisz:i.size=P.cellsOf e:=by simp[Program.cellsOf,hi]
 have hib:i.bytes=P.bytesOf e:=by simp[Program.bytesOf,hi]
 have hzs:z.cells.size=i.size:=by have:=qav hzr;simp at this;omega
 simp only[exO]at hv;cases hr:qhw (P.cellsOf e) E.h (y'.ev s)with
 | none=>rw[hr]at hv;cases hv
 | some ys =>
  rw[hr]at hv;simp only[z1h]at hv;cases hap:zef E.h (P.cellsOf e) (P.bytesOf e) (x'.ev s) ys with
  | some r =>
   rw[hap]at hv;simp only[jC]at hv;subst hv;have hv':=hap;unfold zef at hv';split at hv'
   .rename_i hcc;obtain⟨ad,cap,news,e1,e2,e3,e4,e5⟩:=q6h hE (qax hs h2) hr hcc.1;have hone:=qrq hcc.2 e4;refine qqm ho hc ha hat ?_;rw[e1];rw[<-hisz,<-hib]at hap;exact quq hE (qup ht hu hi hz0 hzs (by omega) (by rw[hisz];exact e3) e5 hone e2) (by omega) e4 hone (qax hs h1) hap
   .cases hv'
  | none =>
   rw[hap]at hv;simp only at hv;split at hv
   .rename_i hcc;obtain⟨ad,cap,news,e1,e2,e3,e4,e5⟩:=q6h hE (qax hs h2) hr hcc.1;have hone:∀u∈news,u.oneCell'=true:=quz e4 (by
     have:=hcc.2;simp only[jP,List.mem_flatten]at this ⊢;rintro v ⟨r,hr',hv'⟩;exact this r hr' v hv')
    refine qqm ho hc ha hat ?_;rw[e1];rw[<-hisz,<-hib]at hv;exact zey hE (qup ht hu hi hz0 hzs (by omega) (by rw[hisz];exact e3) e5 hone e2) (by omega) e4 hone (by rw[hisz];exact hcc.1) (qax hs h1) hv
   .cases hv
theorem zfs{x y:Operand}{x' y':A}{t u e e':TypeId}{c:Go.Call}{zs:List V}(ho:o.op=.call c)(hc:c.callee=.builtin .append)(ha:c.args.toList=[x,y])(hat:c.argTypes.toList=[t,u])
  (ht:P.underlying t=some (.slice e)) (hu:P.underlying u=some (.slice e')) (hz:zeroCells P e=some zs) (hn0:P.cellsOf e≠0) (hzl:zs.length=P.cellsOf e) (hb:P.bytesOf e≠0) (h1:cA x=some x') (h2:cA y=some y') {v:V} {h':H}
  (hv:exO (.appF (P.cellsOf e) (P.bytesOf e) x' y') s E.h=some (v,h')):Does P E a o v h':=by
 obtain⟨i,z,hi,hz0,hzr⟩:=qfx (E:=E) hz;have hisz:i.size=P.cellsOf e:=by simp[Program.cellsOf,hi]
 have hib:i.bytes=P.bytesOf e:=by simp[Program.bytesOf,hi]
 have hzs:z.cells.size=i.size:=by have:=qav hzr;simp at this;omega
 simp only[exO]at hv;split at hv
 .rename_i cs hy;split at hv
  .rename_i hn1;have r2:=qax hs h2;rw[hy]at r2;unfold rel at r2;obtain⟨b,q,_,r3,r4⟩:=r2;rcases r4 with⟨r4,_⟩ | ⟨_,cap,r5,_⟩
   .cases r4
   obtain⟨E1,b1,b2,b3,b4,b5,b6⟩:=qwf cs hE;have r6:=q4n hE b2 b4 b6 r3;obtain⟨us,u1,u2,u3⟩:=qiv r6;have hfl:∀l:List V,(l.map fun c=>[qan E.h c]).flatten=l.map (qan E.h):=by
    intro l;induction l with
    | nil=>rfl
    | cons c l ih=>simp[ih]
   have hv':=hv;unfold zef at hv';split at hv'
   .rename_i hcc;have e4:qai E1 (cs.map fun c=>[qan E.h c]).flatten us:=by rw[hfl cs];exact u3
    have hone:=qrq hcc.2 e4;rw[<-hisz,<-hib,<-b3]at hv;have:=quq b1 (qup (P:=P) (t:=t) (u:=u) (ty:=o.type) (a:=some ⟨b,q,none⟩) (cap:=cap) (n:=(cs.map fun c=>[qan E.h c]).length) ht hu hi hz0 hzs (by omega) (by rw[u1,hisz,hn1];simp) (.inr ⟨b,q,rfl,u2⟩) hone (.inr (by simp))) (by omega) e4 hone (qcz hE b2.toExt0 _ _ (qax hs h1)) hv;obtain⟨E',val,k1,k2,k3,k4,k5⟩:=this;refine qqm ho hc ha hat ⟨E',val,k1,b2.trans k2,k3,?_,k5⟩
    rw[<-b4,r5];simpa using k4
   .cases hv'
  .cases hv
 .cases hr:qpg E.h (y'.ev s)with
  | none=>rw[hr]at hv;cases hv
  | some ys =>
   rw[hr]at hv;simp only at hv;have hv':=hv;unfold zef at hv';split at hv'
   .rename_i hcc;obtain⟨ad,cap,news,e1,e2,e3,e4,e5⟩:=q2y hE (qax hs h2) hr hcc.1;have hone:=qrq hcc.2 e4;refine qqm ho hc ha hat ?_;rw[e1];rw[<-hisz,<-hib]at hv;exact quq hE (qup ht hu hi hz0 hzs (by omega) (by rw[hisz];exact e3) e5 hone e2) (by omega) e4 hone (qax hs h1) hv
   .cases hv'
theorem zft{x y:Operand}{x' y':A}{t u e:TypeId}{kn:Go.IntKind}{c:Go.Call}{zs:List V}(ho:o.op=.call c)(hc:c.callee=.builtin .append)(ha:c.args.toList=[x,y])(hat:c.argTypes.toList=[t,u])
  (ht:P.underlying t=some (.slice e)) (hu:P.underlying u=some (.int kn)) (hz:zeroCells P e=some zs) (hn0:P.cellsOf e≠0) (hzl:zs.length=P.cellsOf e) (hb:P.bytesOf e≠0) (h1:cA x=some x') (h2:cA y=some y') {v:V} {h':H}
  (hv:exO (.appz (P.cellsOf e) (P.bytesOf e) (zs.map (qan [])) x' y') s E.h=some (v,h')):Does P E a o v h':=by
 obtain⟨i,z,hi,hz0,hzr⟩:=qfx (E:=E) hz;have hisz:i.size=P.cellsOf e:=by simp[Program.cellsOf,hi]
 have hib:i.bytes=P.bytesOf e:=by simp[Program.bytesOf,hi]
 have hzs:z.cells.size=i.size:=by have:=qav hzr;simp at this;omega
 simp only[exO]at hv;cases hr:qqj (y'.ev s)with
 | none=>rw[hr]at hv;cases hv
 | some m =>
  rw[hr]at hv;simp only at hv;obtain⟨q,k,r1,r2,r3⟩:=qeu hr;have ry:=qax hs h2;rw[r1]at ry;unfold rel at ry;have hk:k=(m:Int):=by omega
  subst hk;have hzm:=qia (E:=E) (len:=m) (n:=i.size) (zs:=zs.map (qan [])) (z:=z.cells) (qdj hzr) (by simp;omega) (by omega);have hzc:Go.Builtin.zeroCells z.cells m=(Array.range (m*i.size)).map (z.cells[· % z.cells.size]!):=by simp only[Go.Builtin.zeroCells,hzs]
  rw[<-hzc]at hzm;have hv':=hv;unfold zef at hv';split at hv'
  .rename_i hcc;have hfit:m*i.bytes<=2 ^ 47:=by
    cases hx:x'.ev s<;>rw[hx]at hv'<;>simp only at hv'<;>try (cases hv';done)
    case nils =>
     split at hv'
     .rename_i h;rw[hib];simpa using h
     .cases hv'
    case nilx =>
     split at hv'
     .rename_i h;rw[hib];simpa using h
     .cases hv'
    case immc els =>
     split at hv'
     .rename_i h;have h0:m=0:=by simpa using h
      rw[h0,Nat.zero_mul];exact Nat.zero_le _
     split at hv'
     .rename_i h;have h5:=h.2;rw[kD]at h5;rw[hib];have:m*P.bytesOf e<=(els.length+m)*P.bytesOf e:=jV _ (by omega);omega
     .cases hv'
    case sl id g m0 off len =>
     cases hob:E.h[id]? with
     | none=>rw[hob]at hv';cases hv'
     | some ob =>
      rw[hob]at hv';obtain⟨gg,kk⟩:=ob;cases kk<;>simp only at hv'<;>try (cases hv';done)
      split at hv'
      .rename_i h;have h5:=h.2.2.2.2;rw[kD]at h5;rw[hib];have:m*P.bytesOf e<=(len+m)*P.bytesOf e:=jV _ (by omega);omega
      .split at hv'
       .rename_i h;have h5:=h.2.2.2.2;rw[kD]at h5;rw[hib];have:m*P.bytesOf e<=(len+m)*P.bytesOf e:=jV _ (by omega);omega
       .cases hv'
   have hone:=qrq hcc.2 hzm;refine qqm ho hc ha hat ?_;rw[ry];rw[<-hisz,<-hib]at hv;have hA:=zlb (P:=P) (t:=t) (u:=u) (ty:=o.type) (kq:=q) ht hu hi hz0 hzs (by omega) (by omega) (w:=E.w) hfit;have hA':Ap P t u o.type e i (.int q m) (List.replicate m (zs.map (qan []))).length (Go.Builtin.zeroCells z.cells m).toList E.w:=by rw[kD];exact hA
   exact quq hE hA' (by omega) hzm hone (qax hs h1) hv
  .cases hv'
omit hE in
theorem zil{x:Operand}{x':A}(h1:cA x=some x'){k:Go.IntKind}{n:Int}(h:x'.ev s=.int k n):a.eval x=.int k n:=by have r:=qax hs h1;rw[h]at r;unfold rel at r;exact r
theorem zgd{x y:Operand}{x' y':A}{c:Go.Call}{mn:Bool}(ho:o.op=.call c)(hc:c.callee=.builtin (if mn then .min else .max))(ha:c.args.toList=[x,y])(h1:cA x=some x')(h2:cA y=some y'){v:V}{h':H}
  (hv:exO (.mx mn x' y') s E.h=some (v,h')):Does P E a o v h':=by
 have ha':c.args=#[x,y]:=by rw[<-Array.toList_inj];simpa using ha
 simp only[exO]at hv;cases hx:x'.ev s<;>rw[hx]at hv<;>(try simp only at hv)<;>try (cases hv;done)
 rename_i k n;cases hy:y'.ev s<;>rw[hy]at hv<;>(try simp only at hv)<;>try (cases hv;done)
 rename_i k' n';split at hv
 .rename_i hk;subst hk;cases hv;have e1:=zil hs h1 hx;have e2:=zil hs h2 hy;refine Does.same hE (u:=.int k (if mn then(if n'<n then n' else n)else(if n'>n then n' else n))) ?_ (by unfold rel;rfl);cases mn
  .simp[execOp,ho,Go.resolve,hc,ha',e1,e2,Go.invoke,Go.builtin,Go.Builtin.max_,Go.Builtin.max2]
  .simp[execOp,ho,Go.resolve,hc,ha',e1,e2,Go.invoke,Go.builtin,Go.Builtin.min_,Go.Builtin.min2]
 .cases hv
theorem zlt{x:Operand}{x':A}{t e:TypeId}{c:Go.Call}(ho:o.op=.call c)(hc:c.callee=.builtin .cap)(ha:c.args.toList=[x])(hat:c.argTypes.toList=[t])(ht:P.underlying t=some (.slice e))(h1:cA x=some x'){v:V}{h':H}
  (hv:exO (.cap x') s E.h=some (v,h')):Does P E a o v h':=by
 have ha':c.args=#[x]:=by rw[<-Array.toList_inj];simpa using ha
 have hat':c.argTypes=#[t]:=by rw[<-Array.toList_inj];simpa using hat
 have r1:=qax hs h1;simp only[exO]at hv;cases hx:x'.ev s<;>rw[hx]at hv r1<;>simp only at hv<;>try (cases hv;done)
 cases hv;unfold rel at r1;obtain⟨ad,hu⟩:=r1;refine Does.same hE (u:=.int .i64 0) ?_ (by unfold rel;rfl);simp[execOp,ho,Go.resolve,hc,ha',hat',hu,Go.invoke,Go.builtin,Go.Builtin.cap_,Go.run_underlying ht,Go.goInt]
theorem zmc{x:Operand}{x':A}{t:TypeId}(ho:o.op=.range t x)(ht:P.underlying t=some .string)(h1:cA x=some x'){v:V}{h':H}(hv:exO (.rng x') s E.h=some (v,h')):Does P E a o v h':=by
 have r1:=qax hs h1;simp only[exO]at hv;cases hx:x'.ev s<;>rw[hx]at hv r1<;>simp only at hv<;>try (cases hv;done)
 rename_i l;cases hv;unfold rel at r1;have hrun:=Go.run_range_string (P:=P) E.w t ⟨l.toArray⟩ ht;obtain⟨k1,k2⟩:=qhd hE (Grow.alloc E.w (.stringIter ⟨l.toArray⟩ 0)) ⟨0,.sit l 0⟩ (some (E.w.heap.size,0,0)) (by intro b D h;cases h;exact⟨jD _,by simp⟩) (fun _=>by
  unfold qej;refine⟨E.w.heap.size,(0,0),by simp,fun h=>by have:=hE.S _ h;omega,?_⟩;exact Go.heap_alloc_new E.w _)
 refine⟨_,k1,k2,rfl,.value (.pointer (some ⟨E.w.heap.size,0,none⟩)),?_,.inl ⟨_,rfl,?_⟩⟩
 .simp only[execOp,ho,r1,Sem.run_bind,hrun,Go.Result.andThen_ok];rfl
 .unfold rel;exact⟨by simp,_,rfl,fun o _ _=>⟨(0,0),by simp⟩⟩
theorem zma{x:Operand}{x':A}(ho:o.op=.next x true)(h1:cA x=some x'){v:V}{h':H}(hv:exO (.nxt x') s E.h=some (v,h')):Does P E a o v h':=by
 have r1:=qax hs h1;simp only[exO]at hv;cases hx:x'.ev s<;>rw[hx]at hv r1<;>simp only at hv<;>try (cases hv;done)
 rename_i id;cases hob:E.h[id]? with
 | none=>rw[hob]at hv;cases hv
 | some ob =>
  rw[hob]at hv;obtain⟨g,kk⟩:=ob;cases kk<;>simp only at hv<;>try (cases hv;done)
  rename_i l pos;unfold rel at r1;obtain⟨hlt,b,hu,h3⟩:=r1;obtain⟨C,hb⟩:=h3 _ hob rfl;have hro:=hE.obj id _ hob;unfold qej at hro;obtain⟨b',C',q1,q2,q3⟩:=hro;rw[hb]at q1;cases q1;have hsz:(ByteArray.mk l.toArray).size=l.length:=by simp[ByteArray.size]
  split at hv
  .rename_i hp;cases hv;have hp':pos<(ByteArray.mk l.toArray).size:=by rw[hsz];exact hp
   have hbs:=qea q3;obtain⟨k1,k2⟩:=qkx hE hob rfl (o':=⟨g,.sit l (pos+(Go.Utf8.decode ⟨l.toArray⟩ pos).2)⟩) (fun _ h=>by cases h)
    (w':={ E.w with heap:=E.w.heap.setIfInBounds b (.stringIter ⟨l.toArray⟩ (pos+(Go.Utf8.decode ⟨l.toArray⟩ pos).2)) }) (by simp) (fun k hk hne=>by
     have:k≠b:=fun h=>hne C (by rw[h];exact hb);simp only;rw[Array.getElem?_setIfInBounds_ne (Ne.symm this)]) rfl rfl (E.b id) (fun k D hk=>.inl ⟨D,hk⟩)
    (jD _) rfl (fun _=>⟨rfl,jD _,rfl⟩) (fun _=>by
     unfold qej;refine⟨b,C,by simp[hb],q2,?_⟩;simp[hbs])
   refine⟨_,k1,k2,rfl,.value (.tuple #[.bool true,.int .i64 pos,.int .i32 (Go.Utf8.decode ⟨l.toArray⟩ pos).1]),?_,.inl ⟨_,rfl,?_⟩⟩
   .simp[execOp,ho,hu,Go.Instr.next,Go.getObj,Go.setObj,Sem.run,Go.Result.andThen,q3,hp',Go.goInt]
   .unfold rel;refine⟨_,rfl,?_⟩;simp[qai,rel]
  .rename_i hp;cases hv;have hp':¬pos<(ByteArray.mk l.toArray).size:=by rw[hsz];exact hp
   refine Does.same hE (u:=.tuple #[.bool false]) ?_ (by unfold rel;exact⟨_,rfl,by simp[qai,rel]⟩);simp[execOp,ho,hu,Go.Instr.next,Go.getObj,Sem.run,q3,hp']
end
open Go (World Value Addr Obj Program Act Operand Oper Op Sem Result Next undef execOp TypeId TypeDesc Builtin.firstCells TypeInfo)
theorem q8w{P:Program}{E:Env}(hE:Ok P E){id g n p:Nat}{els ys:List (List V)}{news:List Value}(ho:E.h[id]?=some ⟨g,.arr n els⟩){b:Nat}{C:Nat×Nat}(hb:E.b id=some (b,C))(hp:p+ys.length<=els.length)(hsz:qno n ys=true)
  (hpu:qcc ys=true) (hr:qai E ys.flatten news) :
  ∃E',Ok P E'/\Ext E E'/\E'.h=E.h.set id ⟨g,.arr n (qdc els p ys)⟩/\(Go.storeCells ⟨b,(C.2+p)*n,none⟩ news 0).run P E.w=.ok () E'.w:=by
 have hn:=qkz hsz;have hone:=qrq hpu hr;have hlen:news.length=ys.length*n:=by rw[<-qav hr,qau hn]
 have hro:=hE.obj id _ ho;unfold qej at hro;obtain⟨hpe,hor⟩:=hro;rcases hor with⟨h,_⟩ | ⟨b',C',cs0,ty0,q1,q2,q3,q4,q5,q6,q7⟩
 .rw[hb]at h;cases h
 .rw[hb]at q1;cases q1;rw[Nat.add_mul]at q5;rw[Nat.add_mul C.2 p];obtain⟨us,u1,u2,u3⟩:=qiz (qel p q7);obtain⟨vs,v1,v2,v3⟩:=qiz (qff (p+ys.length) q7);have hul:us.length=p*n:=by rw[u1,List.length_take,Nat.min_eq_left (by omega)]
  have hn':∀q∈qdc els p ys,q.length=n:=by
   intro q hq;have old:q∈els->q.length=n:=fun hq=>by obtain⟨j,hj⟩:=List.mem_iff_getElem?.1 hq;exact(qci q7 hj).1
   rcases jQ.1 hq with hq | hq
   .exact old (List.mem_of_mem_take hq)
   .rcases jQ.1 hq with hq | hq
    .exact hn q hq
    .exact old (List.mem_of_mem_drop hq)
  have hlo:(qdc els p ys).length=els.length:=by rw[qmy (by omega)];omega
  have hflat:qai E (qdc els p ys).flatten (us++(news++vs)):=by unfold qdc;rw[jZ,jZ];exact qch u3 (qch hr v3)
  have hll:(us++(news++vs)).length=(qdc els p ys).length*n:=by rw[jF,jF,hul,hlen,v1];simp only[qdc,jF,List.length_take,Nat.min_eq_left (show p<=els.length by omega),Nat.add_mul]
  have hmul:(p+ys.length)*n<=C.1*n:=jV _ (by omega);rw[Nat.add_mul]at hmul;obtain⟨w',cs',g1,g2,g3,g4,g5,g6,g7,g8⟩:=qhm (P:=P) (b:=b) (off:=C.2*n+p*n) (ty:=ty0) news 0 E.w cs0 q3 (by omega) hone;have htk:=qui (cs:=cs') (l:=us++(news++vs)) (D:=C.2*n) (fun j v h=>by
   rw[g8 (C.2*n+j)];by_cases hj:j<us.length
   .rw[jI hj]at h;rw[if_neg (by omega),<-qdv q3];exact u2 j v h
   .rw[jJ (by omega)]at h;by_cases hj2:j-us.length<news.length
    .rw[jI hj2]at h;rw[if_pos (by omega)];rw[show C.2*n+j-(C.2*n+p*n+0)=j-us.length by omega];exact h
    .rw[jJ (by omega)]at h;rw[if_neg (by omega),<-qdv q3];have:=v2 _ v h;rw[show C.2*n+(p+ys.length)*n+(j-us.length-news.length)=C.2*n+j by rw[Nat.add_mul];omega]at this;exact this)
  obtain⟨k1,k2⟩:=qkx hE ho rfl (o':=⟨g,.arr n (qdc els p ys)⟩) (fun _ h=>by cases h) (w':=w') (by omega) (fun k hk hne=>g5 k (fun h=>hne C (by rw[h];exact hb))) g6 g7 (E.b id) (fun k D hk=>.inl ⟨D,hk⟩)
   (jD _) rfl (fun _=>⟨rfl,by simp[qmh,hlo],rfl⟩) (fun y=>by
    unfold qej;refine⟨qzy hpe hpu,.inr ⟨b,C,cs',ty0,by simp[hb],q2,g3,q4,by rw[Nat.add_mul];omega,by omega,?_⟩⟩;refine qfw (cs:=cs'.toList.drop (C.2*n)) hn' (fun j u hj _=>?_) (by rw[<-hll,htk];exact qbb hE y _ _ hflat);show w'.cell? ⟨b,C.2*n+j,none⟩=some u;rw[qdv g3];simpa using hj)
  exact⟨_,k1,k2,rfl,g1⟩
theorem zud{P:Program}{E:Env}(hE:Ok P E){id g m off len n:Nat}{u:Value}{els:List (List V)}(hx:rel E (.sl id g m off len) u)(ho:E.h[id]?=some ⟨g,.arr n els⟩)(hl:len≠0)(hle:off+len<=els.length) :
  ∃b C cap,u=.slice (some ⟨b,(C.2+off)*n,none⟩) len cap/\E.b id=some (b,C):=by
 unfold rel at hx;obtain⟨_,_,a,cap,rfl,_,_,_,h3⟩:=hx;obtain⟨_,hm,h4⟩:=h3 _ ho rfl rfl;have hro:=hE.obj id _ ho;unfold qej at hro;rcases h4 with⟨h5,_⟩ | ⟨b,C,x,h5,rfl,_,h6⟩
 .rcases hro.2 with h | ⟨b',C',cs0,ty0,q1,_⟩
  .exfalso;have:=h.2;subst this;simp at hle;omega
  .rw[h5]at q1;cases q1
 .refine⟨b,C,cap,?_,h5⟩;have hm':m=n:=hm;rw[h6 (.inl (by omega)),hm']
section
variable{P:Program}{E:Env}(hE:Ok P E){s:List V}{a:Act}(hs:qai E s a.tmps.toList){o:Oper}
include hE hs
theorem zlu{x:Operand}{x':A}{t e:TypeId}{c:Go.Call}{zs:List V}(ho:o.op=.call c)(hc:c.callee=.builtin .clear)(ha:c.args.toList=[x])(hat:c.argTypes.toList=[t])(ht:P.underlying t=some (.slice e))(hn0:P.cellsOf e≠0)(hz:zeroCells P e=some zs)(hzl:zs.length=P.cellsOf e)
  (h1:cA x=some x') {v:V} {h':H} (hv:exO (.clr (P.cellsOf e) (zs.map (qan [])) x') s E.h=some (v,h')):Does P E a o v h':=by
 have ha':c.args=#[x]:=by rw[<-Array.toList_inj];simpa using ha
 have hat':c.argTypes=#[t]:=by rw[<-Array.toList_inj];simpa using hat
 obtain⟨i,z,hi,hz0,hzr⟩:=qfx (E:=E) hz;have hisz:i.size=P.cellsOf e:=by simp[Program.cellsOf,hi]
 have hzs:z.cells.size=i.size:=by have:=qav hzr;simp at this;omega
 have r1:=qax hs h1;have none_:∀{ad:Option Addr} {cap:Nat},a.eval x=.slice ad 0 cap->Does P E a o .undef E.h:=by intro ad cap hu;refine Does.same hE (u:=.tuple #[]) ?_ (by unfold rel;trivial);cases ad<;>simp[execOp,ho,Go.resolve,hc,ha',hat',hu,Go.invoke,Go.builtin,Go.Builtin.clear_,Go.run_underlying ht]
 simp only[exO]at hv;cases hx:x'.ev s<;>rw[hx]at hv r1<;>simp only at hv<;>try (cases hv;done)
 case nils =>cases hv;unfold rel at r1;obtain⟨ad,hu⟩:=r1;exact none_ hu
 case sl id g m off len =>
  split at hv
  .rename_i h0;cases hv;subst h0;unfold rel at r1;obtain⟨_,_,ad,cap,hu,_⟩:=r1;exact none_ hu
  .rename_i h0;cases hob:E.h[id]? with
   | none=>rw[hob]at hv;cases hv
   | some ob =>
    rw[hob]at hv;obtain⟨gg,kk⟩:=ob;cases kk<;>simp only at hv<;>try (cases hv;done)
    rename_i m' els;split at hv
    .rename_i hcc;obtain⟨rfl,rfl,hle,hzp⟩:=hcc;cases hv;obtain⟨b,C,cap,hu,hb⟩:=zud hE r1 hob h0 hle;have hzm:=qia (E:=E) (len:=len) (n:=i.size) (zs:=zs.map (qan [])) (z:=z.cells) (qdj hzr) (by simp;omega) (by omega);have hzc:Go.Builtin.zeroCells z.cells len=(Array.range (len*i.size)).map (z.cells[· % z.cells.size]!):=by simp only[Go.Builtin.zeroCells,hzs]
     rw[<-hzc]at hzm;have hsz:qno (P.cellsOf e) (List.replicate len (zs.map (qan [])))=true:=by simp only[qno,jP];intro q hq;rw[List.eq_of_mem_replicate hq];simpa using hzl
     have hpu:qcc (List.replicate len (zs.map (qan [])))=true:=by simp only[qcc,jP];intro q hq;rw[List.eq_of_mem_replicate hq];simpa[jP]using hzp
     obtain⟨E',k1,k2,k3,k4⟩:=q8w hE hob hb (p:=off) (by simpa using hle) hsz hpu hzm;refine⟨E',k1,k2,k3,.value (.tuple #[]),?_,.inl ⟨_,rfl,by unfold rel;trivial⟩⟩;have hzv:(Go.zeroValue e).run P E.w=.ok z E.w:=by simp[Go.zeroValue,Go.typeInfo,hi,hz0]
     obtain⟨len',rfl⟩:∃l,len=l+1:=⟨len-1,by omega⟩
     simp only[execOp,ho,Go.resolve,hc,ha',hat',Go.invoke,Go.builtin,Sem.run_bind,Sem.run_pure,Go.Result.andThen_ok,List.map_toArray,List.map_cons,List.map_nil,hu,Go.Builtin.clear_];simp[Go.run_underlying ht,hzv,k4]
    .cases hv
theorem zlv{x y:Operand}{x' y':A}{t u e:TypeId}{c:Go.Call}(ho:o.op=.call c)(hc:c.callee=.builtin .copy)(ha:c.args.toList=[x,y])(hat:c.argTypes.toList=[t,u])(ht:P.underlying t=some (.slice e))(hn0:P.cellsOf e≠0)
  (h1:cA x=some x') (h2:cA y=some y') {v:V} {h':H} (hv:exO (.cpy (P.cellsOf e) x' y') s E.h=some (v,h')):Does P E a o v h':=by
 have ha':c.args=#[x,y]:=by rw[<-Array.toList_inj];simpa using ha
 have hat':c.argTypes=#[t,u]:=by rw[<-Array.toList_inj];simpa using hat
 obtain⟨inf,hinf,hisz⟩:=qcq hn0;have r1:=qax hs h1;have r2:=qax hs h2;have none_:∀{ad ad':Option Addr} {l l' cap cap':Nat},a.eval x=.slice ad l cap->a.eval y=.slice ad' l' cap'->min l' l=0->Does P E a o (.int .i64 0) E.h:=by
  intro ad ad' l l' cap cap' hu hw h0;refine Does.same hE (u:=.int .i64 0) ?_ (by unfold rel;rfl);have hf:∀w,(Builtin.firstCells inf.size 0 (.slice ad' l' cap')).run P w=.ok #[] w:=fun w=>by
   cases ad' with
   | none=>exact Go.run_firstCells_none w inf.size 0 l' cap'
   | some ad=>exact Go.run_firstCells_some w inf.size 0 ad l' cap' [] (by simp) (fun j v h=>by simp at h)
  have h0':Nat.min l' l=0:=h0;cases ad<;>simp[execOp,ho,Go.resolve,hc,ha',hat',hu,hw,Go.invoke,Go.builtin,Go.Builtin.copy_,Go.Builtin.lenOf,Go.run_underlying ht,qbg hinf,h0',hf,Go.goInt,Go.storeCells]
 simp only[exO]at hv;cases hr:qpg E.h (y'.ev s)with
 | none=>rw[hr]at hv;cases hx:x'.ev s<;>rw[hx]at hv<;>cases hv
 | some ys =>
  rw[hr]at hv;cases hx:x'.ev s<;>rw[hx]at hv r1<;>simp only at hv<;>try (cases hv;done)
  case nils =>
   cases hv;unfold rel at r1;obtain⟨ad,hu⟩:=r1;have hy:∃ad' l' cap',a.eval y=.slice ad' l' cap':=by
    cases hyv:y'.ev s<;>rw[hyv]at hr r2<;>simp[qpg,qbr]at hr
    case immc=>unfold rel at r2;obtain⟨q,hq,_⟩:=r2;exact⟨_,_,_,hq⟩
    case nilx=>unfold rel at r2;exact⟨_,_,_,r2⟩
    .unfold rel at r2;obtain⟨q,hq⟩:=r2;exact⟨_,_,_,hq⟩
    .unfold rel at r2;obtain⟨q,q',hq,_⟩:=r2;exact⟨_,_,_,hq⟩
    .unfold rel at r2;obtain⟨_,_,q,q',hq,_⟩:=r2;exact⟨_,_,_,hq⟩
   obtain⟨ad',l',cap',hw⟩:=hy;exact none_ hu hw (by simp)
  case sl id g m off len =>
   have hy:∃ad' cap',a.eval y=.slice ad' ys.length cap':=by
    cases hyv:y'.ev s<;>rw[hyv]at hr r2<;>simp only[qpg,qbr]at hr<;>try (cases hr;done)
    case immc=>cases hr;unfold rel at r2;obtain⟨q,hq,_⟩:=r2;exact⟨_,_,hq⟩
    case nilx=>cases hr;unfold rel at r2;exact⟨_,_,r2⟩
    .cases hr;unfold rel at r2;obtain⟨q,hq⟩:=r2;exact⟨_,_,hq⟩
    .cases hr;unfold rel at r2;obtain⟨q,q',hq,_⟩:=r2;exact⟨_,_,hq⟩
    .rename_i id' g' m' off' len';cases hrw:qhg E.h id' g' with
     | none=>rw[hrw]at hr;cases hr
     | some els =>
      rw[hrw]at hr;simp only at hr;cases hwn:qma els off' len' with
      | none=>rw[hwn]at hr;cases hr
      | some l =>rw[hwn]at hr;cases hr;obtain⟨hle,rfl⟩:=qnw hwn;unfold rel at r2;obtain⟨_,_,q,q',hq,_⟩:=r2;refine⟨q,q',?_⟩;rw[hq];congr 1;simp;omega
   split at hv
   .rename_i h0;cases hv;unfold rel at r1;obtain⟨_,_,ad,cap,hu,_⟩:=r1;obtain⟨ad',cap',hw⟩:=hy;refine none_ hu hw ?_;rcases h0 with h0 | h0
    .omega
    .subst h0;simp
   .rename_i h0;have hl0:len≠0:=fun h=>h0 (.inl h);have hy0:ys≠[]:=fun h=>h0 (.inr h);cases hob:E.h[id]? with
    | none=>rw[hob]at hv;cases hv
    | some ob =>
     rw[hob]at hv;obtain⟨gg,kk⟩:=ob;cases kk<;>simp only at hv<;>try (cases hv;done)
     rename_i m' els;split at hv
     .rename_i hcc;obtain⟨rfl,rfl,hle,hsz,hpu⟩:=hcc;cases hv;obtain⟨b,C,cap,hu,hb⟩:=zud hE r1 hob hl0 hle;obtain⟨ad',cap',news,e1,e2,e3,e4,e5⟩:=q2y hE r2 hr hsz;have hkl:(ys.take (min ys.length len)).length=min ys.length len:=by simp
      obtain⟨k,hk⟩:∃k,k=min ys.length len:=⟨_,rfl⟩
      rw[<-hk]at hkl ⊢;have hkle:k<=ys.length:=by omega
      have htf:(ys.take k).flatten=ys.flatten.take (k*P.cellsOf e):=by
       have hn:=qkz hsz
       conv=>rhs;rw[<-List.take_append_drop k ys,jZ]
       have hfl:(ys.take k).flatten.length=k*P.cellsOf e:=by rw[qau (n:=P.cellsOf e) fun q hq=>hn q (List.mem_of_mem_take hq),hkl]
       rw[List.take_append_of_le_length (by omega),<-hfl,List.take_length]
      have hr':qai E (ys.take k).flatten (news.take (k*P.cellsOf e)):=by rw[htf];exact qhs _ e4
      have hsz':qno (P.cellsOf e) (ys.take k)=true:=by simp only[qno,jP]at hsz ⊢;exact fun q hq=>hsz q (List.mem_of_mem_take hq)
      obtain⟨E',k1,k2,k3,k4⟩:=q8w hE hob hb (p:=off) (by rw[hkl];omega) hsz' (qih hpu) hr';refine⟨E',k1,k2,k3,.value (.int .i64 k),?_,.inl ⟨_,rfl,by unfold rel;rfl⟩⟩;have hnl:(news.take (k*P.cellsOf e)).length=k*inf.size:=by rw[List.length_take,e3,hisz,Nat.min_eq_left (jV _ hkle)]
      have hpos:0<ys.length:=kA.2 hy0;have hfc:(Builtin.firstCells inf.size k (.slice ad' ys.length cap')).run P E.w=.ok (news.take (k*P.cellsOf e)).toArray E.w:=by
       rcases e5 with h | ⟨b',o',rfl,h⟩
       .subst h;have hl:0=ys.length*P.cellsOf e:=e3;rcases Nat.mul_eq_zero.1 hl.symm with h | h
        .omega
        .exact absurd h hn0
       .refine Go.run_firstCells_some E.w inf.size k ⟨b',o',none⟩ ys.length cap' _ hnl (fun j v hj=>?_);rw[qcm];have hjl:=(jG.1 hj).1;rw[List.getElem?_take_of_lt (by rw[hnl]at hjl;rw[<-hisz];exact hjl)]at hj;exact h j v hj
      have hmin:Nat.min ys.length len=k:=hk.symm;simp only[execOp,ho,Go.resolve,hc,ha',hat',Go.invoke,Go.builtin,Sem.run_bind,Sem.run_pure,Go.Result.andThen_ok,List.map_toArray,List.map_cons,List.map_nil,hu,e1,Go.Builtin.copy_];simp[Go.run_underlying ht,Go.Builtin.lenOf,hmin,qbg hinf,hfc,k4,Go.goInt]
     .cases hv
end
open Go (World Value Addr Obj Program Act Operand Oper Op Sem Result Next undef execOp TypeId TypeDesc MapEntry)
theorem qsf(a b:ByteArray):(a==b)=true<->a=b:=by
 obtain⟨x⟩:=a;obtain⟨y⟩:=b;constructor
 .intro h;have e:x=y:=by simpa using(show(x==y)=true from h)
  rw[e]
 .intro h;cases h;show(x==x)=true;simp
theorem znz{P:Program}{E:Env}{kt:TypeId}{kk:Nat}(hk:qji P kt=some kk){k a:V}{u ua:Value}(hv:qpt kk k=true)(hr:rel E k u)(ha:rel E a ua){t:Bool}(h:eqS k a=some t) :
  ∃d,P.underlying kt=some d/\Go.Instr.sameNow d u ua=some t/\(t=true->ua=u):=by
 have hd:∃d,P.underlying kt=some d/\((kk=0/\d=.bool)\/(kk=1/\∃q,d=.int q)\/(kk=2/\d=.string)):=by
  unfold qji at hk;split at hk<;>cases hk
  .exact⟨_,by assumption,.inl ⟨rfl,rfl⟩⟩
  .exact⟨_,by assumption,.inr (.inl ⟨rfl,_,rfl⟩)⟩
  .exact⟨_,by assumption,.inr (.inr ⟨rfl,rfl⟩)⟩
 obtain⟨d,hd,hdd⟩:=hd;refine⟨d,hd,?_⟩;cases k<;>simp[qpt]at hv<;>subst hv<;>cases a<;>simp only[eqS]at h<;>try (cases h;done)
 .obtain⟨_,rfl⟩:True/\d=.bool:=by rcases hdd with⟨_,h⟩ | ⟨h,_⟩ | ⟨h,_⟩<;>first | exact⟨trivial,h⟩ | (cases h)
  unfold rel at hr ha;subst hr ha;cases h;exact⟨rfl,fun h=>by simp at h;rw[h]⟩
 .obtain⟨_,q,rfl⟩:True/\∃q,d=.int q:=by rcases hdd with⟨h,_⟩ | ⟨_,h⟩ | ⟨h,_⟩<;>first | exact⟨trivial,h⟩ | (cases h)
  unfold rel at hr ha;subst hr ha;split at h
  .rename_i hkk;cases h;subst hkk;refine⟨by simp[Go.Instr.sameNow],fun h=>by simp at h;rw[h]⟩
  .cases h
 .rename_i l m;obtain rfl:d=.string:=by rcases hdd with⟨h,_⟩ | ⟨h,_⟩ | ⟨_,h⟩<;>first | exact h | (cases h)
  unfold rel at hr ha;subst hr ha;cases h;refine⟨?_,fun h=>by simp at h;rw[h]⟩;simp only[Go.Instr.sameNow];congr 1;by_cases e:l=m
  .subst e;rw[(qsf _ _).2 rfl];simp
  .have h1:((ByteArray.mk l.toArray)==(ByteArray.mk m.toArray))=false:=by
    cases hq:((ByteArray.mk l.toArray)==(ByteArray.mk m.toArray))with
    | false=>rfl
    | true=>exact absurd (by simpa using congrArg (fun b:ByteArray=>b.data.toList) ((qsf _ _).1 hq)) e
   rw[h1];simp[e]
theorem qfh{P:Program}{w:World}{r:Nat}{es:Array MapEntry}{clock:Nat}(hb:w.heap[r]?=some (.map es clock)):(Go.getObj r).run P w=.ok (.map es clock) w:=by simp[Go.getObj,Sem.run,hb]
theorem qnh{P:Program}{w:World}{r:Nat}{es:Array MapEntry}{clock:Nat}(o:Obj)(hb:w.heap[r]?=some (.map es clock)):(Go.setObj r o).run P w=.ok () { w with heap:=w.heap.setIfInBounds r o }:=by simp[Go.setObj,Sem.run,hb]
theorem qjx{P:Program}{w:World}{kt:TypeId}{d:TypeDesc}{k:Value}{l:List MapEntry}{a:Option (Nat×Value)}(hd:P.underlying kt=some d)(h:Go.Instr.findNow d k l 0=some a):(Go.Instr.findKey kt k l).run P w=.ok a w:=by simp[Go.Instr.findKey,Go.run_underlying hd,h]
theorem q6a{P:Program}(t:TypeId)(w:World):(Go.Instr.makeMap t none).run P w=.ok (.map (some w.heap.size)) (w.alloc (.map #[] 0)):=rfl
theorem qtz{E:Env}:∀{es:List (V×V)} {ms:List MapEntry},qjk E es ms->es.length=ms.length
 | [],ms,h=>by simp only[qjk]at h;subst h;rfl
 | (k,v) :: r,ms,h=>by obtain⟨e,es',rfl,_,_,_,_,h6⟩:=h;simp[qtz h6]
theorem q0d{E:Env}{k v:V}{e:MapEntry}(hk:rel E k e.key)(hv:rel E v e.val)(h1:k.scal1=true)(h2:v.scal1=true):∀{es:List (V×V)} {ms:List MapEntry},qjk E es ms->qjk E (es++[(k,v)]) (ms++[e])
 | [],ms,h=>by simp only[qjk]at h;subst h;exact⟨e,[],rfl,hk,hv,h1,h2,rfl⟩
 | (a,b) :: r,ms,h=>by obtain⟨e',es',rfl,g2,g3,g4,g5,g6⟩:=h;exact⟨e',_,rfl,g2,g3,g4,g5,q0d hk hv h1 h2 g6⟩
theorem q5w{E:Env}{k v:V}{e:MapEntry}(hk:rel E k e.key)(hv:rel E v e.val)(h1:k.scal1=true)(h2:v.scal1=true):∀{j:Nat} {es:List (V×V)} {ms:List MapEntry},qjk E es ms->qjk E (es.set j (k,v)) (ms.set j e)
 | _,[],ms,h=>by simp only[qjk]at h;subst h;simp[qjk]
 | 0,(a,b) :: r,ms,h=>by obtain⟨e',es',rfl,g2,g3,g4,g5,g6⟩:=h;exact⟨e,_,rfl,hk,hv,h1,h2,g6⟩
 | j+1,(a,b) :: r,ms,h=>by obtain⟨e',es',rfl,g2,g3,g4,g5,g6⟩:=h;exact⟨e',_,rfl,g2,g3,g4,g5,q5w hk hv h1 h2 g6⟩
theorem q6m{k v:V}:∀{es es':List (V×V)},q3p es k v=some es'->∃r,qpp es k=some r
 | [],_,_=>⟨none,rfl⟩
 | (a,b) :: r,es',h=>by
  simp only[q3p]at h;simp only[qpp];cases e:eqS k a with
  | none=>rw[e]at h;cases h
  | some t =>
   rw[e]at h;cases t with
   | true=>exact⟨_,rfl⟩
   | false =>
    simp only at h ⊢;cases e2:q3p r k v with
    | none=>rw[e2]at h;cases h
    | some x=>exact q6m e2
theorem q1s{P:Program}{E:Env}{kt:TypeId}{d:TypeDesc}{kk:Nat}(hd:P.underlying kt=some d)(hk:qji P kt=some kk){k:V}{u:Value}(hv:qpt kk k=true)(hr:rel E k u):∀{es:List (V×V)} {ms:List MapEntry} {r:Option V} (i:Nat),qjk E es ms->qpp es k=some r ->
  (r=none/\Go.Instr.findNow d u ms i=some none/\∀v,q3p es k v=some (es++[(k,v)])) \/
  ∃b j e,r=some b/\Go.Instr.findNow d u ms i=some (some (i+j,e.val))/\ms[j]?=some e/\rel E b e.val/\b.scal1=true/\e.key=u/\∀v,q3p es k v=some (es.set j (k,v))
 | [],ms,r,i,h,hf=>by simp only[qjk]at h;subst h;simp only[qpp]at hf;cases hf;exact .inl ⟨rfl,rfl,fun v=>rfl⟩
 | (a,b) :: rest,ms,r,i,h,hf=>by
  obtain⟨e,es',rfl,g2,g3,g4,g5,g6⟩:=h;simp only[qpp]at hf;cases ht:eqS k a with
  | none=>rw[ht]at hf;cases hf
  | some t =>
   rw[ht]at hf;obtain⟨d',hd',hs,heq⟩:=znz hk hv hr g2 ht;rw[hd]at hd';cases hd';cases t with
   | true =>cases hf;exact .inr ⟨b,0,e,rfl,by simp[Go.Instr.findNow,hs],rfl,g3,g5,heq rfl,fun v=>by simp[q3p,ht]⟩
   | false =>
    simp only at hf;rcases q1s hd hk hv hr (i+1) g6 hf with⟨q1,q2,q3⟩ | ⟨b',j,e',q1,q2,q3,q4,q5,q6,q7⟩
    .exact .inl ⟨q1,by simp[Go.Instr.findNow,hs,q2],fun v=>by simp[q3p,ht,q3]⟩
    .exact .inr ⟨b',j+1,e',q1,by simp[Go.Instr.findNow,hs,q2];omega,by simpa using q3,q4,q5,q6,fun v=>by simp[q3p,ht,q7]⟩
theorem qtp{P:Program}{w:World}{kt:TypeId}{d:TypeDesc}{kk:Nat}(hd:P.underlying kt=some d)(hk:qji P kt=some kk){u:Value}(em:Bool)(n:Nat):(Go.Instr.checkKey em (n+1) kt u).run P w=.ok () w:=by unfold Go.Instr.checkKey;simp only[Sem.run_bind,Go.run_underlying hd,Go.Result.andThen];unfold qji at hk;rw[hd]at hk;cases d<;>simp at hk<;>cases u<;>rfl
theorem q4y{kk:Nat}{k:V}(h:qpt kk k=true):k.scal1=true:=by cases k<;>first | rfl | (simp[qpt]at h)
theorem q6d{kk:Nat}{k:V}(h:qpt kk k=true){E:Env}{u:Value}(hr:rel E k u)(n:Nat):Go.Instr.sameBits n u u=true:=by cases k<;>simp[qpt]at h<;>unfold rel at hr<;>subst hr<;>cases n<;>simp[Go.Instr.sameBits,qsf]
section
variable{P:Program}{E:Env}(hE:Ok P E){s:List V}{a:Act}(hs:qai E s a.tmps.toList){o:Oper}
include hE hs
omit hs in
theorem zci{t:TypeId}(ho:o.op=.makeMap t none){v:V}{h':H}(hv:exO .mkmap s E.h=some (v,h')):Does P E a o v h':=by
 simp only[exO]at hv;cases hv;obtain⟨k1,k2⟩:=qhd hE (Grow.alloc E.w (.map #[] 0)) ⟨0,.map []⟩ (some (E.w.heap.size,0,0)) (by intro b D h;cases h;exact⟨jD _,by simp⟩) (fun _=>by
  unfold qej;refine⟨E.w.heap.size,(0,0),#[],0,by simp,fun h=>by have:=hE.S _ h;omega,?_,by simp[qjk]⟩;exact Go.heap_alloc_new E.w _)
 refine⟨_,k1,k2,rfl,.value (.map (some E.w.heap.size)),?_,.inl ⟨_,rfl,?_⟩⟩
 .simp only[execOp,ho,Option.map_none,Sem.run_bind,q6a,Go.Result.andThen_ok];rfl
 .unfold rel;exact⟨by simp,_,rfl,fun o _ _=>⟨(0,0),by simp⟩⟩
omit hs in
theorem zif{id:Nat}{g:Nat}{es:List (V×V)}{u:Value}(hx:rel E (.map id) u)(ho:E.h[id]?=some ⟨g,.map es⟩):∃b C ms clock,u=.map (some b)/\E.b id=some (b,C)/\¬E.S b/\E.w.heap[b]?=some (.map ms clock)/\qjk E es ms.toList:=by unfold rel at hx;obtain⟨_,b,hu,h3⟩:=hx;obtain⟨C,hb⟩:=h3 _ ho rfl;have hro:=hE.obj id _ ho;unfold qej at hro;obtain⟨b',C',ms,clock,q1,q2,q3,q4⟩:=hro;rw[hb]at q1;cases q1;exact⟨b,C,ms,clock,hu,hb,q2,q3,q4⟩
theorem zfy{x:Operand}{x':A}{t k e:TypeId}{c:Go.Call}(ho:o.op=.call c)(hc:c.callee=.builtin .len)(ha:c.args.toList=[x])(hat:c.argTypes.toList=[t])(ht:P.underlying t=some (.map k e))(h1:cA x=some x'){v:V}{h':H}
  (hv:exO (.lenm x') s E.h=some (v,h')):Does P E a o v h':=by
 have ha':c.args=#[x]:=by rw[<-Array.toList_inj];simpa using ha
 have hat':c.argTypes=#[t]:=by rw[<-Array.toList_inj];simpa using hat
 have r1:=qax hs h1;simp only[exO]at hv;cases hx:x'.ev s<;>rw[hx]at hv r1<;>simp only at hv<;>try (cases hv;done)
 rename_i id;cases hob:E.h[id]? with
 | none=>rw[hob]at hv;cases hv
 | some ob =>
  rw[hob]at hv;obtain⟨g,kk⟩:=ob;cases kk<;>simp only at hv<;>try (cases hv;done)
  rename_i es;cases hv;obtain⟨b,C,ms,clock,hu,hb,_,hm,hes⟩:=zif hE r1 hob;have hl:(ms.size:Int)=es.length:=by rw[qtz hes];simp
  refine Does.same hE (u:=.int .i64 es.length) ?_ (by unfold rel;rfl);simp[execOp,ho,Go.resolve,hc,ha',hat',hu,Go.invoke,Go.builtin,Go.Builtin.len_,Go.run_underlying ht,qfh hm,Go.goInt,hl]
theorem zga{x y:Operand}{x' y':A}{t kt e:TypeId}{ok:Bool}{kk:Nat}{zero:V}(ho:o.op=.lookup t x y ok)(ht:P.underlying t=some (.map kt e))(hk:qji P kt=some kk)(hz:qrz P e=some zero)(_hzs:zero.scal1=true)(h1:cA x=some x')(h2:cA y=some y'){v:V}{h':H}
  (hv:exO (.look kk zero ok x' y') s E.h=some (v,h')):Does P E a o v h':=by
 have r1:=qax hs h1;have r2:=qax hs h2;simp only[exO]at hv;split at hv
 .rename_i hkv;cases hx:x'.ev s<;>rw[hx]at hv r1<;>simp only at hv<;>try (cases hv;done)
  rename_i id;cases hob:E.h[id]? with
  | none=>rw[hob]at hv;cases hv
  | some ob =>
   rw[hob]at hv;obtain⟨g,K⟩:=ob;cases K<;>simp only at hv<;>try (cases hv;done)
   rename_i es;obtain⟨b,C,ms,clock,hu,hb,_,hm,hes⟩:=zif hE r1 hob;cases hf:qpp es (y'.ev s)with
   | none=>rw[hf]at hv;cases hv
   | some r =>
    rw[hf]at hv;simp only at hv;obtain⟨d,hd⟩:∃d,P.underlying kt=some d:=by unfold qji at hk;split at hk<;>first | (exact⟨_,by assumption⟩) | (cases hk)
    have hck:=qtp (P:=P) (w:=E.w) hd hk (u:=a.eval y) ms.isEmpty 9999;obtain⟨i,z,hi,hz0,hzr⟩:∃i z,P.info? e=some i/\i.zero=some z/\rel E zero z:=by
     unfold qrz at hz;cases hi:P.info? e with
     | none=>rw[hi]at hz;cases hz
     | some i =>
      rw[hi]at hz;cases hz0:i.zero with
      | none=>simp[hz0]at hz
      | some z =>simp[hz0]at hz;exact⟨i,z,rfl,hz0,q9c hz⟩
    have hzv:(Go.zeroValue e).run P E.w=.ok z E.w:=by simp[Go.zeroValue,Go.typeInfo,hi,hz0]
    rcases q1s hd hk hkv r2 0 hes hf with⟨rfl,q2,_⟩ | ⟨bv,j,en,rfl,q2,q3,q4,q5,q6,_⟩
    .simp only[Option.getD_none,Option.isSome_none]at hv;cases hv;refine Does.same hE (u:=if ok then .tuple #[z,.bool false]else z) ?_ ?_
     .simp[execOp,ho,hu,Go.Instr.lookup,Go.run_underlying ht,qfh hm,hck,qjx hd q2,hzv]
     .cases ok
      .exact hzr
      .show rel E (.tup [zero,.bool false]) (.tuple #[z,.bool false]);unfold rel;exact⟨_,rfl,by simp[qai,hzr,rel]⟩
    .simp only[Option.getD_some,Option.isSome_some]at hv;cases hv;refine Does.same hE (u:=if ok then .tuple #[en.val,.bool true]else en.val) ?_ ?_
     .simp[execOp,ho,hu,Go.Instr.lookup,Go.run_underlying ht,qfh hm,hck,qjx hd q2]
     .cases ok
      .exact q4
      .show rel E (.tup [bv,.bool true]) (.tuple #[en.val,.bool true]);unfold rel;exact⟨_,rfl,by simp[qai,q4,rel]⟩
 .cases hv
theorem zmd{x y z:Operand}{x' y' z':A}{t kt e:TypeId}{kk:Nat}(ho:o.op=.mapUpdate t x y z)(ht:P.underlying t=some (.map kt e))(hk:qji P kt=some kk)(h1:cA x=some x')(h2:cA y=some y')(h3:cA z=some z'){v:V}{h':H}
  (hv:exO (.upd kk x' y' z') s E.h=some (v,h')):Does P E a o v h':=by
 have r1:=qax hs h1;have r2:=qax hs h2;have r3:=qax hs h3;simp only[exO]at hv;split at hv
 .rename_i hkv;obtain⟨hkv,hsc⟩:=hkv;cases hx:x'.ev s<;>rw[hx]at hv r1<;>simp only at hv<;>try (cases hv;done)
  rename_i id;cases hob:E.h[id]? with
  | none=>rw[hob]at hv;cases hv
  | some ob =>
   rw[hob]at hv;obtain⟨g,K⟩:=ob;cases K<;>simp only at hv<;>try (cases hv;done)
   rename_i es;obtain⟨b,C,ms,clock,hu,hb,hnS,hm,hes⟩:=zif hE r1 hob;cases hup:q3p es (y'.ev s) (z'.ev s)with
   | none=>rw[hup]at hv;cases hv
   | some es' =>
    rw[hup]at hv;cases hv;obtain⟨r,hf⟩:=q6m hup;obtain⟨d,hd⟩:∃d,P.underlying kt=some d:=by unfold qji at hk;split at hk<;>first | (exact⟨_,by assumption⟩) | (cases hk)
    have hck:=qtp (P:=P) (w:=E.w) hd hk (u:=a.eval y) false 9999;have fin:∀(ms':Array MapEntry) (clock':Nat),(∀E':Env,Ext E E'->qjk E' es' ms'.toList)->(Go.Instr.mapUpdate t (.map (some b)) (a.eval y) (a.eval z)).run P E.w=.ok () { E.w with heap:=E.w.heap.setIfInBounds b (.map ms' clock') }->Does P E a o .undef (E.h.set id ⟨g,.map es'⟩):=by
     intro ms' clock' hrel hrun;have hbs:=qea hm;obtain⟨k1,k2⟩:=qkx hE hob rfl (o':=⟨g,.map es'⟩) (fun _ h=>by cases h)
      (w':={ E.w with heap:=E.w.heap.setIfInBounds b (.map ms' clock') }) (by simp) (fun k hk hne=>by
       have:k≠b:=fun h=>hne C (by rw[h];exact hb);simp only;rw[Array.getElem?_setIfInBounds_ne (Ne.symm this)]) rfl rfl (E.b id) (fun k D hk=>.inl ⟨D,hk⟩)
      (jD _) rfl (fun _=>⟨rfl,jD _,rfl⟩) (fun x=>by
       unfold qej;refine⟨b,C,ms',clock',by simp[hb],hnS,?_,hrel _ x⟩;simp[hbs])
     refine⟨_,k1,k2,rfl,_,?_,.inr ⟨rfl,rfl⟩⟩;simp only[execOp,ho,hu,Sem.run_bind,hrun,Go.Result.andThen_ok];rfl
    rcases q1s hd hk hkv r2 0 hes hf with⟨rfl,q2,q3⟩ | ⟨bv,j,en,rfl,q2,q3,q4,q5,q6,q7⟩
    .rw[q3]at hup;cases hup;refine fin (ms.push { key:=a.eval y,val:=a.eval z,born:=clock }) (clock+1) (fun E' x=>?_) ?_
     .rw[Array.toList_push];exact q0d (e:={ key:=a.eval y,val:=a.eval z,born:=clock }) (qcz hE x.toExt0 _ _ r2) (qcz hE x.toExt0 _ _ r3) (q4y hkv) hsc (qrk hE x.toExt0 _ _ hes)
     .simp[Go.Instr.mapUpdate,Go.run_underlying ht,qfh hm,hck,qjx hd q2,qnh _ hm]
    .rw[q7]at hup;cases hup;have hj:ms[j]?=some en:=by simpa using q3
     refine fin (ms.modify j fun e=>{ e with key:=a.eval y,val:=a.eval z }) clock (fun E' x=>?_) ?_
     .have hl:(ms.modify j fun e=>{ e with key:=a.eval y,val:=a.eval z }).toList=ms.toList.set j { en with key:=a.eval y,val:=a.eval z }:=by
       rw[Array.toList_modify];apply List.ext_getElem?;intro k;rw[List.getElem?_modify,List.getElem?_set];have hjl:=(jG.1 q3).1;by_cases hjk:j=k
       .subst hjk;have hjs:j<ms.size:=by simpa using hjl
        rw[if_pos rfl,if_pos hjl,q3];simp
       .simp[hjk]
      rw[hl];exact q5w (e:={ en with key:=a.eval y,val:=a.eval z }) (qcz hE x.toExt0 _ _ r2) (qcz hE x.toExt0 _ _ r3) (q4y hkv) hsc (qrk hE x.toExt0 _ _ hes)
     .have hst:(Go.Instr.keyThatStays (a.eval y) (a.eval y)).run P E.w=.ok (a.eval y) E.w:=by
       simp[Go.Instr.keyThatStays,q6d hkv r2]
      simp[Go.Instr.mapUpdate,Go.run_underlying ht,qfh hm,hck,qjx hd q2,hj,q6,hst,qnh _ hm]
 .cases hv
end
theorem qvx{P:Program}{E:Env}{f kk:Nat}{e:TypeId}(hk:qji P e=some kk):∀(m:Nat) {xs ys:List V} {us ws:List Value} {k:Nat} {U W:Array Value} {b:Bool},qai E xs us->qai E ys ws->eqL (List.replicate m kk) xs ys=some b ->
  U.toList.drop k=us->W.toList.drop k=ws->(Go.Op.eqItems (f+1) e 1 U W (List.range' k m)).run P E.w=.ok b E.w
 | 0,xs,ys,us,ws,k,U,W,b,hx,hy,he,hU,hW=>by
  cases xs<;>cases ys<;>simp only[List.replicate_zero,eqL]at he<;>try (cases he;done)
  cases he;simp[Go.Op.eqItems]
 | m+1,xs,ys,us,ws,k,U,W,b,hx,hy,he,hU,hW=>by
  cases xs with
  | nil=>simp[eqL,List.replicate_succ]at he
  | cons x xs =>
   cases ys with
   | nil=>simp[eqL,List.replicate_succ]at he
   | cons y ys =>
    unfold qai at hx hy;obtain⟨u,us',rfl,hxu,hx'⟩:=hx;obtain⟨v,ws',rfl,hyv,hy'⟩:=hy;have hU0:U[k]?=some u:=by rw[<-Array.getElem?_toList,<-List.head?_drop,hU];rfl
    have hW0:W[k]?=some v:=by rw[<-Array.getElem?_toList,<-List.head?_drop,hW];rfl
    have hU':U.toList.drop (k+1)=us':=by rw[<-List.drop_drop,hU];rfl
    have hW':W.toList.drop (k+1)=ws':=by rw[<-List.drop_drop,hW];rfl
    obtain⟨d,hd,hag⟩:=q4x hk;have p1:(Go.part e U k).run P E.w=.ok u E.w:=by simp[Go.part,qew hd,hag,hU0]
    have p2:(Go.part e W k).run P E.w=.ok v E.w:=by simp[Go.part,qew hd,hag,hW0]
    simp only[List.replicate_succ,eqL]at he;split at he
    .rename_i hkx;simp only[List.range'_succ,Go.Op.eqItems,Nat.mul_one,Sem.run_bind,p1,p2,Go.Result.andThen_ok];split at he
     .rename_i h1;rw[q7h hk hxu hyv hkx h1];simp only[Go.Result.andThen_ok,Bool.not_true,Bool.false_eq_true,if_false];exact qvx hk m hx' hy' he hU' hW'
     .rename_i h1;cases he;rw[q7h hk hxu hyv hkx h1];simp
     .cases he
    .cases he
section
variable{P:Program}{E:Env}(hE:Ok P E){s:List V}{a:Act}(hs:qai E s a.tmps.toList){o:Oper}
include hE hs
theorem zfv{op:Go.BinOp}{t yt e:TypeId}{n kk:Nat}{x y:Operand}{x' y':A}{neg:Bool}(ho:o.op=.binOp op t x y yt)(hop:(neg=false/\op=.eql)\/(neg=true/\op=.neq))(ht:P.underlying t=some (.array n e))
  (hk:qji P e=some kk) (h1c:P.cellsOf e=1) (hg:P.eqGuardType P.depth t=false)
  (h1:cA x=some x') (h2:cA y=some y') {p q:List V} (hx:x'.ev s=.agg p) (hy:y'.ev s=.agg q) {b:Bool} (hb:eqL (List.replicate n kk) p q=some b):Does P E a o (.bool (if neg then !b else b)) E.h:=by
 have r1:=qax hs h1;have r2:=qax hs h2;rw[hx]at r1;rw[hy]at r2;unfold rel at r1 r2;obtain⟨us,hu,hul⟩:=r1;obtain⟨ws,hw,hwl⟩:=r2;obtain⟨i,hi,hsz⟩:=qcq (P:=P) (t:=e) (by omega);have key:(Go.Op.equal t (.agg us) (.agg ws)).run P E.w=.ok b E.w:=by unfold Go.Op.equal;rw[show Go.Op.maxDepth=9998+1+1 from rfl,Go.run_equalIn_array E.w (9998+1) us ws ht hi,h1c,List.range_eq_range'];exact qvx hk n hul hwl hb (by simp) (by simp)
 have hgd:(Go.eqGuard op t x y (.agg us) (.agg ws)).run P E.w=.ok () E.w:=by unfold Go.eqGuard;rcases hop with⟨_,rfl⟩ | ⟨_,rfl⟩<;>simp[hg]
 refine Does.same hE (u:=.bool (if neg then !b else b)) ?_ (by unfold rel;rfl);rcases hop with⟨rfl,rfl⟩ | ⟨rfl,rfl⟩
 .simp[execOp,ho,hu,hw,hgd,Go.binOp,key]
 .simp[execOp,ho,hu,hw,hgd,Go.binOp,key]
theorem qzc{op:Go.BinOp}{t yt e:TypeId}{x:Operand}{x':A}{neg:Bool}(ho:o.op=.binOp op t x (.const (.slice none 0 0)) yt)(hop:(neg=false/\op=.eql)\/(neg=true/\op=.neq))(ht:P.underlying t=some (.slice e))
  (h1:cA x=some x') {v:V} {h':H} (hv:exO (.isnil neg x') s E.h=some (v,h')):Does P E a o v h':=by
 have r1:=qax hs h1;have run:∀ad len cap,a.eval x=.slice ad len cap->(execOp a.eval o).run P E.w=.ok (.value (.bool (if neg then !ad.isNone else ad.isNone))) E.w:=by
  intro ad len cap hu;have hgd:(Go.eqGuard op t x (.const (.slice none 0 0)) (.slice ad len cap) (.slice none 0 0)).run P E.w=.ok () E.w:=qik (by simp) (by simp);have heq:(Go.Op.equal t (.slice ad len cap) (.slice none 0 0)).run P E.w=.ok ad.isNone E.w:=by
   have hgen:∀n,(Go.Op.equalIn (n+1) t (.slice ad len cap) (.slice none 0 0)).run P E.w=.ok ad.isNone E.w:=by intro n;unfold Go.Op.equalIn;simp only[Sem.run_bind,Go.run_underlying ht,Go.Result.andThen_ok];cases ad<;>rfl
   exact hgen 9999
  have hc:a.eval (.const (.slice none 0 0))=.slice none 0 0:=rfl;rcases hop with⟨rfl,rfl⟩ | ⟨rfl,rfl⟩
  .simp[execOp,ho,hu,hc,hgd,Go.binOp,heq]
  .simp[execOp,ho,hu,hc,hgd,Go.binOp,heq]
 simp only[exO]at hv;cases hx:x'.ev s<;>rw[hx]at hv r1<;>simp only at hv<;>try (cases hv;done)
 case nils =>cases hv;unfold rel at r1;obtain⟨ad,hu⟩:=r1;exact Does.same hE (run _ _ _ hu) (by unfold rel;exact⟨_,rfl⟩)
 case nilx =>cases hv;unfold rel at r1;exact Does.same hE (run _ _ _ r1) (by unfold rel;cases neg<;>rfl)
 case imm els =>
  cases hv;unfold rel at r1;obtain⟨ad,cap,hu,_,_,h3⟩:=r1;refine Does.same hE (run _ _ _ hu) ?_;split
  .unfold rel;exact⟨_,rfl⟩
  .rename_i hne;rcases h3 with rfl | ⟨b,y,n,rfl,_⟩
   .exact absurd rfl hne
   .unfold rel;cases neg<;>rfl
 case sl id g m off len =>
  cases hv;unfold rel at r1;obtain⟨_,_,ad,cap,hu,hc1,hc2,_⟩:=r1;refine Does.same hE (run _ _ _ hu) ?_;split
  .unfold rel;exact⟨_,rfl⟩
  .rename_i hne;cases ad with
   | none=>have:=hc2 rfl;omega
   | some y=>unfold rel;cases neg<;>rfl
theorem qvv{op:Go.BinOp}{t yt e:TypeId}{x:Operand}{x':A}{neg:Bool}(ho:o.op=.binOp op t x (.const (.pointer none)) yt)(hop:(neg=false/\op=.eql)\/(neg=true/\op=.neq))(ht:P.underlying t=some (.pointer e))
  (h1:cA x=some x') {v:V} {h':H} (hv:exO (.isnilP neg x') s E.h=some (v,h')):Does P E a o v h':=by
 have r1:=qax hs h1;have run:∀ad,a.eval x=.pointer ad->(execOp a.eval o).run P E.w=.ok (.value (.bool (if neg then !ad.isNone else ad.isNone))) E.w:=by
  intro ad hu;have hgd:(Go.eqGuard op t x (.const (.pointer none)) (.pointer ad) (.pointer none)).run P E.w=.ok () E.w:=qik (by simp) (by simp);have heq:(Go.Op.equal t (.pointer ad) (.pointer none)).run P E.w=.ok ad.isNone E.w:=by
   have hgen:∀n,(Go.Op.equalIn (n+1) t (.pointer ad) (.pointer none)).run P E.w=.ok ad.isNone E.w:=by intro n;unfold Go.Op.equalIn;simp only[Sem.run_bind,Go.run_underlying ht,Go.Result.andThen_ok];cases ad<;>rfl
   exact hgen 9999
  have hc:a.eval (.const (.pointer none))=.pointer none:=rfl;rcases hop with⟨rfl,rfl⟩ | ⟨rfl,rfl⟩
  .simp[execOp,ho,hu,hc,hgd,Go.binOp,heq]
  .simp[execOp,ho,hu,hc,hgd,Go.binOp,heq]
 simp only[exO]at hv;cases hx:x'.ev s<;>rw[hx]at hv r1<;>simp only at hv<;>try (cases hv;done)
 case nilp =>cases hv;unfold rel at r1;exact Does.same hE (run _ r1) (by unfold rel;cases neg<;>rfl)
 case iptr cs =>cases hv;unfold rel at r1;obtain⟨b,y,hu,_⟩:=r1;exact Does.same hE (run _ hu) (by unfold rel;cases neg<;>rfl)
 case bptr i off =>cases hv;unfold rel at r1;obtain⟨_,b,y,hu,_⟩:=r1;exact Does.same hE (run _ hu) (by unfold rel;cases neg<;>rfl)
 case ptr i g el off =>cases hv;unfold rel at r1;obtain⟨_,_,b,y,hu,_⟩:=r1;exact Does.same hE (run _ hu) (by unfold rel;cases neg<;>rfl)
omit hs in
theorem q4e{t e:TypeId}{parts:Array (Nat×Operand)}(ho:o.op=.buildSlice t 0 parts)(ht:P.underlying t=some (.slice e))(hn0:P.cellsOf e≠0)(hp:parts.toList=[]):Does P E a o .nils E.h:=by
 obtain⟨i,hi,hsz⟩:=qcq hn0;have hp':parts=#[]:=by rw[<-Array.toList_inj];simpa using hp
 obtain⟨k1,k2⟩:=qwj hE (Grow.alloc E.w (.cells #[] e)) (S':=E.S) (fun _ h=>h) (fun _ h=>.inl h);refine⟨_,k1,k2,rfl,.value (.slice (some ⟨E.w.heap.size,0,none⟩) 0 0),?_,.inl ⟨_,rfl,by unfold rel;exact⟨_,rfl⟩⟩⟩;have hr:Array.map (fun(x:Nat)=>(default:Value)) (Array.range 0)=#[]:=by apply Array.ext<;>simp
 have hrow:(Go.newRow e #[]).run P E.w=.ok ⟨E.w.heap.size,0,none⟩ (E.w.alloc (.cells #[] e)):=rfl;simp[execOp,ho,hp',Go.Instr.buildSlice,Go.run_underlying ht,qbg hi,Go.Instr.fill];rw[hr,hrow];rfl
end
end Go.Am
