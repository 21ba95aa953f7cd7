/- Arrays compared;slices. -/
import Derived.Test.YtggbaapfbgjaeaaGreatDoorFEn2
import Derived.Laws.Tables
import Derived.Laws.MakeOwn
import Derived.Great.BuildSlice
import Derived.Lib.AppendZerosOnto
import Derived.Deep.Upon
import Derived.Laws.RangeString
import Derived.MapKept
import Derived.ChangeKeysEq
set_option linter.all false
set_option maxHeartbeats 4000000
namespace Go.Am
open Go (World Value Addr Obj Program Act Operand Oper Op Sem Result Next undef execOp TypeId TypeDesc)
theorem qrs{E:Env}{b:Nat}:∀{vs:List V} {o:Nat},qbb E vs b o<->∀i v,vs[i]?=some v->∃u,E.w.cell? ⟨b,o+i,none⟩=some u/\rel E v u
 | [],o=>by simp[qbb]
 | x :: xs,o=>by
  unfold qbb;rw[qrs];constructor
  .rintro⟨h1,h2⟩ i v hi;cases i with
   | zero=>simp at hi;subst hi;exact h1
   | succ i =>have:=h2 i v (by simpa using hi);rw[show o+1+i=o+(i+1)by omega]at this;exact this
  .intro h;refine⟨h 0 x rfl,fun i v hi=>?_⟩;have:=h (i+1) v (by simpa using hi);rw[show o+(i+1)=o+1+i by omega]at this;exact this
theorem qge{E:Env}{b n:Nat}:∀{rs:List (List V)} {o:Nat},qak E n rs b o<->∀i r,rs[i]?=some r->r.length=n/\qbb E r b (o+i*n)
 | [],o=>by simp[qak]
 | x :: xs,o=>by
  unfold qak;rw[qge];constructor
  .rintro⟨h1,h2,h3⟩ i r hi;cases i with
   | zero=>simp at hi;subst hi;simpa using⟨h1,h2⟩
   | succ i =>have:=h3 i r (by simpa using hi);rw[show o+n+i*n=o+(i+1)*n by rw[Nat.succ_mul];omega]at this;exact this
  .intro h;refine⟨(h 0 x rfl).1,by simpa using(h 0 x rfl).2,fun i r hi=>?_⟩;have:=h (i+1) r (by simpa using hi);rw[show o+(i+1)*n=o+n+i*n by rw[Nat.succ_mul];omega]at this;exact this
theorem qtk{P:Program}{E E':Env}(hE:Ok P E)(x:Ext E E'){vs:List V}{b o:Nat}(hc:∀j,j<vs.length->E'.w.cell? ⟨b,o+j,none⟩=E.w.cell? ⟨b,o+j,none⟩)(h:qbb E vs b o):qbb E' vs b o:=by rw[qrs]at *;intro i v hi;obtain⟨u,h1,h2⟩:=h i v hi;exact⟨u,(hc i (jG.1 hi).1).trans h1,qda hE x v u h2⟩
theorem qvr(off:Nat):∀(l vs:List V) (i:Nat),off+vs.length<=l.length->(qsj l off vs)[i]?=if off<=i/\i<off+vs.length then vs[i-off]? else l[i]?:=by
 induction off with
 | zero =>
  intro l;induction l with
  | nil=>intro vs i h;cases vs with
   | nil=>simp[qsj]
   | cons v vs=>simp at h
  | cons x xs ih =>
   intro vs i h;cases vs with
   | nil=>simp[qsj]
   | cons v vs =>
    simp only[qsj];cases i with
    | zero=>simp
    | succ i =>have:=ih vs i (by simp at h ⊢;omega);simp only[List.getElem?_cons_succ,this];simp
 | succ off ih =>
  intro l vs i h;cases l with
  | nil=>simp at h
  | cons x xs =>
   cases vs with
   | nil=>simp[qsj];intro h1 h2;omega
   | cons v vs =>
    simp only[qsj];cases i with
    | zero=>simp
    | succ i =>have:=ih xs (v :: vs) i (by simp at h ⊢;omega);simp only[List.getElem?_cons_succ,this];simp only[Nat.add_sub_add_right];congr 1;simp only[List.length_cons,eq_iff_iff];omega
theorem qiv(off:Nat):∀(l vs:List V),(qsj l off vs).length=l.length:=by
 induction off with
 | zero =>
  intro l;induction l with
  | nil=>intro vs;cases vs<;>simp[qsj]
  | cons x xs ih=>intro vs;cases vs<;>simp[qsj,ih]
 | succ off ih =>
  intro l vs;cases l with
  | nil=>cases vs<;>simp[qsj]
  | cons x xs=>cases vs<;>simp[qsj,ih]
theorem qmq{E:Env}{v:V}{u:Value}(h:rel E v u)(hk:v.known=true):qaj E v.cells u.cells.toList:=by
 cases v<;>try (simp[V.known]at hk;done)
 case agg cs =>unfold rel at h;obtain⟨us,rfl,hl⟩:=h;exact hl
 case view p cs =>
  have h':=h;unfold rel at h;obtain⟨b,o,_,_,⟨_,rfl⟩ | ⟨_,cap,rfl,_⟩⟩:=h
  all_goals
   simp only[V.cells];unfold qaj;exact⟨_,_,rfl,h',by simp[qaj]⟩
 all_goals
  simp only[V.cells];have h':=h;unfold rel at h;unfold qaj
  first
   | (subst h;exact⟨_,_,rfl,h',by simp[qaj]⟩)
   | (obtain⟨a1,rfl⟩:=h;exact⟨_,_,rfl,h',by simp[qaj]⟩)
   | (obtain⟨a1,a2,rfl,_⟩:=h;exact⟨_,_,rfl,h',by simp[qaj]⟩)
   | (obtain⟨a1,rfl,_⟩:=h;exact⟨_,_,rfl,h',by simp[qaj]⟩)
   | (obtain⟨_,a1,a2,rfl,_⟩:=h;exact⟨_,_,rfl,h',by simp[qaj]⟩)
   | (obtain⟨_,_,a1,a2,rfl,_⟩:=h;exact⟨_,_,rfl,h',by simp[qaj]⟩)
   | (obtain⟨_,a1,rfl,_⟩:=h;exact⟨_,_,rfl,h',by simp[qaj]⟩)
   | (obtain⟨_,_,⟨_,rfl⟩ | ⟨_,_,_,_,rfl⟩,_⟩:=h<;>exact⟨_,_,rfl,h',by simp[qaj]⟩)
theorem q4l{E:Env}{v:V}{u:Value}(h:rel E v u)(hk:v.cell1=true):u.oneCell'=true:=by
 cases v<;>try (simp[V.cell1]at hk;done)
 all_goals
  unfold rel at h
  first
   | (subst h;rfl)
   | (obtain⟨a1,rfl⟩:=h;rfl)
   | (obtain⟨a1,rfl,_⟩:=h;rfl)
   | (obtain⟨a1,a2,rfl,_⟩:=h;rfl)
   | (obtain⟨_,a1,a2,rfl,_⟩:=h;rfl)
   | (obtain⟨_,_,a1,a2,rfl,_⟩:=h;rfl)
   | (obtain⟨_,a1,rfl,_⟩:=h;rfl)
   | (obtain⟨_,_,⟨_,rfl⟩ | ⟨_,_,_,_,rfl⟩,_⟩:=h<;>rfl)
theorem qgp{E:Env}{b:Nat}:∀{vs:List V} {us:List Value} {o:Nat},(∀j u,us[j]?=some u->E.w.cell? ⟨b,o+j,none⟩=some u)->qaj E vs us->qbb E vs b o
 | [],_,_,_,_=>by simp[qbb]
 | v :: vs,us,o,hc,h=>by unfold qaj at h;obtain⟨u,us',rfl,h1,h2⟩:=h;unfold qbb;refine⟨⟨u,by simpa using hc 0 u rfl,h1⟩,qgp (fun j w hj=>?_) h2⟩;have:=hc (j+1) w (by simpa using hj);rw[show o+(j+1)=o+1+j by omega]at this;exact this
theorem qob{P:Program}:∀{vs:List V} {us:List Value} {E:Env},Ok P E->qaj E vs us->∃E',Ok P E'/\Ext E E'/\E'.w=E.w/\E'.S=E.S/\E'.h=(qcb E.h vs).2/\qaj E' (qcb E.h vs).1 us/\(∀i,i<E.h.length->E'.b i=E.b i)
 | [],us,E,hE,h=>⟨E,hE,Ext.refl E,rfl,rfl,rfl,by simpa[qcb]using h,fun _ _=>rfl⟩
 | v :: vs,us,E,hE,h=>by
  unfold qaj at h;obtain⟨u,us',rfl,h1,h2⟩:=h;have other:(∀(q:V),q=v->q ≠ .nils)->∃E',Ok P E'/\Ext E E'/\E'.w=E.w/\E'.S=E.S/\E'.h=(qcb E.h (v :: vs)).2/\qaj E' (qcb E.h (v :: vs)).1 (u :: us')/\(∀i,i<E.h.length->E'.b i=E.b i):=by
   intro hne;obtain⟨E',e1,e2,e3,e3',e4,e5,e6⟩:=qob hE h2;have hb:qcb E.h (v :: vs)=(v :: (qcb E.h vs).1,(qcb E.h vs).2):=by cases v<;>first | rfl | exact absurd rfl (hne _ rfl)
   rw[hb];refine⟨E',e1,e2,e3,e3',e4,?_,e6⟩;unfold qaj;exact⟨u,us',rfl,qda hE e2 v u h1,e5⟩
  by_cases hv:v=.nils
  .subst hv;have hu:=h1;unfold rel at hu;obtain⟨ad,rfl⟩:=hu;obtain⟨k1,k2⟩:=qhe hE (Grow.refl E.w) ⟨0,.arr 0 []⟩ none (by intro b C h;cases h) (fun _=>by
    unfold qem;exact⟨rfl,.inl ⟨by simp,rfl⟩⟩)
   obtain⟨E',e1,e2,e3,e3',e4,e5,e6⟩:=qob k1 (qba hE k2 _ _ h2);refine⟨E',e1,k2.trans e2,e3,e3',e4,?_,fun i hi=>?_⟩
   .simp only[qcb];unfold qaj;refine⟨_,us',rfl,qda k1 e2 _ _ ?_,e5⟩;unfold rel;refine⟨by simp,by simp,ad,0,rfl,jD _,fun _=>rfl,fun y hy hne=>absurd rfl hne,fun o ho _ _=>?_⟩;simp at ho;subst ho;exact⟨by simp[qmi],by simp[qco],.inl ⟨by simp,rfl⟩⟩
   .rw[e6 i (by simp;omega)];exact if_neg (by omega)
  .exact other (fun q hq=>by rw[hq];exact hv)
theorem zaz{P:Program}{E:Env}(hE:Ok P E){vs:List V}{us:List Value}(hl:qaj E vs us)(ty:TypeId) :
  ∃E',Ok P E'/\Ext E E'/\E'.w=E.w.alloc (.cells us.toArray ty)/\E'.h=(qir E.h vs).2/\rel E' (qir E.h vs).1 (.pointer (some ⟨E.w.heap.size,0,none⟩)):=by
 obtain⟨E1,a1,a2,a3,a3',a4,a5,a6⟩:=qob hE hl;have hg:Grow E1.w (E1.w.alloc (.cells us.toArray ty)):=Grow.alloc _ _;have hnew:(E1.w.alloc (.cells us.toArray ty)).heap[E1.w.heap.size]?=some (.cells us.toArray ty (0,0)):=Go.heap_alloc_new _ _;obtain⟨k1,k2⟩:=qhe a1 hg ⟨0,.box (qcb E.h vs).1⟩ (some (E1.w.heap.size,us.length,0)) (by intro b C h;cases h;simp) (fun x=>by
  unfold qem;right;refine⟨E1.w.heap.size,(us.length,0),us.toArray,ty,by simp,fun h=>by have:=a1.S _ h;omega,hnew,by simpa using(qau a5).symm,?_⟩;refine qgp (fun j u hj=>?_) (qba a1 x _ _ a5);show World.cell? (E1.w.alloc (.cells us.toArray ty)) ⟨E1.w.heap.size,0+j,none⟩=some u;unfold World.cell?;rw[hnew];simpa using hj)
 refine⟨_,k1,a2.trans k2,by simp[a3],by simp[qir,a4],?_⟩;simp only[qir];rw[<-a4];unfold rel;refine⟨by simp,E1.w.heap.size,0,by rw[a3],fun o ho _=>⟨⟨(us.length,0),by simp⟩,rfl⟩⟩
section
variable{P:Program}{E:Env}(hE:Ok P E){s:List V}{a:Act}(hs:qaj E s a.tmps.toList){o:Oper}
include hE hs
omit hs in
theorem zcs{e:TypeId}{z:V}(ho:o.op=.alloc e)(hz:qsi P e=some z)(hk:z.known=true\/zvp P e=true):Does P E a o (qir E.h z.cells).1 (qir E.h z.cells).2:=by
 unfold qsi at hz;cases hi:P.info? e with
 | none=>rw[hi]at hz;cases hz
 | some i =>
  rw[hi]at hz;cases hz0:i.zero with
  | none=>simp[hz0]at hz
  | some u =>
   simp only[Option.bind_some,hz0]at hz;have hr:rel E z u:=q9q hz;have hcr:qaj E z.cells u.cells.toList:=by
    rcases hk with hk | hk
    .exact qmq hr hk
    .unfold zvp at hk;rw[show(P.info? e).bind (·.zero)=some u by rw[hi];exact hz0]at hk;cases u<;>try (exact absurd hk Bool.false_ne_true)
     case map r =>
      cases r
      case some=>exact absurd hk Bool.false_ne_true
      cases hz;simp[V.cells,Value.cells,qaj,rel]
     case nilIface =>cases hz;simp[V.cells,Value.cells,qaj,rel]
   obtain⟨E',e1,e2,e3,e4,e5⟩:=zaz hE hcr e;refine⟨E',e1,e2,e4,_,?_,.inl ⟨_,rfl,e5⟩⟩;rw[e3];simp[execOp,ho,Go.Instr.alloc,Go.zeroValue,qlw hi,hz0,Go.newVar,Go.newRow]
theorem zmm{e:TypeId}{x:Operand}{x':A}(ho:o.op=.box e x)(h1:cA x=some x')(hk:(x'.ev s).known=true):Does P E a o (qir E.h (x'.ev s).cells).1 (qir E.h (x'.ev s).cells).2:=by obtain⟨E',e1,e2,e3,e4,e5⟩:=zaz hE (qmq (qav hs h1) hk) e;refine⟨E',e1,e2,e4,_,?_,.inl ⟨_,rfl,e5⟩⟩;rw[e3];simp[execOp,ho,Go.Instr.box,Go.newVar,Go.newRow]
end
theorem qhm{P:Program}{b off:Nat}{ty:TypeId}:∀(us:List Value) (i:Nat) (w:World) (cs:Array Value),w.heap[b]?=some (.cells cs ty (0,0))->off+i+us.length<=cs.size->(∀u∈us,u.oneCell'=true) ->
  ∃w' cs',(Go.storeCells ⟨b,off,none⟩ us i).run P w=.ok () w'/\w'.heap.size=w.heap.size/\w'.heap[b]?=some (.cells cs' ty (0,0))/\cs'.size=cs.size/\(∀k,k≠b->w'.heap[k]?=w.heap[k]?)/\w'.os=w.os/\w'.output=w.output /\
   ∀j:Nat,cs'[j]?=if off+i<=j/\j<off+i+us.length then us[j-(off+i)]? else cs[j]?
 | [],i,w,cs,hb,_,_=>⟨w,cs,rfl,rfl,hb,rfl,fun _ _=>rfl,rfl,rfl,fun j=>by simp;intro h1 h2;omega⟩
 | u :: us,i,w,cs,hb,hl,ho=>by
  have hlt:off+i<cs.size:=by simp only[List.length_cons]at hl;omega
  have hl2:off+(i+1)+us.length<=(cs.setIfInBounds (off+i) u).size:=by simp only[List.length_cons]at hl;simp;omega
  have hc:w.cell? ⟨b,off+i,none⟩=some cs[off+i]:=by simp only[World.cell?,hb];simp[hlt]
  have hf:w.frozen? ⟨b,off+i,none⟩=false:=Go.frozen_of_row w b _ cs ty hb;have hs:=Go.run_store P w ⟨b,off+i,none⟩ u .plain (ho u (by simp));rw[hc,hf]at hs;simp only[Bool.false_eq_true,if_false]at hs;have h1:=Go.heap_setCell_same w b (off+i) cs ty u hb;obtain⟨w',cs',g1,g2,g3,g4,g5,g6,g7,g8⟩:=qhm (P:=P) us (i+1) (w.setCell ⟨b,off+i,none⟩ u) (cs.setIfInBounds (off+i) u) h1 hl2 (fun v hv=>ho v (by simp[hv]));refine⟨w',cs',?_,by rw[g2];simp,g3,by rw[g4];simp,fun k hk=>(g5 k hk).trans (Go.heap_setCell_other w _ k u hk),g6,g7,fun j=>?_⟩
  .simp only[Go.storeCells,qcp,Sem.run_bind,hs,Go.Result.andThen_ok];exact g1
  .rw[g8 j];simp only[List.length_cons]at hl ⊢;by_cases h2:j=off+i
   .subst h2;rw[if_neg (by omega),if_pos (by omega)];simp[show off+i<cs.size by omega]
   .by_cases h3:off+(i+1)<=j/\j<off+(i+1)+us.length
    .rw[if_pos h3,if_pos (by omega)];rw[show j-(off+i)=(j-(off+(i+1)))+1 by omega];simp
    .rw[if_neg h3,if_neg (by omega)];rw[Array.getElem?_setIfInBounds_ne (by omega)]
theorem qnv{P:Program}{b off:Nat}{ty t:TypeId}{w:World}{cs:Array Value}{v:Value}(hz:P.cellsOf t≠0)(hv:v.cells.size=P.cellsOf t)(hb:w.heap[b]?=some (.cells cs ty (0,0)))(hl:off+v.cells.size<=cs.size)(ho:∀u∈v.cells.toList,u.oneCell'=true) :
  ∃w' cs',(Go.storeVar t ⟨b,off,none⟩ v).run P w=.ok () w'/\w'.heap.size=w.heap.size/\w'.heap[b]?=some (.cells cs' ty (0,0))/\cs'.size=cs.size/\(∀k,k≠b->w'.heap[k]?=w.heap[k]?)/\w'.os=w.os/\w'.output=w.output /\
   ∀j:Nat,cs'[j]?=if off<=j/\j<off+v.cells.size then v.cells[j-off]? else cs[j]?:=by
 obtain⟨i,hi,hsz⟩:=qct hz;obtain⟨w',cs',g1,g2,g3,g4,g5,g6,g7,g8⟩:=qhm (P:=P) (b:=b) (off:=off) (ty:=ty) v.cells.toList 0 w cs hb (by simpa using hl) ho;refine⟨w',cs',?_,g2,g3,g4,g5,g6,g7,fun j=>?_⟩
 .have:¬(v.cells.size≠i.size):=by omega
  simp[Go.storeVar,qbh hi,this,g1]
 .have:=g8 j;simpa using this
theorem qhp:∀(vs:List V) (h:H),∃t,(qcb h vs).2=h++t
 | [],h=>⟨[],by simp[qcb]⟩
 | v :: vs,h=>by
  by_cases hv:v=.nils
  .subst hv;obtain⟨t,ht⟩:=qhp vs (h++[⟨0,.arr 0 []⟩]);exact⟨⟨0,.arr 0 []⟩ :: t,by simp[qcb,ht]⟩
  .obtain⟨t,ht⟩:=qhp vs h;refine⟨t,?_⟩;have hb:qcb h (v :: vs)=(v :: (qcb h vs).1,(qcb h vs).2):=by cases v<;>first | rfl | exact absurd rfl hv
   rw[hb];exact ht
theorem zfu{vs:List V}{h:H}{i:Nat}{o:Ob}(e:h[i]?=some o):(qcb h vs).2[i]?=some o:=by obtain⟨t,ht⟩:=qhp vs h;rw[ht,jI (qbe e)];exact e
theorem qmp:∀(vs:List V) (h:H),(qcb h vs).1.length=vs.length
 | [],h=>rfl
 | v :: vs,h=>by
  by_cases hv:v=.nils
  .subst hv;simp[qcb,qmp vs]
  .have hb:qcb h (v :: vs)=(v :: (qcb h vs).1,(qcb h vs).2):=by cases v<;>first | rfl | exact absurd rfl hv
   rw[hb];simp[qmp vs]
theorem qdv{w:World}{b:Nat}{cs:Array Value}{ty:TypeId}{fr:Nat×Nat}(h:w.heap[b]?=some (.cells cs ty fr))(j:Nat):w.cell? ⟨b,j,none⟩=cs[j]?:=by unfold World.cell?;rw[h];rfl
theorem qxy{E:Env}{b o off:Nat}{cells vs:List V}{us:List Value}{cs0 cs1:Nat->Option Value}(hc:∀j,E.w.cell? ⟨b,j,none⟩=cs1 j)(hn:∀j,cs1 j=if o+off<=j/\j<o+off+us.length then us[j-(o+off)]? else cs0 j)
  (hold:∀i v,cells[i]?=some v->∃u,cs0 (o+i)=some u/\rel E v u) (hl:off+vs.length<=cells.length) (hv:qaj E vs us):qbb E (qsj cells off vs) b o:=by
 rw[qrs];intro i v hi;rw[qvr off cells vs i hl]at hi;have hlen:=qau hv;split at hi
 .rename_i hw;obtain⟨u,h1,h2⟩:=relL_get? hv hi;refine⟨u,?_,h2⟩;rw[hc,hn,if_pos (by omega),show o+i-(o+off)=i-off by omega];exact h1
 .rename_i hw;obtain⟨u,h1,h2⟩:=hold i v hi;refine⟨u,?_,h2⟩;rw[hc,hn,if_neg (by omega)];exact h1
theorem znr{P:Program}{E:Env}(hE:Ok P E){S S':Nat->Prop}(hS:∀b,E.S b->S' b)(h:∀b,S b->S' b){v:V}(hi:inS E S v):inS E S' v:=by
 rcases zld v with⟨id,g,m,off,len,rfl⟩ | ⟨k1,_⟩
 .exact fun u hu=>qoz (E:=⟨E.b,S,E.h,E.w⟩) (E':=⟨E.b,S',E.h,E.w⟩) rfl h (qgd _ _ (.inr ⟨_,_,_,_,_,rfl⟩)) (hi u hu)
 .exact z8u hE hS (k1 _ _)
theorem znq{P:Program}{E E1:Env}(hE:Ok P E)(x:Ext E E1){S':Nat->Prop}(hS:∀b,E.S b->S' b){w v:V}(h:inS E1 S' v)(hw:E1.w=E.w)(hh:E1.h=zda E.h w):inS E S' v:=by
 rcases zld v with⟨id,g,m,off,len,rfl⟩ | ⟨k1,_⟩
 .intro u hu;have:=h u (qda hE x.toExt0 _ _ hu);rw[hh,q8q]at this;exact qoz (E:=⟨E1.b,S',zda E.h w,E1.w⟩) (E':=⟨E.b,S',E.h,E.w⟩) hw.symm (fun _ h=>h) (qgd _ _ (.inr ⟨_,_,_,_,_,rfl⟩)) this
 .exact z8u hE hS (k1 _ _)
theorem qws{P:Program}:∀(vs:List V) {E:Env},Ok P E->∃E',Ok P E'/\Ext E E'/\E'.h=q7y E.h vs/\E'.w=E.w/\E'.b=E.b/\∀v∈vs,inS E E'.S v
 | [],E,hE=>⟨E,hE,Ext.refl E,rfl,rfl,rfl,fun v hv=>by cases hv⟩
 | v :: vs,E,hE=>by
  obtain⟨E1,a1,a2,a3,a4,a5,a6⟩:=zhp hE v;obtain⟨E2,b1,b2,b3,b4,b5,b6⟩:=qws vs a1;refine⟨E2,b1,a2.trans b2,by rw[b3,a3];rfl,b4.trans a4,b5.trans a5,fun w hw=>?_⟩;rcases List.mem_cons.1 hw with rfl | hw
  .exact znr hE (a2.trans b2).S b2.S a6
  .exact znq hE a2 (a2.trans b2).S (b6 w hw) a4 a3
theorem qpw{id:Nat}:∀{vs:List V} {h:H},(∀v∈vs,∀i g m off len,v=.sl i g m off len->i≠id)->(q7y h vs)[id]?=h[id]?
 | [],_,_=>rfl
 | v :: vs,h,hn=>by
  show(q7y (zda h v) vs)[id]?=h[id]?;rw[qpw (fun w hw=>hn w (by simp[hw]))];rcases zld v with⟨i,g,m,off,len,rfl⟩ | ⟨_,k4⟩
  .have:=hn (.sl i g m off len) (by simp) i g m off len rfl;show(qfy h i)[id]?=_;unfold qfy;split
   .rw[jO this]
   .rfl
  .rw[k4]
theorem qth{P:Program}{E E':Env}(hE:Ok P E)(x:Ext E E')(hw:E'.w=E.w){v:V}{u:Value}(h:rel E v u)(hi:inS E E'.S v):rel E' (qan E.h v) u:=by
 cases v<;>try exact qda hE x _ _ h
 case immc els=>exact qrf (qda hE x _ _ h)
 case nils =>unfold rel at h;obtain⟨a,rfl⟩:=h;simp only[qan];unfold rel;exact⟨a,0,rfl,jD _,rfl,.inl rfl⟩
 case nilx =>unfold rel at h;subst h;simp only[qan];unfold rel;exact⟨none,0,rfl,jD _,rfl,.inl rfl⟩
 case sl id g m off len =>exact qed (n:=0) (E:=⟨E.b,E'.S,E.h,E.w⟩) (E':=E') ⟨hw,fun _ h=>h,fun i hi=>absurd hi (Nat.not_lt_zero _)⟩ _ _ (qgd E.h (.sl id g m off len) (.inr ⟨id,g,m,off,len,rfl⟩)) (qij hE x.S h hi)
theorem qti{P:Program}{E E':Env}(hE:Ok P E)(hw:E'.w=E.w)(hS:∀b,E.S b->E'.S b):∀{vs:List V} {us:List Value},qaj E vs us->(∀v∈vs,inS E E'.S v)->(vs.map (qan E.h)).all V.pcell=true->qaj E' (vs.map (qan E.h)) us
 | [],us,h,_,_=>by unfold qaj at *;exact h
 | v :: vs,us,h,hi,hp=>by unfold qaj at h;obtain⟨u,us',rfl,h1,h2⟩:=h;simp only[List.map_cons,List.all_cons,jE]at hp ⊢;unfold qaj;refine⟨u,us',rfl,?_,qti hE hw hS h2 (fun w hw=>hi w (by simp[hw])) hp.2⟩;have r1:=qij hE hS h1 (hi v (by simp));refine qed (n:=0) (E:=⟨E.b,E'.S,E.h,E.w⟩) (E':=E') ⟨hw,fun _ h=>h,fun i hi=>absurd hi (Nat.not_lt_zero _)⟩ _ _ ?_ r1;have:=qne (n:=0) (r:=[qan E.h v]) (by simp[hp.1]);simpa[qeq]using this
theorem q6e{h:H}{v:V}(hp:v.pcell=true):qan h v=v:=by cases v<;>first | rfl | (simp[V.pcell]at hp)
theorem q4h{P:Program}{E:Env}(hE:Ok P E){id g m el off n:Nat}{els:List (List V)}{row cs:List V}{us:List Value}(ho:E.h[id]?=some ⟨g,.arr m els⟩)(hrow:els[el]?=some row)(hn:cs.length=n)(hoff:off+n<=row.length)
  (hp:cs.all V.pcell=true) (hr:qaj E cs us) (h1:∀u∈us,u.oneCell'=true) {b x:Nat} {C:Nat×Nat} (hb:E.b id=some (b,C)) (hx:x=(C.2+el)*m+off) {t:TypeId} (hz:P.cellsOf t≠0) {v:Value} (hv:v.cells.toList=us) (hsz:v.cells.size=P.cellsOf t) :
  ∃E',Ok P E'/\Ext E E'/\E'.h=E.h.set id ⟨g,.arr m (els.set el (qsj row off cs))⟩/\(Go.storeVar t ⟨b,x,none⟩ v).run P E.w=.ok () E'.w:=by
 have hro:=hE.obj id _ ho;unfold qem at hro;obtain⟨hpu,hor⟩:=hro;rcases hor with⟨h,_⟩ | ⟨b',C',ca,ty,q1,q2,q3,q4,q5,q6,q7⟩
 .rw[hb]at h;cases h
 .rw[hb]at q1;cases q1;rw[Nat.add_mul]at hx q5;have hul:us.length=n:=by rw[<-qau hr,hn]
  have helt:=(jG.1 hrow).1;obtain⟨hrl,hrat⟩:=qcl q7 hrow;have hfit:x+v.cells.size<=ca.size:=by
   have e1:v.cells.size=us.length:=by rw[<-hv];simp
   have:(el+1)*m<=C.1*m:=jV m (by omega);rw[Nat.succ_mul]at this;omega
  obtain⟨w',ca',g1,g2,g3,g4,g5,g6,g7,g8⟩:=qnv (P:=P) (b:=b) (off:=x) (ty:=ty) (w:=E.w) hz hsz q3 hfit (by rw[hv];exact h1);have hpu':qce (els.set el (qsj row off cs))=true:=by
   simp only[qce,jP]at hpu ⊢;intro r hr;rcases jT hr with hr | rfl
   .exact hpu r hr
   .intro c hc;obtain⟨i,hi⟩:=List.mem_iff_getElem?.1 hc;rw[qvr off row cs i (by omega)]at hi;split at hi
    .exact(jP.1 hp) c (jR hi)
    .exact(jP.1 (by simpa using hpu row (jR hrow))) c (jR hi)
  obtain⟨k1,k2⟩:=qkz hE ho rfl (o':=⟨g,.arr m (els.set el (qsj row off cs))⟩) (fun _ h=>by cases h) (w':=w') (by omega) (fun k hk hne=>g5 k (fun e=>hne C (by rw[e];exact hb))) g6 g7 (E.b id) (fun k D hk=>.inl ⟨D,hk⟩)
   (jD _) rfl (fun _=>⟨rfl,by simp[qmi],rfl⟩) (fun y=>by
    unfold qem;refine⟨hpu',.inr ⟨b,C,ca',ty,by simp[hb],q2,g3,q4,by rw[Nat.add_mul];omega,by simpa using q6,?_⟩⟩;rw[qge];intro i r hi;by_cases hie:i=el
    .subst hie;rw[jN helt]at hi;cases hi;refine⟨by rw[qiv];exact hrl,?_⟩;refine qxy (cs0:=fun j=>ca[j]?) (cs1:=fun j=>ca'[j]?) (us:=us) (fun j=>qdv g3 j) (fun j=>?_) (fun j v hj=>?_) (by omega) (qba hE y _ _ hr)
     .have:=g8 j;rw[this];have e1:v.cells.size=us.length:=by rw[<-hv];simp
      have e2:C.2*m+i*m+off=x:=by omega
      rw[e1,e2];congr 1;rw[<-hv];simp
     .obtain⟨u,h2,h3⟩:=qnh hrat hj;refine⟨u,?_,qda hE y _ _ h3⟩;rw[qdv q3]at h2;exact h2
    .rw[jO (Ne.symm hie)]at hi;obtain⟨hl,hat⟩:=qcl q7 hi;refine⟨hl,qtk hE y (fun j hj=>?_) hat⟩;show w'.cell? ⟨b,C.2*m+i*m+j,none⟩=E.w.cell? ⟨b,C.2*m+i*m+j,none⟩;rw[qdv g3,qdv q3,g8];rw[if_neg];have e1:v.cells.size=us.length:=by rw[<-hv];simp
     intro hh;rcases Nat.lt_or_gt_of_ne hie with h | h
     .have:(i+1)*m<=el*m:=jV m (by omega);rw[Nat.succ_mul]at this;omega
     .have:(el+1)*m<=i*m:=jV m (by omega);rw[Nat.succ_mul]at this;omega)
  exact⟨_,k1,k2,rfl,g1⟩
theorem qwm{n:Nat}:∀{h:H} {i j g:Nat} {cells:List V},qqz n i h=some (j,g,cells)->∃k,j=i+k/\j<n/\h[k]?=some ⟨g,.box cells⟩/\cells.any (zic n)=true
 | [],_,_,_,_,e=>by simp[qqz]at e
 | ⟨g0,k0⟩ :: h,i,j,g,cells,e=>by
  simp only[qqz]at e;split at e
  .cases e
  .rename_i hlt;have step:qqz n (i+1) h=some (j,g,cells)->∃k,j=i+k/\j<n/\(⟨g0,k0⟩ :: h)[k]?=some ⟨g,.box cells⟩/\cells.any (zic n)=true:=by
    intro e;obtain⟨k,h1,h2,h3,h4⟩:=qwm e;exact⟨k+1,by omega,h2,by simpa using h3,h4⟩
   cases k0<;>simp only at e<;>try exact step e
   split at e
   .rename_i ha;cases e;exact⟨0,by omega,by omega,rfl,ha⟩
   .exact step e
theorem zao:∀{vs:List V} {h:H} {i g:Nat} {cells:List V},h[i]?=some ⟨g,.box cells⟩->(q7y h vs)[i]?=some ⟨g,.box cells⟩
 | [],_,_,_,_,e=>e
 | v :: vs,h,i,g,cells,e=>by
  show(q7y (zda h v) vs)[i]?=_;refine zao ?_;cases v<;>try exact e
  exact qyu e
theorem q5e{n:Nat}{v:V}(h:zic n v=true):∃i g m o l,v=.sl i g m o l/\n<=i:=by cases v<;>simp[zic]at h;exact⟨_,_,_,_,_,rfl,h⟩
theorem zaw{n i:Nat}(hi:i<=n):∀{cells:List V},cells.any (zic n)=true->qeq i cells=true->False
 | [],h,_=>by simp at h
 | v :: vs,h,hl=>by
  simp only[List.any_cons,Bool.or_eq_true]at h;simp only[qeq,jE]at hl;rcases h with h | h
  .obtain⟨j,g,m,o,l,rfl,hj⟩:=q5e h;have:=hl.1;simp only[V.low,jW]at this;omega
  .exact zaw hi h hl.2
theorem q4w{P:Program}{E E1 E2:Env}(hE:Ok P E)(x:Ext0 E E2){n:Nat}(hw:E2.w=E.w)(hS:∀b,E.S b->E1.S b)(hS2:∀b,E1.S b->E2.S b):∀{cells:List V} {b o:Nat},(∀v∈cells,zic n v=true->inS E E1.S v)->qbb E cells b o->qbb E2 (cells.map (qsw n E.h)) b o
 | [],_,_,_,_=>by simp[qbb]
 | v :: vs,b,o,hi,h=>by
  unfold qbb at h;obtain⟨⟨u,h1,h2⟩,h3⟩:=h;simp only[List.map_cons];unfold qbb;refine⟨⟨u,by rw[hw];exact h1,?_⟩,q4w hE x hw hS hS2 (fun v hv=>hi v (by simp[hv])) h3⟩;unfold qsw;split
  .rename_i hv;obtain⟨i,g,m,off,l,rfl,_⟩:=q5e hv;have r:=qij hE hS h2 (hi _ (by simp) hv);exact qed (n:=0) (E:=⟨E.b,E1.S,E.h,E.w⟩) (E':=E2) ⟨hw,hS2,fun i hi=>absurd hi (Nat.not_lt_zero _)⟩ _ _ (qgd E.h _ (.inr ⟨_,_,_,_,_,rfl⟩)) r
  .exact qda hE x v u h2
theorem q7p{P:Program}{E:Env}(hE:Ok P E)(n:Nat):∃E',Ok P E'/\(∀E0,Ext E0 E->E0.h.length<=n->Ext E0 E')/\E'.w=E.w/\E'.h=qgk n E.h/\∀vs us,qaj E vs us->qaj E' (vs.map (qbf n)) us:=by
 have plain:qgk n E.h=qkd n E.h->∃E',Ok P E'/\(∀E0,Ext E0 E->E0.h.length<=n->Ext E0 E')/\E'.w=E.w/\E'.h=qgk n E.h/\∀vs us,qaj E vs us->qaj E' (vs.map (qbf n)) us:=fun e =>⟨q1w n E,q9y hE n,fun E0 x h=>qst x h,rfl,e.symm,fun vs us h=>qpc h⟩
 by_cases hok:quy n E.h=true
 .exact plain (by simp only[qgk,hok,if_true])
 .cases hf:qqz n 0 E.h with
  | none=>exact plain (by simp only[qgk,hok,hf];rfl)
  | some q =>
   obtain⟨i,g,cells⟩:=q;obtain⟨k,hk,hin,hob,hany⟩:=qwm hf;have hik:k=i:=by omega
   subst hik;obtain⟨E1,a1,a2,a3,a4,a5,a6⟩:=qws (cells.filter (zic n)) hE;have hob1:E1.h[k]?=some ⟨g,.box cells⟩:=by rw[a3];exact zao hob
   obtain⟨k1,k2⟩:=qkz a1 hob1 rfl (o':=⟨g,.box (cells.map (qsw n E.h))⟩) (fun c hc _ hl=>by cases hc;exact zaw (by omega) hany hl) (w':=E1.w) (jD _) (fun _ _ _=>rfl) rfl rfl (E1.b k) (fun b C h=>.inl ⟨C,h⟩)
    (jD _) rfl (fun _=>⟨rfl,jD _,rfl⟩) (fun y=>by
     have hro:=hE.obj k _ hob;unfold qem at hro ⊢;rcases hro with h | ⟨b,C,cs,ty,q1,q2,q3,q4,q5⟩
     .exact .inl (by simp only[if_true];rw[a5];exact h)
     .have hro1:=a1.obj k _ hob1;unfold qem at hro1;rcases hro1 with h | ⟨b',C',cs',ty',p1,p2,p3,p4,p5⟩
      .rw[a5,q1]at h;cases h
      .rw[a5,q1]at p1;cases p1;refine .inr ⟨b,C,cs',ty',by simp only[if_true];rw[a5];exact q1,p2,p3,by simpa using p4,?_⟩;exact q4w (E1:=E1) hE (a2.trans y).toExt0 a4 a2.S (fun _ h=>h) (fun v hv hh=>a6 v (List.mem_filter.2 ⟨hv,hh⟩)) q5)
   generalize hE2:(⟨fun i=>if i=k then E1.b k else E1.b i,E1.S,E1.h.set k ⟨g,.box (cells.map (qsw n E.h))⟩,E1.w⟩:Env)=E2 at k1 k2;refine⟨q1w n E2,q9y k1 n,fun E0 x h=>qst ((x.trans a2).trans k2) h,?_,?_,fun vs us h=>qpc (qba hE (a2.trans k2).toExt0 _ _ h)⟩
   .show E2.w=E.w;rw[<-hE2];exact a4
   .show qkd n E2.h=_;rw[<-hE2];show qkd n (E1.h.set k _)=_;rw[a3];simp only[qgk,hok,hf];rfl
theorem qyj{n:Nat}{E E':Env}(x:Agree n E E'){v:V}{u:Value}(h:rel E v u):rel E' (qbf n v) u:=by
 unfold qbf;split
 .rename_i hl;exact qed x v u hl h
 .unfold rel;trivial
theorem qqh{n:Nat}{E E':Env}(x:Agree n E E'):∀{vs:List V} {us:List Value},qaj E vs us->qaj E' (vs.map (qbf n)) us
 | [],_,h=>by unfold qaj at *;exact h
 | v :: vs,us,h=>by unfold qaj at h;obtain⟨u,us',h1,h2,h3⟩:=h;simp only[List.map_cons];unfold qaj;exact⟨u,us',h1,qyj x h2,qqh x h3⟩
theorem qnm{n:Nat}{E E':Env}(x:Agree n E E'):∀{vs:List V} {b o:Nat},qbb E vs b o->qbb E' (vs.map (qbf n)) b o
 | [],_,_,_=>by simp[qbb]
 | v :: vs,b,o,h=>by unfold qbb at h;obtain⟨⟨u,h1,h2⟩,h3⟩:=h;simp only[List.map_cons];unfold qbb;exact⟨⟨u,by rw[x.w];exact h1,qyj x h2⟩,qnm x h3⟩
theorem qpo{n:Nat}{E E':Env}(x:Agree n E E'){m:Nat}:∀{rs:List (List V)} {b o:Nat},qak E m rs b o->qak E' m (rs.map fun r=>r.map (qbf n)) b o
 | [],_,_,_=>by simp[qak]
 | r :: rs,b,o,h=>by unfold qak at h;simp only[List.map_cons];unfold qak;exact⟨by simpa using h.1,qnm x h.2.1,qpo x h.2.2⟩
theorem qxz{E:Env}:∀{s:List V} {us:List Value} {k:Nat} {v:V},qaj E s us->(∀u,rel E (qah s k) u->us[k]?=some u->rel E v u)->qaj E (qet s k v) us
 | [],us,k,v,h,_=>by unfold qet;exact h
 | x :: s,us,0,v,h,hv=>by unfold qaj at h;obtain⟨u,us',rfl,h2,h3⟩:=h;unfold qet qaj;exact⟨u,us',rfl,hv u h2 rfl,h3⟩
 | x :: s,us,k+1,v,h,hv=>by unfold qaj at h;obtain⟨u,us',rfl,h2,h3⟩:=h;unfold qet qaj;exact⟨u,us',rfl,h2,qxz h3 fun u hu h=>hv u hu (by simpa using h)⟩
def qpi(n id:Nat)(o:Ob)(E:Env):Env:=⟨fun i=>if i=n then E.b id else E.b i,E.S,qkd n E.h++[o],E.w⟩
theorem zsi{P:Program}{E:Env}(hE:Ok P E){n id g:Nat}{cells:List V}(hob:E.h[id]?=some ⟨g,.box cells⟩)(hn:n<=id)(hl:qeq n cells=true) :
  Ok P (qpi n id ⟨g,.box cells⟩ E)/\(∀E0,Ext E0 E->E0.h.length<=n->Ext E0 (qpi n id ⟨g,.box cells⟩ E))/\Agree n E (qpi n id ⟨g,.box cells⟩ E)/\∀u,rel E (.bptr id 0) u->rel (qpi n id ⟨g,.box cells⟩ E) (.bptr n 0) u:=by
 have hlt:id<E.h.length:=qbe hob;have hlen:(qkd n E.h).length=n:=by rw[qeb];omega
 have hlo:∀i,i<n->(qpi n id ⟨g,.box cells⟩ E).h[i]?=(qkd n E.h)[i]?:=fun i hi=>jI (by omega);have hhi:(qpi n id ⟨g,.box cells⟩ E).h[n]?=some ⟨g,.box cells⟩:=by show(qkd n E.h++[_])[n]?=_;rw[jJ (by omega),hlen,Nat.sub_self];rfl
 have hle:∀i o,(qpi n id ⟨g,.box cells⟩ E).h[i]?=some o->i<=n:=fun i o h=>by
  have:=qbe h;have e:(qpi n id ⟨g,.box cells⟩ E).h.length=n+1:=by show(qkd n E.h++[_]).length=_;rw[jF,hlen];rfl
  omega
 have hb:∀i,i<n->(qpi n id ⟨g,.box cells⟩ E).b i=E.b i:=fun i hi=>if_neg (by omega);have hbn:(qpi n id ⟨g,.box cells⟩ E).b n=E.b id:=if_pos rfl;have hgen:∀i,i<n->qgt (qpi n id ⟨g,.box cells⟩ E).h i=qgt E.h i:=fun i hi=>by have e:=qvl (h:=E.h) hi;unfold qgt at e ⊢;rw[hlo i hi];exact e
 have x:Agree n E (qpi n id ⟨g,.box cells⟩ E):=by
  refine⟨rfl,fun _ h=>h,fun i hi hil=>⟨?_,hgen i hi,hb i hi,fun o' ho'=>?_⟩⟩
  .show i<(qkd n E.h++[_]).length;rw[jF,hlen];omega
  .rw[hlo i hi]at ho';obtain⟨_,o0,h1,rfl⟩:=qhj ho';obtain⟨s1,s2,s3,s4,_⟩:=qdb n o0;exact⟨o0,h1,s1.symm,s2.symm,s3.symm,s4.symm⟩
 -- an object of the new memory,and its name in the old one
 have old:∀i o,(qpi n id ⟨g,.box cells⟩ E).h[i]?=some o->∃j o0,E.h[j]?=some o0/\(qpi n id ⟨g,.box cells⟩ E).b i=E.b j/\o.k.isFrz=o0.k.isFrz/\(j=i/\i<n/\o=qbx n o0\/j=id/\i=n/\o=⟨g,.box cells⟩):=by
  intro i o ho;by_cases hi:i<n
  .have ho':=ho;rw[hlo i hi]at ho';obtain⟨_,o0,h1,rfl⟩:=qhj ho';exact⟨i,o0,h1,hb i hi,(qdb n o0).2.2.2.2,.inl ⟨rfl,hi,rfl⟩⟩
  .have:i=n:=by have:=hle i o ho;omega
   subst this;rw[hhi]at ho;cases ho;exact⟨id,_,hob,hbn,rfl,.inr ⟨rfl,rfl,rfl⟩⟩
 refine⟨⟨fun i o ho=>?_,fun i j o1 o2 b C C' h1 h2 f1 f2 b1 b2=>?_,hE.S⟩,fun E0 y h=>?_,x,fun u hu=>?_⟩
 .obtain⟨j,o0,h1,hbj,_,⟨rfl,hi,rfl⟩ | ⟨rfl,rfl,rfl⟩⟩:=old i o ho
  .have hr:=hE.obj j o0 h1;unfold qem at hr ⊢;rw[hbj];unfold qbx;cases hk:o0.k<;>rw[hk]at hr<;>simp only[hk]
   case box cells =>refine hr.imp (fun h=>h) ?_;rintro⟨b,C,cs,ty,q1,q2,q3,q4,q5⟩;exact⟨b,C,cs,ty,q1,q2,q3,by simpa using q4,qnm x q5⟩
   case arr m els =>refine⟨hr.1,hr.2.imp (fun h=>h) ?_⟩;rintro⟨b,C,cs,ty,q1,q2,q3,q4,q5,q6,q7⟩;exact⟨b,C,cs,ty,q1,q2,q3,q4,q5,q6,qds x _ _ _ _ hr.1 q7⟩
   case frz m els =>refine⟨hr.1,hr.2.imp (fun h=>h) ?_⟩;rintro⟨b,C,cs,ty,q1,q2,q3,q4,q5,q6,q7⟩;exact⟨b,C,cs,ty,q1,q2,q3,q4,q5,q6,qds x _ _ _ _ hr.1 q7⟩
   case map es =>obtain⟨b,C,ms,cl,q1,q2,q3,q4⟩:=hr;exact⟨b,C,ms,cl,q1,q2,q3,qru x _ _ q4⟩
   case sit s p=>exact hr
   case loop sl ps a c p =>obtain⟨b,C,L,q1,q2,q3,q4,q5,q6,q7⟩:=hr;exact⟨b,C,L,q1,q2,q3,qqh x q4,q5,q6,q7⟩
  .have hr:=hE.obj j _ h1;rw[hob]at h1;cases h1;unfold qem at hr ⊢;rw[hbj];refine hr.imp (fun h=>h) ?_;rintro⟨b,C,cs,ty,q1,q2,q3,q4,q5⟩;exact⟨b,C,cs,ty,q1,q2,q3,q4,qni x _ _ _ hl q5⟩
 .obtain⟨j1,p1,q1,e1,g1,d1⟩:=old i o1 h1;obtain⟨j2,p2,q2,e2,g2,d2⟩:=old j o2 h2;rw[g1]at f1;rw[g2]at f2;rw[e1]at b1;rw[e2]at b2;have:=hE.inj j1 j2 p1 p2 b C C' q1 q2 f1 f2 b1 b2;rcases d1 with⟨a1,a2,_⟩ | ⟨a1,a2,_⟩<;>rcases d2 with⟨a3,a4,_⟩ | ⟨a3,a4,_⟩<;>omega
 .have z:=qst y h;have hlo':∀i,i<E0.h.length->(qpi n id ⟨g,.box cells⟩ E).h[i]?=(q1w n E).h[i]?:=fun i hi=>hlo i (by omega);have hb':∀i,i<E0.h.length->(qpi n id ⟨g,.box cells⟩ E).b i=(q1w n E).b i:=fun i hi=>hb i (by omega);refine⟨⟨y.S,y.size,y.keep,fun b hbs hm=>?_,?_,fun i hi=>?_,fun i o' hi ho' hc=>?_,y.os,y.output,fun i o' hi ho'=>?_⟩,y.back,fun i g cells h1 h2 h3=>?_⟩
  .obtain⟨i,o,C,h1,h2,h3⟩:=hm;obtain⟨j,o0,q1,e1,g1,_⟩:=old i o h1;exact y.muts b hbs ⟨j,o0,C,q1,by rw[<-e1];exact h2,by rw[<-g1];exact h3⟩
  .show E0.h.length<=(qkd n E.h++[_]).length;rw[jF,hlen];omega
  .rw[hgen i (by omega)];exact y.gen i hi
  .rw[hlo' i hi]at ho';rw[hb' i hi];exact z.obj i o' hi ho' hc
  .rw[hlo' i hi]at ho';exact z.tags i o' hi ho'
  .have hi:=qbe h1;rw[hlo' i hi,hb' i hi];exact z.free i g cells h1 h2 h3
 .unfold rel at hu ⊢;obtain⟨_,b,q,rfl,h3⟩:=hu;refine⟨qbe hhi,b,q,rfl,fun o ho ht=>?_⟩;rw[hhi]at ho;cases ho;obtain⟨⟨C,hC⟩,h5⟩:=h3 _ hob rfl;exact⟨⟨C,by rw[hbn];exact hC⟩,h5⟩
theorem zsd{P:Program}{E:Env}(hE:Ok P E)(n k:Nat){s:List V}{us:List Value}(hs:qaj E s us) :
  ∃E' s',Ok P E'/\(∀E0,Ext E0 E->E0.h.length<=n->Ext E0 E')/\E'.w=E.w/\zps n k ⟨s,E.h⟩=⟨s',E'.h⟩/\qaj E' s' us:=by
 by_cases hx:∃id g cells,qah s k=.bptr id 0/\n<=id/\E.h[id]?=some ⟨g,.box cells⟩/\qeq n cells=true
 .obtain⟨id,g,cells,h1,h2,h3,h4⟩:=hx;obtain⟨a1,a2,a3,a4⟩:=zsi hE h3 h2 h4;refine⟨_,_,a1,a2,rfl,by simp only[zps,h1,h2,h3,h4,if_true];rfl,qxz (qqh a3 hs) fun u _ hu=>?_⟩;have:=qlt k hs;rw[h1,List.getD_eq_getElem?_getD,hu]at this;exact a4 u this
 .obtain⟨E',c1,c2,c3,c4,c5⟩:=q7p hE n;refine⟨E',_,c1,c2,c3,?_,c5 _ _ hs⟩;have e:zps n k ⟨s,E.h⟩=qvg n ⟨s,E.h⟩:=by
   unfold zps;simp only;split
   .rename_i id hk;split
    .rename_i hn;split
     .rename_i g cells hob;split
      .rename_i hl;exact absurd ⟨id,g,cells,hk,hn,hob,hl⟩ hx
      .rfl
     .rfl
    .rfl
   .rfl
  rw[e];simp only[qvg,c4]
theorem qvo{E:Env}:∀{vs:List V} {us:List Value},qaj E vs us->vs.all V.cell1=true->∀u∈us,u.oneCell'=true
 | [],us,h,_,u,hu=>by unfold qaj at h;subst h;cases hu
 | v :: vs,us,h,hc,u,hu=>by
  unfold qaj at h;obtain⟨u',us',rfl,h1,h2⟩:=h;simp only[List.all_cons,jE]at hc;rcases List.mem_cons.1 hu with rfl | hu
  .exact q4l h1 hc.1
  .exact qvo h2 hc.2 u hu
theorem qmz{h:H}:∀{vs:List V},vs.all V.pcell=true->vs.map (qan h)=vs
 | [],_=>rfl
 | v :: vs,hp=>by simp only[List.all_cons,jE]at hp;simp only[List.map_cons,q6e hp.1,qmz hp.2]
theorem zds{v:V}{id:Nat}(h:v.low1 id=true):∀c∈v.cells,∀i g m off len,c=.sl i g m off len->i≠id:=by
 intro c hc i g m off len e;subst e;cases v<;>simp only[V.cells,List.mem_singleton]at hc<;>try (cases hc;done)
 case sl j g' m' off' len' =>cases hc;simpa[V.low1]using h
 case agg cs =>simp only[V.low1,jP]at h;simpa using h _ hc
section
variable{P:Program}{E:Env}(hE:Ok P E){s:List V}{a:Act}(hs:qaj E s a.tmps.toList){o:Oper}
include hE hs
theorem zcw{t:TypeId}{x y:Operand}{x' y':A}(ho:o.op=.store t x y)(hz:P.cellsOf t≠0)(h1:cA x=some x')(r2:rel E (y'.ev s) (a.eval y)){h':H}(hv:zbw E.h (P.cellsOf t) (x'.ev s) (y'.ev s)=some h'):Does P E a o .undef h':=by
 have r1:=qav hs h1;unfold zbw at hv;split at hv
 .rename_i hc;obtain⟨hlen,hk,hc1⟩:=hc;have hcl:=qmq r2 hk;have hcs:(a.eval y).cells.size=P.cellsOf t:=by
   have:=qau hcl;rw[hlen]at this;simpa using this.symm
  have hone:=qvo hcl hc1;split at hv
  .-- a box
   rename_i id off hp;rw[hp]at r1;split at hv
   .rename_i g cells hob;split at hv
    .rename_i hfit;cases hv;obtain⟨b,C,cs,ty,hu,q1,q2,q3,q4,q5⟩:=q4g hE r1 (show q1p E.h id=some cells by unfold q1p;rw[hob]);obtain⟨E1,a1,a2,a3,a3',a4,a5,a6⟩:=qob hE hcl;have hob1:E1.h[id]?=some ⟨g,.box cells⟩:=by rw[a4];exact zfu hob
     have hb1:E1.b id=some (b,C):=(a6 id (qbe hob)).trans q1;obtain⟨w',cs',g1,g2,g3,g4,g5,g6,g7,g8⟩:=qnv (P:=P) (b:=b) (off:=off) (ty:=ty) (w:=E.w) (t:=t) (v:=a.eval y) hz hcs q3 (by omega) hone;obtain⟨k1,k2⟩:=qkz a1 hob1 rfl (o':=⟨g,.box (qsj cells off (qcb E.h (y'.ev s).cells).1)⟩) (fun _ _=>by rw[hb1];simp) (w':=w') (by rw[a3];omega) (fun k hk hne=>by rw[a3];exact g5 k (fun e=>hne C (by rw[e];exact hb1))) (by rw[a3];exact g6) (by rw[a3];exact g7) (E1.b id) (fun k D hk=>.inl ⟨D,hk⟩)
      (jD _) rfl (fun _=>⟨rfl,jD _,rfl⟩) (fun z=>by
       unfold qem;right;refine⟨b,C,cs',ty,by simp[hb1],by rw[a3'];exact q2,g3,by rw[qiv];omega,?_⟩;refine qxy (cs0:=fun j=>cs[j]?) (cs1:=fun j=>cs'[j]?) (us:=(a.eval y).cells.toList) (fun j=>qdv g3 j) (fun j=>?_) (fun j v hj=>?_) (by rw[qmp];omega) (qba a1 z _ _ a5)
       .rw[g8 j];simp
       .obtain⟨u,h3,h4⟩:=qnh q5 hj;refine⟨u,?_,qda a1 z _ _ (qda hE a2 _ _ h4)⟩;rw[qdv q3]at h3;exact h3)
     refine⟨_,k1,a2.trans k2,by simp[a4],_,?_,.inr ⟨rfl,rfl⟩⟩;simp[execOp,ho,hu,Go.Instr.storeAt,Go.Instr.sureAddr,g1]
    .cases hv
   .cases hv
  .-- an element
   rename_i id g el off hp;rw[hp]at r1;split at hv
   .rename_i g' m els hob;split at hv
    .rename_i row hrow;have place:∀gg,g'=gg->gg=g->∃b C xx,a.eval x=.pointer (some ⟨b,xx,none⟩)/\E.b id=some (b,C)/\xx=(C.2+el)*m+off:=by
      rintro _ rfl rfl;unfold rel at r1;obtain⟨_,_,b,xx,hu,hb⟩:=r1;obtain⟨C,e1,e2⟩:=hb _ hob rfl rfl;exact⟨b,C,xx,hu,e1,e2⟩
     simp only at hv;split at hv
     .rename_i hc;obtain⟨rfl,hfit,hp1,hp2⟩:=hc;cases hv;obtain⟨b,C,xx,hu,e1,e2⟩:=place _ rfl rfl;rw[qmz hp2]at hp1 ⊢;obtain⟨E',k1,k2,k3,k4⟩:=q4h hE hob hrow hlen hfit hp1 hcl hone e1 e2 hz rfl hcs;refine⟨E',k1,k2,k3,_,?_,.inr ⟨rfl,rfl⟩⟩;simp[execOp,ho,hu,Go.Instr.storeAt,Go.Instr.sureAddr,k4]
     .split at hv
      .rename_i hc;obtain⟨rfl,hfit,hp1,hlow⟩:=hc;cases hv;obtain⟨b,C,xx,hu,e1,e2⟩:=place _ rfl rfl;obtain⟨E1,b1,b2,b3,b4,b5,b6⟩:=qws (y'.ev s).cells hE;have hob1:E1.h[id]?=some ⟨g',.arr m els⟩:=by rw[b3,qpw (zds hlow)];exact hob
       have hr:=qti hE b4 b2.S hcl b6 hp1;obtain⟨E',k1,k2,k3,k4⟩:=q4h b1 hob1 hrow (by simpa using hlen) hfit hp1 hr hone (by rw[b5];exact e1) e2 hz rfl hcs;refine⟨E',k1,b2.trans k2,by rw[k3,b3];rfl,_,?_,.inr ⟨rfl,rfl⟩⟩;rw[b4]at k4;simp[execOp,ho,hu,Go.Instr.storeAt,Go.Instr.sureAddr,k4]
      .cases hv
    .cases hv
   .cases hv
  .cases hv
 .cases hv
end
theorem qlu{E:Env}:∀{vs:List V} {us:List Value},qaj E vs us<->vs.length=us.length/\∀(i:Nat) v u,vs[i]?=some v->us[i]?=some u->rel E v u
 | [],us=>by
  constructor
  .intro h;unfold qaj at h;subst h;exact⟨rfl,fun i v u h=>by simp at h⟩
  .rintro⟨h,_⟩;unfold qaj;simpa using h.symm
 | v :: vs,us=>by
  constructor
  .intro h;refine⟨qau h,?_⟩;unfold qaj at h;obtain⟨u,us',rfl,h1,h2⟩:=h;intro i w x hi hj;cases i with
   | zero=>simp at hi hj;subst hi;subst hj;exact h1
   | succ i=>exact(qlu.1 h2).2 i w x (by simpa using hi) (by simpa using hj)
  .rintro⟨h,k⟩;cases us with
   | nil=>simp at h
   | cons u us =>unfold qaj;exact⟨u,us,rfl,k 0 v u rfl rfl,qlu.2 ⟨by simpa using h,fun i w x hi hj=>k (i+1) w x (by simpa using hi) (by simpa using hj)⟩⟩
theorem zal{off:Nat}:∀(us:List Value) (j0:Nat) (cs:Array Value) (k:Nat),off+j0+us.length<=cs.size ->
  ((us.zipIdx j0).foldl (fun(cs:Array Value) (p:Value×Nat)=>cs.setIfInBounds (off+p.2) p.1) cs)[k]?=if off+j0<=k/\k<off+j0+us.length then us[k-(off+j0)]? else cs[k]?
 | [],j0,cs,k,_=>by simp;intro h1 h2;omega
 | u :: us,j0,cs,k,h=>by
  have hlt:off+j0<cs.size:=by simp only[List.length_cons]at h;omega
  have hl2:off+(j0+1)+us.length<=(cs.setIfInBounds (off+j0) u).size:=by simp only[List.length_cons]at h;simp;omega
  simp only[List.zipIdx_cons,List.foldl_cons];rw[zal us (j0+1) _ k hl2];simp only[List.length_cons]at h ⊢;by_cases h2:k=off+j0
  .subst h2;rw[if_neg (by omega),if_pos (by omega)];simp[hlt]
  .by_cases h3:off+(j0+1)<=k/\k<off+(j0+1)+us.length
   .rw[if_pos h3,if_pos (by omega),show k-(off+j0)=(k-(off+(j0+1)))+1 by omega];simp
   .rw[if_neg h3,if_neg (by omega),Array.getElem?_setIfInBounds_ne (by omega)]
theorem q4x{off:Nat}:∀(l:List (Value×Nat)) (cs:Array Value),(l.foldl (fun(cs:Array Value) (p:Value×Nat)=>cs.setIfInBounds (off+p.2) p.1) cs).size=cs.size
 | [],cs=>rfl
 | p :: l,cs=>by simp only[List.foldl_cons];rw[q4x l];simp
theorem zuy{E:Env}{cells vs:List V}{cs us:Array Value}{off:Nat}(h1:qaj E cells cs.toList)(h2:qaj E vs us.toList)(h3:off+vs.length<=cells.length) :
  qaj E (qsj cells off vs) (us.zipIdx.foldl (fun(cs:Array Value) (p:Value×Nat)=>cs.setIfInBounds (off+p.2) p.1) cs).toList:=by
 have l1:=qau h1;have l2:=qau h2;simp only[Array.length_toList]at l1 l2;have e:us.zipIdx.foldl (fun(cs:Array Value) (p:Value×Nat)=>cs.setIfInBounds (off+p.2) p.1) cs=(us.toList.zipIdx 0).foldl (fun(cs:Array Value) (p:Value×Nat)=>cs.setIfInBounds (off+p.2) p.1) cs:=by rw[<-Array.foldl_toList];simp
 rw[e,qlu];have hsz:=q4x (off:=off) (us.toList.zipIdx 0) cs;refine⟨by rw[qiv];rw[l1,<-hsz];simp,fun i v u hi hj=>?_⟩;rw[qvr off cells vs i h3]at hi;have hj':((us.toList.zipIdx 0).foldl (fun(cs:Array Value) (p:Value×Nat)=>cs.setIfInBounds (off+p.2) p.1) cs)[i]?=some u:=by simpa using hj
 rw[zal us.toList 0 cs i (by simp;omega)]at hj';simp only[Nat.add_zero,Array.length_toList]at hj';split at hi
 .rename_i hw;rw[if_pos (by omega)]at hj';exact(qlu.1 h2).2 (i-off) v u hi hj'
 .rename_i hw;rw[if_neg (by omega)]at hj';exact(qlu.1 h1).2 i v u hi (by simpa using hj')
def qfp(E:Env)(place:Nat->Option (Nat×Nat)):List (Nat×Nat×V)->List (Nat×Value)->Prop
 | [],us=>us=[]
 | (off,n,v) :: r,us=>∃i u us',us=(i,u) :: us'/\place i=some (off,n)/\rel E v u/\qfp E place r us'
theorem qok{E:Env}{place:Nat->Option (Nat×Nat)}:∀{ps:List (Nat×Nat×V)} {qs:List (Nat×Value)} {cells r:List V} {cs:Array Value},qfp E place ps qs->qaj E cells cs.toList->qqy cells ps=some r ->
  ∃r',Go.Instr.fill place cs qs=some r'/\qaj E r r'.toList
 | [],qs,cells,r,cs,h,hc,hf=>by unfold qfp at h;subst h;simp only[qqy]at hf;cases hf;exact⟨cs,rfl,hc⟩
 | (off,n,v) :: ps,qs,cells,r,cs,h,hc,hf=>by
  unfold qfp at h;obtain⟨i,u,us',rfl,hp,hr,hrest⟩:=h;simp only[qqy]at hf;split at hf
  .rename_i hcond;obtain⟨h1,h2,h3⟩:=hcond;have hcl:=qmq hr h2;have l1:=qau hcl;have l2:=qau hc;simp only[Array.length_toList]at l1 l2;obtain⟨r',e1,e2⟩:=qok hrest (zuy hc hcl (by omega)) hf;refine⟨r',?_,e2⟩;have hn:¬(u.cells.size≠n\/off+u.cells.size>cs.size):=by omega
   simp only[Go.Instr.fill,hp];rw[if_neg (by simpa using hn)];exact e1
  .cases hf
theorem qha{n:Nat}:∀{els:List (List V)} {i:Nat} {r:List V} {j:Nat},(∀q∈els,q.length=n)->els[i]?=some r->j<n->els.flatten[i*n+j]?=r[j]?
 | [],i,r,j,_,h,_=>by simp at h
 | q :: els,0,r,j,hn,h,hj=>by simp at h;subst h;have:=hn q (by simp);simp only[List.flatten_cons,Nat.zero_mul,Nat.zero_add];rw[jI (by omega)]
 | q :: els,i+1,r,j,hn,h,hj=>by have hq:=hn q (by simp);simp only[List.flatten_cons];rw[jJ (by rw[Nat.succ_mul];omega)];rw[show(i+1)*n+j-q.length=i*n+j by rw[Nat.succ_mul];omega];exact qha (fun p hp=>hn p (by simp[hp])) (by simpa using h) hj
theorem qas{n:Nat}:∀{els:List (List V)},(∀q∈els,q.length=n)->els.flatten.length=els.length*n
 | [],_=>by simp
 | q :: els,hn=>by simp only[List.flatten_cons,jF,List.length_cons,Nat.succ_mul];rw[hn q (by simp),qas (fun p hp=>hn p (by simp[hp]))];omega
theorem qgb{E:Env}{b n o:Nat}{els:List (List V)}{cs:List Value}(hn:∀q∈els,q.length=n)(hc:∀(j:Nat) u,cs[j]?=some u->j<els.length*n->E.w.cell? ⟨b,o+j,none⟩=some u)
  (hr:qaj E els.flatten (cs.take (els.length*n))):qak E n els b o:=by
 rw[qge];intro i r hi;have hrn:=hn r (jR hi);refine⟨hrn,?_⟩;rw[qrs];intro j v hj;have hjn:j<n:=by rw[<-hrn];exact(jG.1 hj).1
 have hfl:=qha hn hi hjn;rw[hj]at hfl;obtain⟨u,h1,h2⟩:=relL_get? hr hfl;have hlt:i*n+j<els.length*n:=by have hi':=(jG.1 hi).1;have:(i+1)*n<=els.length*n:=jV n (by omega);rw[Nat.succ_mul]at this;omega
 refine⟨u,?_,h2⟩;rw[Nat.add_assoc];refine hc _ u ?_ hlt;rw[List.getElem?_take_of_lt hlt]at h1;exact h1
theorem qix{E:Env}{b n:Nat}{els:List (List V)}{cs:List Value}(hn:∀q∈els,q.length=n)(hc:∀(j:Nat) u,cs[j]?=some u->j<els.length*n->E.w.cell? ⟨b,j,none⟩=some u)
  (hr:qaj E els.flatten (cs.take (els.length*n))):qak E n els b 0 :=
 qgb hn (fun j u h1 h2=>by rw[Nat.zero_add];exact hc j u h1 h2) hr
theorem q6d{n:Nat}:∀{els:List (List V)} {i:Nat} {v:List V},(∀q∈els,q.length=n)->v.length=n->i<els.length->qsj els.flatten (i*n) v=(els.set i v).flatten:=by
 intro els i v hn hv hi;have hn':∀q∈els.set i v,q.length=n:=fun q hq=>by
  rcases jT hq with h | rfl
  .exact hn q h
  .exact hv
 have hle:i*n+v.length<=els.flatten.length:=by rw[qas hn,hv];have:(i+1)*n<=els.length*n:=jV n (by omega);rw[Nat.succ_mul]at this;exact this
 apply List.ext_getElem?;intro k;rw[qvr _ _ _ _ hle];by_cases hk:k<els.length*n
 .have hn0:0<n:=by
   rcases Nat.eq_zero_or_pos n with h | h
   .subst h;simp at hk
   .exact h
  have hkd:k / n<els.length:=(Nat.div_lt_iff_lt_mul hn0).2 hk;have hkm:k % n<n:=Nat.mod_lt k hn0;have hke:k=(k / n)*n+k % n:=by rw[Nat.mul_comm];exact(Nat.div_add_mod k n).symm
  generalize k / n=q at *;generalize k % n=r at *;subst hke;by_cases hq:q=i
  .subst hq;rw[if_pos (by omega),qha hn' (r:=v) (by rw[jN hi]) hkm];congr 1;omega
  .have hw:¬(i*n<=q*n+r/\q*n+r<i*n+v.length):=by
    rintro⟨h1,h2⟩;rcases Nat.lt_or_gt_of_ne hq with h | h
    .have:(q+1)*n<=i*n:=jV n (by omega);rw[Nat.succ_mul]at this;omega
    .have:(i+1)*n<=q*n:=jV n (by omega);rw[Nat.succ_mul]at this;omega
   rw[if_neg hw];have hg:els[q]?=some els[q]:=jA hkd;rw[qha hn hg hkm,qha hn' (r:=els[q]) (by rw[jO (fun e=>hq e.symm)];exact hg) hkm]
 .rw[if_neg (by rintro⟨_,h⟩;rw[qas hn]at hle;omega)];rw[jY (by rw[qas hn];omega),jY (by rw[qas hn'];simp;omega)]
theorem qgc{P:Program}{E:Env}{t:TypeId}{zs:List V}(h:zeroCells P t=some zs):∃i z,P.info? t=some i/\i.zero=some z/\qaj E zs z.cells.toList:=by
 unfold zeroCells qsi at h;cases hi:P.info? t with
 | none=>simp[hi]at h
 | some i =>
  cases hz:i.zero with
  | none=>simp[hi,hz]at h
  | some z =>
   simp only[hi,Option.bind_some,hz]at h;cases hc:cV z with
   | none=>rw[hc]at h;cases h
   | some v =>
    rw[hc]at h;cases h;by_cases hzm:z=.map none
    .subst hzm;cases hc;refine⟨i,_,rfl,hz,?_⟩;show qaj E [.undef] [.map none];unfold qaj;exact⟨_,_,rfl,by unfold rel;trivial,by unfold qaj;rfl⟩
    by_cases hzi:z=.nilIface
    .subst hzi;cases hc;refine⟨i,_,rfl,hz,?_⟩;show qaj E [.undef] [.nilIface];unfold qaj;exact⟨_,_,rfl,by unfold rel;trivial,by unfold qaj;rfl⟩
    refine⟨i,z,rfl,hz,qmq (q9q hc) ?_⟩;cases v<;>try rfl
    -- a constant is known
    unfold cV at hc;split at hc
    .rename_i cs;cases hm:cs.toList.mapM cV1 with
     | none=>rw[hm]at hc;cases hc
     | some l=>rw[hm]at hc;cases hc
    .unfold cV1 at hc;split at hc<;>first | (cases hc;done) | (exact absurd rfl hzm) | (exact absurd rfl hzi) | (split at hc<;>cases hc)
theorem qlv{E:Env}{s:List V}{a:Act}(hs:qaj E s a.tmps.toList){place:Nat->Option (Nat×Nat)}{f:Nat×Operand->Option (Nat×Nat×A)}(hf:∀p q,f p=some q->place p.1=some (q.1,q.2.1)/\cA p.2=some q.2.2) :
  ∀{l:List (Nat×Operand)} {l':List (Nat×Nat×A)},l.mapM f=some l'->qfp E place (l'.map fun p=>(p.1,p.2.1,p.2.2.ev s)) (l.map fun p=>(p.1,a.eval p.2))
 | [],l',h=>by simp at h;subst h;simp[qfp]
 | p :: l,l',h=>by
  simp only[List.mapM_cons,bind,Option.bind]at h;cases h1:f p with
  | none=>rw[h1]at h;cases h
  | some q =>
   rw[h1]at h;simp only at h;cases h2:l.mapM f with
   | none=>rw[h2]at h;cases h
   | some qs =>rw[h2]at h;cases h;obtain⟨e1,e2⟩:=hf p q h1;simp only[List.map_cons];unfold qfp;exact⟨_,_,_,rfl,e1,qav hs e2,qlv hs hf h2⟩
theorem q0l{P:Program}:∀(fs:List Go.Field),fs.all (fun f=>(P.info? f.type).isSome)=true->fs.mapM (fun f=>(P.info? f.type).map fun i=>(f.offset,i.size))=some (fs.map fun f=>(f.offset,P.cellsOf f.type))
 | [],_=>rfl
 | f :: fs,h=>by simp only[List.all_cons,jE]at h;obtain⟨i,hi⟩:=Option.isSome_iff_exists.1 h.1;simp[List.mapM_cons,hi,q0l fs h.2,Program.cellsOf]
section
variable{P:Program}{E:Env}(hE:Ok P E){s:List V}{a:Act}(hs:qaj E s a.tmps.toList){o:Oper}
include hE hs
theorem zct{t:TypeId}{parts:Array (Nat×Operand)}{zs:List V}{ps:List (Nat×Nat×A)}(ho:o.op=.build t parts)(hz:zeroCells P t=some zs)
  (hp:(∃fs,P.underlying t=some (.struct fs)/\parts.toList.mapM (zjr P fs)=some ps/\fs.toList.all (fun f=>(P.info? f.type).isSome)=true)\/(∃n e,P.underlying t=some (.array n e)/\parts.toList.mapM (zjq P e)=some ps/\(P.info? e).isSome=true))
  {r:List V} (hv:qqy zs (ps.map fun p=>(p.1,p.2.1,p.2.2.ev s))=some r):Does P E a o (.agg r) E.h:=by
 obtain⟨i,z,hi,hz0,hzr⟩:=qgc (E:=E) hz;have key:∃r',P.built t (parts.toList.map fun p=>(p.1,a.eval p.2))=some r'/\qaj E r r'.toList:=by
  rcases hp with⟨fs,hu,hm,hall⟩ | ⟨n,e,hu,hm,hall⟩
  .have hpl:=q0l fs.toList hall;have hrp:=qlv hs (place:=(((fs.toList.map fun f=>(f.offset,P.cellsOf f.type)).toArray)[·]?)) (f:=zjr P fs) (fun p q h=>by
    unfold zjr at h;cases hf:fs[p.1]? with
    | none=>rw[hf]at h;cases h
    | some f =>
     rw[hf]at h;cases hc:cA p.2 with
     | none=>simp[hc]at h
     | some x =>simp only[hc,Option.map_some,jC]at h;subst h;refine⟨?_,rfl⟩;simp[hf]) hm
   obtain⟨r',e1,e2⟩:=qok hrp hzr hv;refine⟨r',?_,e2⟩;unfold Program.built;simp only[hi,hu,hz0,hpl];exact e1
  .obtain⟨ie,hie⟩:=Option.isSome_iff_exists.1 hall;have hrp:=qlv hs (place:=fun i=>some (i*ie.size,ie.size)) (f:=zjq P e) (fun p q h=>by
    unfold zjq at h;cases hc:cA p.2 with
    | none=>simp[hc]at h
    | some x =>simp only[hc,Option.map_some,jC]at h;subst h;simp[Program.cellsOf,hie]) hm
   obtain⟨r',e1,e2⟩:=qok hrp hzr hv;refine⟨r',?_,e2⟩;unfold Program.built;simp only[hi,hu,hz0,hie];exact e1
 obtain⟨r',h1,h2⟩:=key;have hb:=Go.run_build (P:=P) E.w t (parts.map fun p=>(p.1,a.eval p.2)) r' (by simpa using h1);refine Does.same hE (u:=.agg r') ?_ (by unfold rel;exact⟨r',rfl,h2⟩);simp[execOp,ho,hb]
end
theorem qsv{n:Nat}:∀{qs:List (Nat×V)} {els els':List (List V)},(∀q∈els,q.length=n)->qsu n els qs=some els' ->
  qqy els.flatten (qs.map fun q=>(q.1*n,n,q.2))=some els'.flatten/\(∀q∈els',q.length=n)/\els'.length=els.length/\∀q∈qs,q.2.cells.all V.pcell=true
 | [],els,els',hn,h=>by simp only[qsu]at h;cases h;exact⟨rfl,hn,rfl,fun q hq=>by cases hq⟩
 | (i,v) :: qs,els,els',hn,h=>by
  simp only[qsu]at h;split at h
  .rename_i hc;obtain⟨h1,h2,h3,h4⟩:=hc;have hn':∀q∈els.set i v.cells,q.length=n:=fun q hq=>by
    rcases jT hq with h | rfl
    .exact hn q h
    .exact h1
   obtain⟨e1,e2,e3,e4⟩:=qsv hn' h;refine⟨?_,e2,by rw[e3];simp,fun q hq=>?_⟩
   .simp only[List.map_cons,qqy];rw[if_pos,q6d hn h1 h4]
    .exact e1
    .refine⟨h1,h2,?_⟩;rw[qas hn];have:(i+1)*n<=els.length*n:=jV n (by omega);rw[Nat.succ_mul]at this;exact this
   .rcases List.mem_cons.1 hq with rfl | hq
    .exact h3
    .exact e4 q hq
  .cases h
theorem qhy{E:Env}{n len:Nat}{zs:List V}{z:Array Value}(hz:qaj E zs z.toList)(hn:zs.length=n)(h0:0<n) :
  qaj E (List.replicate len zs).flatten ((Array.range (len*n)).map (z[· % z.size]!)).toList:=by
 have hl:∀q∈List.replicate len zs,q.length=n:=fun q hq=>by rw[List.eq_of_mem_replicate hq];exact hn
 have hzs:z.size=n:=by have:=qau hz;simp at this;omega
 rw[qlu];refine⟨by rw[qas hl];simp,fun k v u hk hu=>?_⟩;have hk':k<len*n:=by have:=(jG.1 hk).1;rw[qas hl]at this;simpa using this
 have hkm:k % n<n:=Nat.mod_lt k h0;have hkd:k / n<len:=(Nat.div_lt_iff_lt_mul h0).2 hk';have hke:k=(k / n)*n+k % n:=by rw[Nat.mul_comm];exact(Nat.div_add_mod k n).symm
 have hg:(List.replicate len zs)[k / n]?=some zs:=by simp[hkd]
 rw[hke,qha hl hg hkm]at hk;simp only[Array.toList_map,Array.toList_range,List.getElem?_map,List.getElem?_range hk',Option.map_some,jC]at hu;subst hu;refine(qlu.1 hz).2 (k % n) v _ hk ?_;rw[hzs];simp[hzs,hkm]
theorem q3a{E:Env}{v:V}{u:Value}(h:rel E v u):rel E (qan [] v) u:=by
 cases v<;>try exact h
 case immc els=>exact qrf h
 case nils =>simp only[qan];unfold rel at h ⊢;obtain⟨a,rfl⟩:=h;exact⟨a,0,rfl,jD _,rfl,.inl rfl⟩
 case nilx =>simp only[qan];unfold rel at h ⊢;subst h;exact⟨none,0,rfl,jD _,rfl,.inl rfl⟩
 case sl id g n off len =>simp only[qan,qhh];unfold rel;trivial
theorem qdl{E:Env}:∀{vs:List V} {us:List Value},qaj E vs us->qaj E (vs.map (qan [])) us
 | [],_,h=>h
 | v :: vs,us,h=>by unfold qaj at h;obtain⟨u,us',rfl,h1,h2⟩:=h;simp only[List.map_cons];unfold qaj;exact⟨u,us',rfl,q3a h1,qdl h2⟩
theorem ztc{P:Program}{E:Env}(hE:Ok P E){n:Nat}{els:List (List V)}{cs:Array Value}{ty:TypeId}(hn:∀q∈els,q.length=n)(h0:0<n)(hp:qce els=true)(hr:qaj E els.flatten cs.toList){cap:Nat}(hcap:els.length<=cap) :
  ∃E',Ok P E'/\Ext E E'/\E'.h=E.h/\E'.w=E.w.alloc (.cells cs ty)/\rel E' (.imm els) (.slice (some ⟨E.w.heap.size,0,none⟩) els.length cap):=by
 obtain⟨k1,k2⟩:=qww hE (Grow.alloc E.w (.cells cs ty)) (S':=fun b=>E.S b\/b=E.w.heap.size) (fun b h=>.inl h) (fun b h=>h.imp (fun h=>h) (fun h=>by subst h;simp));refine⟨_,k1,k2,rfl,rfl,?_⟩;unfold rel;refine⟨_,cap,rfl,hcap,hp,.inr ⟨E.w.heap.size,0,n,rfl,h0,.inr rfl,?_⟩⟩;have hnew:(E.w.alloc (.cells cs ty)).heap[E.w.heap.size]?=some (.cells cs ty (0,0)):=Go.heap_alloc_new _ _;have hlen:=qau hr;rw[qas hn]at hlen;refine qix (cs:=cs.toList) hn (fun j u hj _=>?_) ?_
 .show(E.w.alloc (.cells cs ty)).cell? ⟨E.w.heap.size,j,none⟩=some u;rw[qdv hnew];simpa using hj
 .rw[hlen,List.take_length];exact qba hE k2 _ _ hr
theorem qub:∀{ps:List (Nat×Nat×V)} {cells r:List V},qqy cells ps=some r->r.length=cells.length
 | [],cells,r,h=>by simp only[qqy,jC]at h;rw[h]
 | (off,n,v) :: ps,cells,r,h=>by
  simp only[qqy]at h;split at h
  .rw[qub h,qiv]
  .cases h
theorem zph{P:Program}{E:Env}(hE:Ok P E){cells:List V}{cs:Array Value}{ty:TypeId}(hr:qaj E cells cs.toList) :
  ∃E',Ok P E'/\Ext E E'/\E'.h=E.h/\E'.w=E.w.alloc (.cells cs ty)/\rel E' (.view false cells) (.slice (some ⟨E.w.heap.size,0,none⟩) cells.length cells.length):=by
 obtain⟨k1,k2⟩:=qww hE (Grow.alloc E.w (.cells cs ty)) (S':=fun b=>E.S b\/b=E.w.heap.size) (fun b h=>.inl h) (fun b h=>h.imp (fun h=>h) (fun h=>by subst h;simp));refine⟨_,k1,k2,rfl,rfl,?_⟩;have hnew:(E.w.alloc (.cells cs ty)).heap[E.w.heap.size]?=some (.cells cs ty (0,0)):=Go.heap_alloc_new _ _;unfold rel;refine⟨E.w.heap.size,0,.inr rfl,qgp (us:=cs.toList) (fun j u hj=>?_) (qba hE k2 _ _ hr),.inr ⟨rfl,_,rfl,jD _⟩⟩;show(E.w.alloc (.cells cs ty)).cell? ⟨E.w.heap.size,0+j,none⟩=some u;rw[qdv hnew];simpa using hj
theorem qoy{E:Env}{n:Nat}:∀{qs:List (Nat×V)} {us:List (Nat×Value)},qs.length=us.length->(∀(i:Nat) q u,qs[i]?=some q->us[i]?=some u->q.1=u.1/\rel E q.2 u.2)->qfp E (fun i=>some (i*n,n)) (qs.map fun q=>(q.1*n,n,q.2)) us
 | [],us,h,_=>by
  cases us with
  | nil=>simp[qfp]
  | cons _ _=>simp at h
 | q :: qs,us,h,k=>by
  cases us with
  | nil=>simp at h
  | cons u us =>obtain⟨e1,e2⟩:=k 0 q u rfl rfl;simp only[List.map_cons];unfold qfp;exact⟨u.1,u.2,us,rfl,by rw[e1],e2,qoy (by simpa using h) fun i p v hp hv=>k (i+1) p v (by simpa using hp) (by simpa using hv)⟩
theorem qkv{E:Env}{s:List V}{a:Act}(hs:qaj E s a.tmps.toList):∀{l:List (Nat×Operand)} {l':List (Nat×A)},l.mapM qzc=some l'->l'.length=l.length/\∀(i:Nat) p q,l[i]?=some p->l'[i]?=some q->q.1=p.1/\rel E (q.2.ev s) (a.eval p.2)
 | [],l',h=>by simp at h;subst h;exact⟨rfl,fun i p q h=>by simp at h⟩
 | p :: l,l',h=>by
  simp only[List.mapM_cons,bind,Option.bind]at h;cases h1:qzc p with
  | none=>rw[h1]at h;cases h
  | some q =>
   rw[h1]at h;simp only at h;cases h2:l.mapM qzc with
   | none=>rw[h2]at h;cases h
   | some qs =>
    rw[h2]at h;cases h;obtain⟨e1,e2⟩:=qkv hs h2;refine⟨by simp[e1],fun i p' q' hp hq=>?_⟩;cases i with
    | zero =>
     simp at hp hq;subst hp;subst hq;unfold qzc at h1;cases hc:cA p.2 with
     | none=>simp[hc]at h1
     | some x =>simp only[hc,Option.map_some,jC]at h1;subst h1;exact⟨rfl,qav hs hc⟩
    | succ i=>exact e2 i p' q' (by simpa using hp) (by simpa using hq)
theorem q7z(h:H):∀(a b:List V),q7y h (a++b)=q7y (q7y h a) b:=by
 intro a;induction a generalizing h with
 | nil=>intro b;rfl
 | cons v vs ih=>intro b;exact ih (zda h v) b
theorem zss(h:H):∀(vs:List V),qyy h vs=q7y h (vs.flatMap V.cells):=by
 intro vs;induction vs generalizing h with
 | nil=>rfl
 | cons v vs ih =>show qyy (zyg h v) vs=_;rw[ih,List.flatMap_cons,q7z];rfl
theorem qwt{P:Program}{E:Env}(hE:Ok P E)(vs:List V):∃E',Ok P E'/\Ext E E'/\E'.h=qyy E.h vs/\E'.w=E.w/\E'.b=E.b/\∀v∈vs,∀c∈v.cells,inS E E'.S c:=by obtain⟨E',a1,a2,a3,a4,a5,a6⟩:=qws (vs.flatMap V.cells) hE;exact⟨E',a1,a2,by rw[a3,zss],a4,a5,fun v hv c hc=>a6 c (List.mem_flatMap.2 ⟨v,hv,hc⟩)⟩
theorem q6g{P:Program}{E E':Env}(hE:Ok P E)(hw:E'.w=E.w)(hS:∀b,E.S b->E'.S b){v:V}{u:Value}(h:rel E v u)(hi:∀c∈v.cells,inS E E'.S c)(hp:(qfq E.h v).cells.all V.pcell=true):rel E' (qfq E.h v) u:=by
 cases v
 case agg cs =>unfold rel at h;obtain⟨us,rfl,hl⟩:=h;simp only[qfq]at hp ⊢;unfold rel;exact⟨us,rfl,qti hE hw hS hl hi hp⟩
 case tup vs=>simp[qfq,V.cells,V.pcell]at hp
 case sl id g m off len =>exact qed (n:=0) (E:=⟨E.b,E'.S,E.h,E.w⟩) (E':=E') ⟨hw,fun _ h=>h,fun i hi=>absurd hi (Nat.not_lt_zero _)⟩ _ _ (qgd E.h (.sl id g m off len) (.inr ⟨id,g,m,off,len,rfl⟩)) (qij hE hS h (hi _ (by simp[V.cells])))
 all_goals
  refine qed (n:=0) (E:=⟨E.b,E'.S,E.h,E.w⟩) (E':=E') ⟨hw,fun _ h=>h,fun i hi=>absurd hi (Nat.not_lt_zero _)⟩ _ _ ?_ (qij hE hS h (hi _ (by simp[V.cells])))
  first
   | rfl
   | (exfalso;simp[qfq,qan,V.cells,V.pcell]at hp;done)
   | (simp only[qfq,qan,V.cells,V.pcell,List.all_cons,List.all_nil,Bool.and_true,jE]at hp;simp[qfq,qan,V.low,hp])
section
variable{P:Program}{E:Env}(hE:Ok P E){s:List V}{a:Act}(hs:qaj E s a.tmps.toList){o:Oper}
include hE hs
theorem zir{t e:TypeId}{len:Nat}{parts:Array (Nat×Operand)}{zs:List V}{ps:List (Nat×A)}(ho:o.op=.buildSlice t len parts)(ht:P.underlying t=some (.slice e))(hz:zeroCells P e=some zs)(hm:parts.toList.mapM qzc=some ps)
  (hn0:P.cellsOf e≠0) (hl0:len≠0) (hzl:zs.length=P.cellsOf e) (hlen:len*P.cellsOf e<=2 ^ 20) (E1:Env) (g:V->V) (els:List (List V)) (k1:Ok P E1) (k2:Ext E E1) (kw:E1.w=E.w)
  (kr:∀(j:Nat) p q,parts.toList[j]?=some p->ps[j]?=some q->(g (q.2.ev s)).cells.all V.pcell=true->rel E1 (g (q.2.ev s)) (a.eval p.2))
  (hf:qsu (P.cellsOf e) (List.replicate len (zs.map (qan []))) (ps.map fun p=>(p.1,g (p.2.ev s)))=some els) (hp:qce els=true) {v:V} (hv:v=.imm els\/v=.immc els):Does P E a o v E1.h:=by
 obtain⟨i,z,hi,hz0,hzr⟩:=qgc (E:=E) hz;obtain⟨hpl,hpr⟩:=qkv hs hm;have hisz:i.size=P.cellsOf e:=by simp[Program.cellsOf,hi]
 have hrl:∀q∈List.replicate len (zs.map (qan [])),q.length=P.cellsOf e:=fun q hq=>by rw[List.eq_of_mem_replicate hq];simpa using hzl
 obtain⟨f1,f2,f3,f4⟩:=qsv hrl hf;have hparts:qfp E1 (fun i=>some (i*P.cellsOf e,P.cellsOf e)) ((ps.map fun p=>(p.1,g (p.2.ev s))).map fun q=>(q.1*P.cellsOf e,P.cellsOf e,q.2)) (parts.toList.map fun p=>(p.1,a.eval p.2)):=by refine qoy (by simp[hpl]) fun j q u hq hu=>?_;simp only[List.getElem?_map,jM]at hq hu;obtain⟨q0,hq0,rfl⟩:=hq;obtain⟨p0,hp0,rfl⟩:=hu;refine⟨(hpr j p0 q0 hp0 hq0).1,kr j p0 q0 hp0 hq0 ?_⟩;exact f4 (q0.1,g (q0.2.ev s)) (List.mem_map.2 ⟨q0,jR hq0,rfl⟩)
 have hzr1:=qhy (E:=E1) (len:=len) (n:=P.cellsOf e) (zs:=zs.map (qan [])) (z:=z.cells) (qdl (qba hE k2 _ _ hzr)) (by simpa using hzl) (by omega);obtain⟨cs,c1,c2⟩:=qok hparts hzr1 f1;obtain⟨E2,m1,m2,m3,m4,m5⟩:=ztc k1 (n:=P.cellsOf e) (els:=els) (cs:=cs) (ty:=e) f2 (by omega) hp c2 (cap:=len) (by rw[f3];simp);have hels:els.length=len:=by rw[f3];simp
 have m6:rel E2 v (.slice (some ⟨E1.w.heap.size,0,none⟩) els.length len):=by
  rcases hv with rfl | rfl
  .exact m5
  .unfold rel at m5 ⊢;obtain⟨a,cap,q1,q2,q3,q4⟩:=m5;cases q1;exact⟨_,by rw[hels],q3,q4⟩
 refine⟨E2,m1,k2.trans m2,m3,_,?_,.inl ⟨_,rfl,m6⟩⟩;rw[m4,kw,hels];have hb:=Go.run_buildSlice (P:=P) E.w t e len (parts.map fun p=>(p.1,a.eval p.2)) cs i z ht hi hz0 (by rw[hisz];omega) (by rw[hisz];simp only[Nat.mul_eq_zero,not_or];exact⟨hl0,hn0⟩) (by rw[hisz];simpa using c1);simp[execOp,ho,hb]
theorem zmt{t e:TypeId}{len:Nat}{parts:Array (Nat×Operand)}{zs:List V}{ps:List (Nat×A)}(ho:o.op=.buildSlice t len parts)(ht:P.underlying t=some (.slice e))(hz:zeroCells P e=some zs)(hm:parts.toList.mapM qzc=some ps)
  (hlen:len*P.cellsOf e<=2 ^ 20) (hn0:P.cellsOf e≠0) (hl0:len≠0) (hzl:zs.length=P.cellsOf e) {v:V} {h':H} (hv:exO (.lit (P.cellsOf e) (zs.map (qan [])) len ps) s E.h=some (v,h')):Does P E a o v h':=by
 simp only[exO]at hv;obtain⟨hpl,hpr⟩:=qkv hs hm;split at hv
 .rename_i els hf;split at hv
  .rename_i hp;cases hv;exact zir hE hs ho ht hz hm hn0 hl0 hzl hlen E (fun v=>v) els hE (Ext.refl E) rfl (fun j p q hp' hq' _=>(hpr j p q hp' hq').2) hf hp (.inr rfl)
  .cases hv
 .cases hv
theorem q7r{t e:TypeId}{len:Nat}{parts:Array (Nat×Operand)}{zs:List V}{ps:List (Nat×A)}{fz:Bool}(ho:o.op=.buildSlice t len parts)(ht:P.underlying t=some (.slice e))(hz:zeroCells P e=some zs)(hm:parts.toList.mapM qzc=some ps)
  (hlen:len*P.cellsOf e<=2 ^ 20) (hn0:P.cellsOf e≠0) (hl0:len≠0) (hzl:zs.length=P.cellsOf e) {v:V} {h':H} (hv:exO (.bslice fz (P.cellsOf e) (zs.map (qan [])) len ps) s E.h=some (v,h')):Does P E a o v h':=by
 simp only[exO,if_neg hl0]at hv;obtain⟨i,z,hi,hz0,hzr⟩:=qgc (E:=E) hz;obtain⟨hpl,hpr⟩:=qkv hs hm;have hisz:i.size=P.cellsOf e:=by simp[Program.cellsOf,hi]
 have key:∀(E1:Env) (g:V->V) (els:List (List V)),Ok P E1->Ext E E1->E1.w=E.w->(∀(j:Nat) p q,parts.toList[j]?=some p->ps[j]?=some q->(g (q.2.ev s)).cells.all V.pcell=true->rel E1 (g (q.2.ev s)) (a.eval p.2)) ->
   qsu (P.cellsOf e) (List.replicate len (zs.map (qan []))) (ps.map fun p=>(p.1,g (p.2.ev s)))=some els->qce els=true->Does P E a o (.imm els) E1.h :=
  fun E1 g els k1 k2 kw kr hf hp=>zir hE hs ho ht hz hm hn0 hl0 hzl hlen E1 g els k1 k2 kw kr hf hp (.inl rfl)
 cases fz with
 | true =>
  simp only[if_true]at hv;cases hf:qsu (P.cellsOf e) (List.replicate len (zs.map (qan []))) (ps.map fun p=>(p.1,qfq E.h (p.2.ev s)))with
  | none=>rw[hf]at hv;cases hv
  | some els =>
   rw[hf]at hv;simp only at hv;split at hv
   .rename_i hp;cases hv;obtain⟨E1,b1,b2,b3,b4,b5,b6⟩:=qwt hE (ps.map fun p=>p.2.ev s);have:=key E1 (qfq E.h) els b1 b2 b4 (fun j p q hp' hq' hpc=>q6g hE b4 b2.S (hpr j p q hp' hq').2 (fun c hc=>b6 _ (List.mem_map.2 ⟨q,jR hq',rfl⟩) c hc) hpc) hf hp;rw[b3]at this;exact this
   .cases hv
 | false =>
  simp only[Bool.false_eq_true,if_false]at hv;cases hf:qsu (P.cellsOf e) (List.replicate len (zs.map (qan []))) (ps.map fun p=>(p.1,p.2.ev s))with
  | none =>
   rw[hf]at hv;simp only at hv;split at hv
   .rename_i hn1;split at hv
    .rename_i cells hfc;cases hv;have hrl:∀q∈List.replicate len (zs.map (qan [])),q.length=P.cellsOf e:=fun q hq=>by rw[List.eq_of_mem_replicate hq];simpa using hzl
     have hparts:qfp E (fun i=>some (i*P.cellsOf e,P.cellsOf e)) ((ps.map fun p=>(p.1,p.2.ev s)).map fun q=>(q.1*P.cellsOf e,P.cellsOf e,q.2)) (parts.toList.map fun p=>(p.1,a.eval p.2)):=by refine qoy (by simp[hpl]) fun j q u hq hu=>?_;simp only[List.getElem?_map,jM]at hq hu;obtain⟨q0,hq0,rfl⟩:=hq;obtain⟨p0,hp0,rfl⟩:=hu;exact hpr j p0 q0 hp0 hq0
     have hzr1:=qhy (E:=E) (len:=len) (n:=P.cellsOf e) (zs:=zs.map (qan [])) (z:=z.cells) (qdl hzr) (by simpa using hzl) (by omega);have hfc':qqy (List.replicate len (zs.map (qan []))).flatten ((ps.map fun p=>(p.1,p.2.ev s)).map fun q=>(q.1*P.cellsOf e,P.cellsOf e,q.2))=some cells:=by rw[List.map_map];exact hfc
     obtain⟨cs,c1,c2⟩:=qok hparts hzr1 hfc';obtain⟨E2,m1,m2,m3,m4,m5⟩:=zph hE (ty:=e) c2;have hcl:cells.length=len:=by have h1:=qau c2;have h2:=qub hfc';rw[h2,qas hrl,hn1];simp
     refine⟨E2,m1,m2,m3,_,?_,.inl ⟨_,rfl,m5⟩⟩;rw[m4,hcl];have hb:=Go.run_buildSlice (P:=P) E.w t e len (parts.map fun p=>(p.1,a.eval p.2)) cs i z ht hi hz0 (by rw[hisz];omega) (by rw[hisz];simp only[Nat.mul_eq_zero,not_or];exact⟨hl0,hn0⟩) (by rw[hisz];simpa using c1);simp[execOp,ho,hb]
    .cases hv
   .cases hv
  | some els =>
   rw[hf]at hv;simp only at hv;split at hv
   .rename_i hp;cases hv;exact key E (fun v=>v) els hE (Ext.refl E) rfl (fun j p q hp' hq' _=>(hpr j p q hp' hq').2) hf hp
   .cases hv
end
theorem q1s(g:Nat){P:Program}{E:Env}(hE:Ok P E){n C:Nat}{els:List (List V)}{cs:Array Value}{ty:TypeId}{w':World}(hg:Grow E.w w')(hnew:w'.heap[E.w.heap.size]?=some (.cells cs ty (0,0)))(hn:∀q∈els,q.length=n)(h0:0<n)(hp:qce els=true)
  (hsz:cs.size=C*n) (hle:els.length<=C) (hr:qaj E els.flatten (cs.toList.take (els.length*n))) :
  ∃E',Ok P E'/\Ext E E'/\E'.h=E.h++[⟨g,.arr n els⟩]/\E'.w=w'/\rel E' (.sl E.h.length g n 0 els.length) (.slice (some ⟨E.w.heap.size,0,none⟩) els.length C):=by
 obtain⟨k1,k2⟩:=qhe hE hg ⟨g,.arr n els⟩ (some (E.w.heap.size,C,0)) (by intro b D h;cases h;exact⟨jD _,qec hnew⟩) (fun x=>by
  unfold qem;refine⟨hp,.inr ⟨E.w.heap.size,(C,0),cs,ty,by simp,fun h=>by have:=hE.S _ h;omega,hnew,h0,by simpa using hsz,hle,?_⟩⟩;rw[show((C,0):Nat×Nat).2*n=0 from Nat.zero_mul n];refine qix (cs:=cs.toList) hn (fun j u hj _=>?_) (qba hE x _ _ hr);show w'.cell? ⟨E.w.heap.size,j,none⟩=some u;rw[qdv hnew];simpa using hj)
 refine⟨_,k1,k2,rfl,rfl,?_⟩;unfold rel;refine⟨by simp,by simp[qgt],_,_,rfl,hle,(fun h=>by cases h),(fun y hy _=>by cases hy;rfl),fun o ho _ _=>?_⟩;simp at ho;subst ho;exact⟨by simp[qmi],by simp[qco],.inr ⟨E.w.heap.size,(C,0),0,by simp,rfl,by simp,fun _=>by simp⟩⟩
theorem q7l{P:Program}{E:Env}(hE:Ok P E){n C:Nat}{els:List (List V)}{cs:Array Value}{ty:TypeId}{w':World}(hg:Grow E.w w')(hnew:w'.heap[E.w.heap.size]?=some (.cells cs ty (0,0)))(hn:∀q∈els,q.length=n)(h0:0<n)(hp:qce els=true)
  (hsz:cs.size=C*n) (hle:els.length<=C) (hr:qaj E els.flatten (cs.toList.take (els.length*n))) :
  ∃E',Ok P E'/\Ext E E'/\E'.h=E.h++[⟨0,.arr n els⟩]/\E'.w=w'/\rel E' (.sl E.h.length 0 n 0 els.length) (.slice (some ⟨E.w.heap.size,0,none⟩) els.length C):=q1s 0 hE hg hnew hn h0 hp hsz hle hr
theorem qnf{k:Nat}{r:List V}(h:r.all V.pcell=true):qce (List.replicate k r)=true:=by simp only[qce,jP];intro q hq;rw[List.eq_of_mem_replicate hq];simpa[jP]using h
theorem qmy(z:Array Value)(n:Nat):Go.madeCells z n=(Array.range n).map (z[· % z.size]!):=rfl
section
variable{P:Program}{E:Env}(hE:Ok P E){s:List V}{a:Act}(hs:qaj E s a.tmps.toList){o:Oper}
include hE hs
theorem q4p{t e:TypeId}{l c:Operand}{l' c':A}{zs:List V}(ho:o.op=.makeSlice t l c)(ht:P.underlying t=some (.slice e))(hz:zeroCells P e=some zs)(hn0:P.cellsOf e≠0)(hzl:zs.length=P.cellsOf e)(h1:cA l=some l')(h2:cA c=some c')
  {v:V} {h':H} (hv:exO (.mkslice (P.cellsOf e) (P.bytesOf e) (zs.map (qan [])) l' c') s E.h=some (v,h')):Does P E a o v h':=by
 obtain⟨i,z,hi,hz0,hzr⟩:=qgc (E:=E) hz;have hisz:i.size=P.cellsOf e:=by simp[Program.cellsOf,hi]
 have hib:i.bytes=P.bytesOf e:=by simp[Program.bytesOf,hi]
 simp only[exO]at hv;cases hl:qqn (l'.ev s)with
 | none=>rw[hl]at hv;cases hv
 | some m =>
  cases hc:qqn (c'.ev s)with
  | none=>rw[hl,hc]at hv;cases hv
  | some k =>
   rw[hl,hc]at hv;simp only at hv;split at hv
   .rename_i hcond;obtain⟨hmk,hkb,hpz,hk62⟩:=hcond;cases hv;obtain⟨ql,il,e1,e2,e3⟩:=qex hl;obtain⟨qc,ic,f1,f2,f3⟩:=qex hc;have r1:=qav hs h1;have r2:=qav hs h2;rw[e1]at r1;rw[f1]at r2;unfold rel at r1 r2;have hrun:=Go.run_make (P:=P) E.w t e i z ht hi hz0 ql qc il ic e2 (by omega) (by
     have:((k*i.bytes:Nat):Int)<=281474976710656:=by rw[hib];omega
     rw[Int.natCast_mul]at this;rw[Int.mul_comm];have hk:ic=(k:Int):=by omega
     rw[hk];exact this) (by omega)
    have hrl:∀q∈List.replicate m (zs.map (qan [])),q.length=P.cellsOf e:=fun q hq=>by rw[List.eq_of_mem_replicate hq];simpa using hzl
    have hzm:=qhy (E:=E) (len:=k) (n:=P.cellsOf e) (zs:=zs.map (qan [])) (z:=z.cells) (qdl hzr) (by simpa using hzl) (by omega);have htake:qaj E (List.replicate m (zs.map (qan []))).flatten ((Go.madeCells z.cells (k*P.cellsOf e)).toList.take (m*P.cellsOf e)):=by
     have h3:=qhr (m*P.cellsOf e) hzm;rw[qmy];have:(List.replicate k (zs.map (qan []))).flatten.take (m*P.cellsOf e)=(List.replicate m (zs.map (qan []))).flatten:=by rw[show k=m+(k-m)by omega,<-List.replicate_append_replicate,jZ,List.take_append_of_le_length (by rw[qas hrl];simp),kB (by rw[qas hrl];simp)]
     rw[this]at h3;exact h3
    obtain⟨E',k1,k2,k3,k4,k5⟩:=q1s 1 hE (n:=P.cellsOf e) (C:=k) (els:=List.replicate m (zs.map (qan []))) (Grow.alloc E.w (.cells (Go.madeCells z.cells (k*P.cellsOf e)) e)) (Go.heap_alloc_new _ _) hrl (by omega) (qnf hpz)
     (by rw[Go.size_madeCells]) (by simpa using hmk) (by simpa using htake)
    refine⟨E',k1,k2,k3,_,?_,.inl ⟨_,rfl,by simpa using k5⟩⟩;rw[k4];rw[hisz]at hrun;simp[execOp,ho,r1,r2,hrun,e3,f3]
   .cases hv
theorem zmv{t e:TypeId}{len:Nat}{parts:Array (Nat×Operand)}{zs:List V}{ps:List (Nat×A)}(ho:o.op=.buildSlice t len parts)(ht:P.underlying t=some (.slice e))(hz:zeroCells P e=some zs)(hm:parts.toList.mapM qzc=some ps)
  (hlen:len*P.cellsOf e<=2 ^ 20) (hn0:P.cellsOf e≠0) (hzl:zs.length=P.cellsOf e) {v:V} {h':H} (hv:exO (.own (P.cellsOf e) (zs.map (qan [])) len ps) s E.h=some (v,h')):Does P E a o v h':=by
 simp only[exO]at hv;obtain⟨i,z,hi,hz0,hzr⟩:=qgc (E:=E) hz;obtain⟨hpl,hpr⟩:=qkv hs hm;have hisz:i.size=P.cellsOf e:=by simp[Program.cellsOf,hi]
 split at hv
 .rename_i els hf;split at hv
  .rename_i hc;obtain⟨hl0,hp⟩:=hc;cases hv;obtain⟨E1,b1,b2,b3,b4,b5,b6⟩:=qwt hE (ps.map fun p=>p.2.ev s);have hrl:∀q∈List.replicate len (zs.map (qan [])),q.length=P.cellsOf e:=fun q hq=>by rw[List.eq_of_mem_replicate hq];simpa using hzl
   obtain⟨f1,f2,f3,f4⟩:=qsv hrl hf;have hparts:qfp E1 (fun i=>some (i*P.cellsOf e,P.cellsOf e)) ((ps.map fun p=>(p.1,qfq E.h (p.2.ev s))).map fun q=>(q.1*P.cellsOf e,P.cellsOf e,q.2)) (parts.toList.map fun p=>(p.1,a.eval p.2)):=by refine qoy (by simp[hpl]) fun j q u hq hu=>?_;simp only[List.getElem?_map,jM]at hq hu;obtain⟨q0,hq0,rfl⟩:=hq;obtain⟨p0,hp0,rfl⟩:=hu;refine⟨(hpr j p0 q0 hp0 hq0).1,?_⟩;exact q6g hE b4 b2.S (hpr j p0 q0 hp0 hq0).2 (fun c hc=>b6 _ (List.mem_map.2 ⟨q0,jR hq0,rfl⟩) c hc) (f4 (q0.1,qfq E.h (q0.2.ev s)) (List.mem_map.2 ⟨q0,jR hq0,rfl⟩))
   have hzr1:=qhy (E:=E1) (len:=len) (n:=P.cellsOf e) (zs:=zs.map (qan [])) (z:=z.cells) (qdl (qba hE b2 _ _ hzr)) (by simpa using hzl) (by omega);obtain⟨cs,c1,c2⟩:=qok hparts hzr1 f1;have hels:els.length=len:=by rw[f3];simp
   have hcl:cs.toList.length=els.length*P.cellsOf e:=by have:=qau c2;rw[qas f2]at this;exact this.symm
   obtain⟨E2,m1,m2,m3,m4,m5⟩:=q1s 0 b1 (n:=P.cellsOf e) (C:=len) (els:=els) (cs:=cs) (ty:=e) (Grow.alloc E1.w (.cells cs e)) (Go.heap_alloc_new _ _) f2 (by omega) hp (by rw[<-hels,<-hcl];simp) (by omega) (by rw[<-hcl,List.take_length];exact c2);rw[hels]at m5;refine⟨E2,m1,b2.trans m2,by rw[m3,b3],_,?_,.inl ⟨_,rfl,by rw[<-b3];exact m5⟩⟩;rw[m4,b4];have hb:=Go.run_buildSlice (P:=P) E.w t e len (parts.map fun p=>(p.1,a.eval p.2)) cs i z ht hi hz0 (by rw[hisz];omega) (by rw[hisz];simp only[Nat.mul_eq_zero,not_or];exact⟨hl0,hn0⟩) (by rw[hisz];simpa using c1);simp[execOp,ho,hb]
  .cases hv
 .cases hv
end
open Go (World Value Addr Obj Program Act Operand Oper Op Sem Result Next undef execOp TypeId TypeDesc Builtin.append_ Builtin.firstCells TypeInfo)
structure Ap(P:Program)(t u ty e:TypeId)(i:TypeInfo)(x:Value)(n:Nat)(news:List Value)(w:World):Prop where
 room:∀b off sLen sCap w',sLen+n<=sCap->(Go.storeCells ⟨b,off+sLen*i.size,none⟩ news 0).run P w=.ok () w' ->
  (Builtin.append_ #[t,u] ty #[.slice (some ⟨b,off,none⟩) sLen sCap,x]).run P w=.ok (.slice (some ⟨b,off,none⟩) (sLen+n) sCap) w'
 none:n=0->∀base sLen sCap,sLen<=sCap->(Builtin.append_ #[t,u] ty #[.slice base sLen sCap,x]).run P w=.ok (.slice base sLen sCap) w
 grow:∀base sLen sCap (olds:List Value),(Builtin.firstCells i.size sLen (.slice base sLen sCap)).run P w.drew=.ok olds.toArray w.drew->sCap<sLen+n->(sLen+n)*i.bytes<=2 ^ 47 ->
  ∃C cs,(Builtin.append_ #[t,u] ty #[.slice base sLen sCap,x]).run P w=.ok (.slice (some ⟨w.heap.size,0,Option.none⟩) (sLen+n) C) (w.drew.alloc (.cells cs e)) /\
   sLen+n<=C/\cs.size=olds.length+news.length+(C-(sLen+n))*i.size/\∀(j:Nat) (v:Value),(olds++news)[j]?=some v->cs[j]?=some v
 len:news.length=n*i.size
theorem q2i{olds news:List Value}{z:Array Value}{j:Nat}{v:Value}(h:(olds++news)[j]?=some v):((olds++news).toArray++z)[j]?=some v:=by have hlt:=(jG.1 h).1;rw[Array.getElem?_append_left (by simpa using hlt)];simpa using h
theorem ztg{n b:Nat}(hb:b≠0)(h:n*b<=2 ^ 47):n<=2 ^ 47:=by have:n*1<=n*b:=Nat.mul_le_mul_left n (by omega);omega
theorem qvc{P:Program}{t u ty e e':TypeId}{i:TypeInfo}{z:Value}(ht:P.underlying t=some (.slice e))(hu:P.underlying u=some (.slice e'))(hi:P.info? e=some i)(hz:i.zero=some z)(hzs:z.cells.size=i.size)(hb:i.bytes≠0){w:World}
  {a:Option Addr} {n cap:Nat} {news:List Value} (hl:news.length=n*i.size) (hc:news=[]\/∃b o,a=some ⟨b,o,none⟩/\∀(j:Nat) (v:Value),news[j]?=some v->w.cell? ⟨b,o+j,none⟩=some v) (h1:∀v∈news,v.oneCell'=true) (hn:n=0\/a≠none) :
  Ap P t u ty e i (.slice a n cap) n news w:=by
 have hs:Go.Src P i.size u (.slice a n cap) n news w:=by
  cases a with
  | none =>
   have:n=0:=hn.resolve_right (fun h=>h rfl);subst this;have:news=[]:=by simpa using hl
   subst this;exact Go.Src.ofNil (P:=P) w hu cap
  | some a =>
   refine Go.Src.ofSlice (P:=P) w hu a n cap news hl ?_ h1;rcases hc with rfl | ⟨b,o,hab,hcc⟩
   .intro j v h;simp at h
   .cases hab;intro j v h;rw[qcp];exact hcc j v h
 constructor
 .intro b off sLen sCap w' hr hst;rcases hs.kind with⟨e',hk⟩ | hk<;>simp[Builtin.append_,Go.run_underlying ht,Go.run_underlying hk,Go.sizeOf,Go.typeInfo,hi,hs.len,hr,hs.cells,Go.Addr.add_lit,hst]
 .intro h0 base sLen sCap hle;subst h0;have:news=[]:=by simpa using hl
  subst this;exact Go.run_append_nothing (P:=P) w t u ty e i ht hi base sLen sCap hle _ hs
 .intro base sLen sCap olds hold hg hfit;have h47:=ztg hb hfit;refine⟨_,_,Go.run_append_grow_src (P:=P) w t u ty e i z ht hi hz base sLen sCap olds hold _ n news hs hg (by omega) (Go.growslice_fits hg (by omega)),Go.grownCap_ge _ _ _ _,?_,?_⟩
  .simp only[Array.size_append,Go.size_zeroCells,hzs];simp
  .intro j v h;exact q2i h
 .exact hl
theorem zlw{P:Program}{t u ty e:TypeId}{i:TypeInfo}{z:Value}{kn kq:Go.IntKind}(ht:P.underlying t=some (.slice e))(hu:P.underlying u=some (.int kn))(hi:P.info? e=some i)(hz:i.zero=some z)(hzs:z.cells.size=i.size)(hb:i.bytes≠0)(h0:0<i.size){w:World}
  {n:Nat} (hn:n*i.bytes<=2 ^ 47):Ap P t u ty e i (.int kq n) n (Go.Builtin.zeroCells z.cells n).toList w:=by
 have h47:=ztg hb hn;have hw:Go.IntKind.i64.wrap (n:Int)=n:=by rw[Go.IntKind.wrap_i64];omega
 have hneg:¬((n:Int)<0):=by omega
 have h48i:¬(281474976710656<(n:Int)*(i.bytes:Int)):=by rw[<-Int.natCast_mul];omega
 have hw0:Go.IntKind.i64.wrap 0=0:=by rw[Go.IntKind.wrap_i64];omega
 constructor
 .intro b off sLen sCap w' hr hst;by_cases hn0:n=0
  .subst hn0;have hr':sLen<=sCap:=by omega
   have:Go.Builtin.zeroCells z.cells 0=#[]:=by simp[Go.Builtin.zeroCells]
   rw[this]at hst;simp[Builtin.append_,Go.run_underlying ht,Go.run_underlying hu,Go.sizeOf,Go.typeInfo,hi,hr',Go.asInt,Go.asIntOf,hw0,Go.Addr.add_lit];rw[hst];simp
  .have hns:¬(n*i.size=0):=Nat.mul_ne_zero hn0 (by omega);simp[Builtin.append_,Go.run_underlying ht,Go.run_underlying hu,Go.sizeOf,Go.typeInfo,Go.zeroValue,hi,hz,hr,Go.asInt,Go.asIntOf,hw,hneg,h48i,hns,Go.Addr.add_lit,hst]
 .intro h0' base sLen sCap hle;subst h0';cases base<;>simp[Builtin.append_,Go.run_underlying ht,Go.run_underlying hu,Go.sizeOf,Go.typeInfo,hi,hle,Go.asInt,Go.asIntOf,Go.storeCells,hw0]
 .intro base sLen sCap olds hold hg hfit;have h47:=ztg hb hfit;by_cases hn0:n=0
  .-- more than there is room for,though nothing is appended: the length is more than the capacity
   subst hn0;have hle:¬(sLen<=sCap):=by omega
   have h63:¬(9223372036854775807<(sLen:Int)):=by omega
   have hns:=Go.growslice_fits (need:=sLen) (old:=sCap) (bytes:=i.bytes) (by omega) (by simpa using hfit);have h48':¬(281474976710656<Go.Builtin.nextslicecap sLen sCap*i.bytes):=by omega
   refine⟨Go.grownCap w (sLen+0) sCap e,(olds++(Go.Builtin.zeroCells z.cells 0).toList).toArray++Go.Builtin.zeroCells z.cells (Go.grownCap w (sLen+0) sCap e-(sLen+0)),?_,Go.grownCap_ge _ _ _ _,?_,fun j v h=>q2i h⟩
   .simp[Builtin.append_,Go.run_underlying ht,Go.run_underlying hu,Go.sizeOf,Go.typeInfo,Go.zeroValue,hi,hz,Go.asInt,Go.asIntOf,hw0,hle,h63,h48',Go.Question.forced,hold,Go.newRow,Go.grownCap,Go.Builtin.zeroCells]
   .simp only[Array.size_append,Go.size_zeroCells,hzs];simp
  .refine⟨_,_,Go.Lib.run_append_grow_zeros (P:=P) w t u ty e i z kq kn ht hu hi hz base sLen sCap olds hold n (by omega) h0 hg (by omega) (by omega) (Go.growslice_fits hg (by omega)),Go.grownCap_ge _ _ _ _,?_,?_⟩
   .simp only[Array.size_append,Go.size_zeroCells,hzs];simp[Go.size_zeroCells,hzs]
   .intro j v h;have:=q2i (z:=Go.Builtin.zeroCells z.cells (Go.grownCap w (sLen+n) sCap e-(sLen+n))) h;rw[show olds.toArray++Go.Builtin.zeroCells z.cells n=(olds++(Go.Builtin.zeroCells z.cells n).toList).toArray by apply Array.ext';simp];exact this
 .simp[Go.size_zeroCells,hzs]
theorem qja{E:Env}{n b:Nat}:∀{rs:List (List V)} {o:Nat},qak E n rs b o->∃us:List Value,us.length=rs.length*n/\(∀(j:Nat) u,us[j]?=some u->E.w.cell? ⟨b,o+j,none⟩=some u)/\qaj E rs.flatten us
 | [],o,_=>⟨[],by simp,fun j u h=>by simp at h,by simp[qaj]⟩
 | r :: rs,o,h=>by
  unfold qak at h;obtain⟨us,h1,h2,h3⟩:=qiw h.2.1;obtain⟨ws,k1,k2,k3⟩:=qja h.2.2;refine⟨us++ws,by simp only[jF,List.length_cons,h1,h.1,k1,Nat.succ_mul];omega,fun j u hj=>?_,by rw[List.flatten_cons];exact qck h3 k3⟩;by_cases hlt:j<us.length
  .rw[jI hlt]at hj;exact h2 j u hj
  .rw[jJ (by omega)]at hj;have:=k2 _ u hj;rw[show o+n+(j-us.length)=o+j by rw[h1,h.1]at hlt ⊢;omega]at this;exact this
theorem qgg{cs:Array Value}{l:List Value}(h:∀(j:Nat) v,l[j]?=some v->cs[j]?=some v):cs.toList.take l.length=l:=by
 apply List.ext_getElem?;intro j;by_cases hj:j<l.length
 .rw[List.getElem?_take_of_lt hj];have:=h j _ (jA hj);rw[jA hj,Array.getElem?_toList];exact this
 .rw[jY (by simp;omega),jY (by omega)]
theorem q1t{P:Program}{E:Env}(hE:Ok P E){id g m n:Nat}{els els':List (List V)}(ho:E.h[id]?=some ⟨g,.arr m els⟩){w':World}(hsz:E.w.heap.size<=w'.heap.size)
  (hw:∀k,k<E.w.heap.size->(∀C,E.b id≠some (k,C))->w'.heap[k]?=E.w.heap[k]?) (hos:w'.os=E.w.os) (hout:w'.output=E.w.output) {b:Nat} {C:Nat×Nat} {cs:Array Value} {ty:TypeId}
  (hb:(∃C',E.b id=some (b,C'))\/(E.w.heap.size<=b/\b<w'.heap.size)) (hnew:w'.heap[b]?=some (.cells cs ty (0,0))) (h0:0<n) (hn:∀q∈els',q.length=n) (hp:qce els'=true) (hcs:cs.size=(C.2+C.1)*n) (hle:els'.length<=C.1)
  (hr:qaj E els'.flatten ((cs.toList.drop (C.2*n)).take (els'.length*n))) {l:Nat} (hl:l<=els'.length) :
  ∃E',Ok P E'/\Ext E E'/\E'.h=E.h.set id ⟨g+1,.arr n els'⟩/\E'.w=w'/\rel E' (.sl id (g+1) n 0 l) (.slice (some ⟨b,C.2*n,none⟩) l C.1):=by
 have hnS:¬E.S b:=by
  rcases hb with⟨C',hb⟩ | hb
  .exact hE.notS ho rfl hb
  .intro h;have:=hE.S b h;omega
 obtain⟨k1,k2⟩:=qkz hE ho rfl (o':=⟨g+1,.arr n els'⟩) (fun _ h=>by cases h) (w':=w') hsz hw hos hout (some (b,C)) (fun k D hk=>by cases hk;exact hb) (by simp) rfl (fun h=>by rcases h with h | h<;>simp[qje]at h) (fun y=>by
  unfold qem;refine⟨hp,.inr ⟨b,C,cs,ty,by simp,hnS,hnew,h0,hcs,hle,?_⟩⟩;refine qgb (cs:=cs.toList.drop (C.2*n)) hn (fun j u hj _=>?_) (qba hE y _ _ hr);show w'.cell? ⟨b,C.2*n+j,none⟩=some u;rw[qdv hnew];simpa using hj)
 refine⟨_,k1,k2,rfl,rfl,?_⟩;have hlt:=qbe ho;unfold rel;refine⟨by simpa using hlt,by simp[qgt,hlt],_,_,rfl,by omega,(fun h=>by cases h),(fun y hy _=>by cases hy;rfl),fun o ho' _ _=>?_⟩;simp only[jN hlt,jC]at ho';subst ho';exact⟨by simpa[qmi]using hl,by simp[qco],.inr ⟨b,C,C.2*n,by simp,rfl,by simp,fun _=>by simp⟩⟩
theorem q4i{P:Program}{E:Env}(hE:Ok P E){id g m n:Nat}{els els':List (List V)}(ho:E.h[id]?=some ⟨g,.arr m els⟩){w':World}(hsz:E.w.heap.size<=w'.heap.size)
  (hw:∀k,k<E.w.heap.size->(∀C,E.b id≠some (k,C))->w'.heap[k]?=E.w.heap[k]?) (hos:w'.os=E.w.os) (hout:w'.output=E.w.output) {b C:Nat} {cs:Array Value} {ty:TypeId}
  (hb:(∃C',E.b id=some (b,C'))\/(E.w.heap.size<=b/\b<w'.heap.size)) (hnew:w'.heap[b]?=some (.cells cs ty (0,0))) (h0:0<n) (hn:∀q∈els',q.length=n) (hp:qce els'=true) (hcs:cs.size=C*n) (hle:els'.length<=C)
  (hr:qaj E els'.flatten (cs.toList.take (els'.length*n))) {l:Nat} (hl:l<=els'.length) :
  ∃E',Ok P E'/\Ext E E'/\E'.h=E.h.set id ⟨g+1,.arr n els'⟩/\E'.w=w'/\rel E' (.sl id (g+1) n 0 l) (.slice (some ⟨b,0,none⟩) l C):=by
 have h:=q1t hE ho hsz hw hos hout hb hnew h0 hn hp (C:=(C,0)) (by simpa using hcs) hle (by simpa using hr) hl;simpa using h
theorem qnd{els:List (List V)}{p:Nat}{ys:List (List V)}(hp:p<=els.length):(qdd els p ys).length=max (p+ys.length) els.length:=by simp[qdd];omega
theorem q0k{els:List (List V)}{p:Nat}{ys:List (List V)}(h:qce els=true)(k:qce ys=true):qce (qdd els p ys)=true :=
 qjv (qii h) (qjv k (qow h))
theorem qdo{P:Program}(w:World)(size:Nat)(a:Option Addr)(cap:Nat):(Builtin.firstCells size 0 (.slice a 0 cap)).run P w=.ok ([]:List Value).toArray w:=by
 cases a with
 | none=>exact Go.run_firstCells_none w size 0 0 cap
 | some a=>exact Go.run_firstCells_some w size 0 a 0 cap [] (by simp) (fun j v h=>by simp at h)
theorem qlb{n:Nat}{els:List (List V)}(h:qns n els=true):∀q∈els,q.length=n:=by intro q hq;simp only[qns,jP]at h;simpa using h q hq
theorem qut{cs:Array Value}{l:List Value}{D:Nat}(h:∀(j:Nat) v,l[j]?=some v->cs[D+j]?=some v):(cs.toList.drop D).take l.length=l:=by
 apply List.ext_getElem?;intro j;by_cases hj:j<l.length
 .rw[List.getElem?_take_of_lt hj,List.getElem?_drop];have:=h j _ (jA hj);rw[jA hj,Array.getElem?_toList];exact this
 .rw[jY (by simp;omega),jY (by omega)]
theorem q1r{P:Program}{E:Env}{t u ty e:TypeId}{i:TypeInfo}{yv:Value}{news:List Value}{ys:List (List V)}(hA:Ap P t u ty e i yv ys.length news E.w)(hnews:qaj E ys.flatten news)(hone:∀v∈news,v.oneCell'=true)(hn:∀q∈ys,q.length=i.size)
  {id off len xx b:Nat} {C:Nat×Nat} {els:List (List V)} {cs0:Array Value} {ty0:TypeId} (hb0:E.b id=some (b,C)) (q3:E.w.heap[b]?=some (.cells cs0 ty0 (0,0))) (q5:cs0.size=(C.2+C.1)*i.size) (q6:els.length<=C.1) (q7:qak E i.size els b (C.2*i.size))
  (hle:off+len<=els.length) (hxx:C.1-off≠0\/off=0->xx=(C.2+off)*i.size) (hy:ys≠[]\/off=0) (hfit:(len+ys.length)*i.bytes<=2 ^ 47) :
  ∃(w':World) (b':Nat) (C':Nat×Nat) (cs:Array Value) (ty':TypeId),(Builtin.append_ #[t,u] ty #[.slice (some ⟨b,xx,none⟩) len (C.1-off),yv]).run P E.w=.ok (.slice (some ⟨b',C'.2*i.size,none⟩) (len+ys.length) C'.1) w' /\
   E.w.heap.size<=w'.heap.size/\(∀k,k<E.w.heap.size->(∀D,E.b id≠some (k,D))->w'.heap[k]?=E.w.heap[k]?)/\w'.os=E.w.os/\w'.output=E.w.output/\((∃D,E.b id=some (b',D))\/(E.w.heap.size<=b'/\b'<w'.heap.size)) /\
   w'.heap[b']?=some (.cells cs ty' (0,0))/\(∀q∈qdd (els.drop off) len ys,q.length=i.size)/\cs.size=(C'.2+C'.1)*i.size/\(qdd (els.drop off) len ys).length<=C'.1 /\
   qaj E (qdd (els.drop off) len ys).flatten ((cs.toList.drop (C'.2*i.size)).take ((qdd (els.drop off) len ys).length*i.size)):=by
 have hlen:=hA.len;have hrows:=qfg off q7;rw[<-Nat.add_mul]at hrows;generalize hels:els.drop off=zs at hrows ⊢;have hzl:zs.length=els.length-off:=by rw[<-hels];simp
 have hlz:len<=zs.length:=by omega
 have hlen':(qdd zs len ys).length=max (len+ys.length) zs.length:=by simp[qdd];omega
 have hn':∀q∈qdd zs len ys,q.length=i.size:=by
  intro q hq;have old:q∈zs->q.length=i.size:=fun hq=>by obtain⟨j,hj⟩:=List.mem_iff_getElem?.1 hq;exact(qcl hrows hj).1
  rcases jQ.1 hq with hq | hq
  .exact old (List.mem_of_mem_take hq)
  .rcases jQ.1 hq with hq | hq
   .exact hn q hq
   .exact old (List.mem_of_mem_drop hq)
 obtain⟨us,u1,u2,u3⟩:=qja (qen len hrows);have hul:us.length=len*i.size:=by rw[u1,List.length_take,Nat.min_eq_left hlz]
 generalize hcap:C.1-off=cap at *;have hbs:=qec q3;by_cases hroom:len+ys.length<=cap
 .have hx:xx=(C.2+off)*i.size:=hxx (by
   rcases hy with hy | hy
   .have:=kA.2 hy;exact .inl (by omega)
   .exact .inr hy)
  have hoC:off<=C.1:=by omega
  have hmul:(len+ys.length)*i.size<=cap*i.size:=jV _ hroom;rw[Nat.add_mul]at hmul;have hsz:cs0.size=xx+cap*i.size:=by rw[q5,hx,<-Nat.add_mul];congr 1;omega
  obtain⟨vs,v1,v2,v3⟩:=qja (qfg (len+ys.length) hrows);have hflat:qaj E (qdd zs len ys).flatten (us++(news++vs)):=by unfold qdd;rw[jZ,jZ];exact qck u3 (qck hnews v3)
  have hll:(us++(news++vs)).length=(qdd zs len ys).length*i.size:=by rw[jF,jF,hul,hlen,v1];simp only[qdd,jF,List.length_take,Nat.min_eq_left hlz,Nat.add_mul]
  obtain⟨w',cs',g1,g2,g3,g4,g5,g6,g7,g8⟩:=qhm (P:=P) (b:=b) (off:=xx+len*i.size) (ty:=ty0) news 0 E.w cs0 q3 (by omega) hone;have htk:=qut (cs:=cs') (l:=us++(news++vs)) (D:=xx) (fun j v h=>by
   rw[g8 (xx+j)];by_cases hj:j<us.length
   .rw[jI hj]at h;rw[if_neg (by omega),<-qdv q3];have:=u2 j v h;rw[<-hx]at this;exact this
   .rw[jJ (by omega)]at h;by_cases hj2:j-us.length<news.length
    .rw[jI hj2]at h;rw[if_pos (by omega)];rw[show xx+j-(xx+len*i.size+0)=j-us.length by omega];exact h
    .rw[jJ (by omega)]at h;rw[if_neg (by omega),<-qdv q3];have:=v2 _ v h;rw[<-hx,show xx+(len+ys.length)*i.size+(j-us.length-news.length)=xx+j by rw[Nat.add_mul];omega]at this;exact this)
  refine⟨w',b,(cap,C.2+off),cs',ty0,?_,by omega,fun k hk hne=>g5 k (fun h=>hne C (by rw[h];exact hb0)),g6,g7,.inl ⟨C,hb0⟩,g3,hn',?_,by rw[hlen'];show _<=cap;omega,?_⟩
  .rw[<-hx];exact hA.room b xx len cap w' hroom g1
  .rw[g4,hsz,hx,<-Nat.add_mul]
  .show qaj E _ ((cs'.toList.drop ((C.2+off)*i.size)).take _);rw[<-hll,<-hx,htk];exact hflat
 .have hov:qdd zs len ys=zs.take len++ys:=by
   unfold qdd;rw[jX (by omega),List.append_nil]
  have hflat:qaj E (qdd zs len ys).flatten (us++news):=by rw[hov,jZ];exact qck u3 hnews
  have hl2:(qdd zs len ys).length=len+ys.length:=by rw[hlen'];omega
  have hll:(us++news).length=(qdd zs len ys).length*i.size:=by rw[jF,hul,hlen,hl2,Nat.add_mul]
  have holds:(Builtin.firstCells i.size len (.slice (some ⟨b,xx,none⟩) len cap)).run P E.w.drew=.ok us.toArray E.w.drew:=by
   by_cases hl0:len=0
   .subst hl0;have:us=[]:=by simpa using hul
    subst this;exact qdo _ _ _ _
   .have hx:=hxx (.inl (by omega));exact Go.run_firstCells_some E.w.drew i.size len ⟨b,xx,none⟩ len cap us hul (fun j v h=>by
     rw[qcp];have:=u2 j v h;rw[<-hx]at this;exact this)
  obtain⟨C',cs,g1,g2,g3,g4⟩:=hA.grow (some ⟨b,xx,none⟩) len cap us holds (by omega) hfit;have htk:=qgg (cs:=cs) (l:=us++news) g4;have hnew:(E.w.drew.alloc (.cells cs e)).heap[E.w.heap.size]?=some (.cells cs e (0,0)):=Go.heap_alloc_new E.w.drew _;have hgr:=(Grow.drew E.w).trans (Grow.alloc E.w.drew (.cells cs e));refine⟨_,E.w.heap.size,(C',0),cs,e,by rw[show((C',0):Nat×Nat).2*i.size=0 from Nat.zero_mul _];exact g1,hgr.size,fun k hk _=>hgr.keep k hk,hgr.os,hgr.output,.inr ⟨jD _,by simp⟩,hnew,hn',?_,by rw[hl2];exact g2,?_⟩
  .rw[g3,hul,hlen,<-Nat.add_mul,<-Nat.add_mul];congr 1;show _=0+C';omega
  .rw[show((C',0):Nat×Nat).2*i.size=0 from Nat.zero_mul _,List.drop_zero,<-hll,htk];exact hflat
theorem qvd{P:Program}{E:Env}(hE:Ok P E){t u ty e:TypeId}{i:TypeInfo}{yv:Value}{news:List Value}{ys:List (List V)}(hA:Ap P t u ty e i yv ys.length news E.w)(h0:0<i.size)(hnews:qaj E ys.flatten news)(hone:∀v∈news,v.oneCell'=true)
  {x:V} {xv:Value} (hx:rel E x xv) {v:V} {h':H} (hv:zet E.h i.size i.bytes x ys=some (v,h')) :
  ∃E' val,Ok P E'/\Ext E E'/\E'.h=h'/\(Builtin.append_ #[t,u] ty #[xv,yv]).run P E.w=.ok val E'.w/\rel E' v val:=by
 unfold zet at hv;split at hv
 .rename_i hc;obtain⟨hsz,hpu⟩:=hc;have hn:=qlb hsz;have hlen:=hA.len;cases x<;>simp only at hv<;>try (cases hv;done)
  case nils =>
   unfold rel at hx;obtain⟨a,rfl⟩:=hx;split at hv
   .rename_i hfit;cases hv;by_cases hy:ys=[]
    .subst hy;obtain⟨k1,k2⟩:=qhe hE (Grow.refl E.w) ⟨0,.arr i.size []⟩ none (fun b C h=>by cases h) (fun _=>by
      unfold qem;exact⟨rfl,.inl ⟨by simp,rfl⟩⟩)
     refine⟨_,_,k1,k2,by simp,hA.none rfl a 0 0 (jD _),?_⟩;unfold rel;refine⟨by simp,by simp,a,0,rfl,jD _,fun _=>rfl,fun _ _ h=>absurd rfl h,fun o ho _ _=>?_⟩;simp at ho;subst ho;exact⟨by simp[qmi],by simp[qco],.inl ⟨by simp,rfl⟩⟩
    .have hpos:0<ys.length:=kA.2 hy;obtain⟨C,cs,g1,g2,g3,g4⟩:=hA.grow a 0 0 [] (qdo _ _ _ _) (by omega) (by simpa using hfit);have htk:=qgg (cs:=cs) (l:=news) (fun j v h=>g4 j v (by simpa using h));have hnew:(E.w.drew.alloc (.cells cs e)).heap[E.w.heap.size]?=some (.cells cs e (0,0)):=Go.heap_alloc_new E.w.drew _;obtain⟨E',k1,k2,k3,k4,k5⟩:=q7l hE (n:=i.size) (C:=C) (els:=ys) ((Grow.drew E.w).trans (Grow.alloc E.w.drew (.cells cs e))) hnew hn h0 hpu (by
      simp only[List.length_nil,hlen]at g3;rw[g3,show C=ys.length+(C-(0+ys.length))by omega,Nat.add_mul];simp) (by omega) (by rw[<-hlen,htk];exact hnews)
     exact⟨E',_,k1,k2,k3,by rw[k4];exact g1,by simpa using k5⟩
   .cases hv
  case nilx =>
   unfold rel at hx;obtain⟨a,rfl⟩:∃a,xv=.slice a 0 0:=⟨none,hx⟩
   split at hv
   .rename_i hfit;cases hv;by_cases hy:ys=[]
    .subst hy;obtain⟨k1,k2⟩:=qhe hE (Grow.refl E.w) ⟨0,.arr i.size []⟩ none (fun b C h=>by cases h) (fun _=>by
      unfold qem;exact⟨rfl,.inl ⟨by simp,rfl⟩⟩)
     refine⟨_,_,k1,k2,by simp,hA.none rfl a 0 0 (jD _),?_⟩;unfold rel;refine⟨by simp,by simp,a,0,rfl,jD _,fun _=>rfl,fun _ _ h=>absurd rfl h,fun o ho _ _=>?_⟩;simp at ho;subst ho;exact⟨by simp[qmi],by simp[qco],.inl ⟨by simp,rfl⟩⟩
    .have hpos:0<ys.length:=kA.2 hy;obtain⟨C,cs,g1,g2,g3,g4⟩:=hA.grow a 0 0 [] (qdo _ _ _ _) (by omega) (by simpa using hfit);have htk:=qgg (cs:=cs) (l:=news) (fun j v h=>g4 j v (by simpa using h));have hnew:(E.w.drew.alloc (.cells cs e)).heap[E.w.heap.size]?=some (.cells cs e (0,0)):=Go.heap_alloc_new E.w.drew _;obtain⟨E',k1,k2,k3,k4,k5⟩:=q7l hE (n:=i.size) (C:=C) (els:=ys) ((Grow.drew E.w).trans (Grow.alloc E.w.drew (.cells cs e))) hnew hn h0 hpu (by
      simp only[List.length_nil,hlen]at g3;rw[g3,show C=ys.length+(C-(0+ys.length))by omega,Nat.add_mul];simp) (by omega) (by rw[<-hlen,htk];exact hnews)
     exact⟨E',_,k1,k2,k3,by rw[k4];exact g1,by simpa using k5⟩
   .cases hv
  case immc els =>
   split at hv
   .rename_i hy;cases hv;subst hy;have hx':=hx;unfold rel at hx;obtain⟨a,rfl,hpe,h3⟩:=hx;exact⟨E,_,hE,Ext.refl E,rfl,hA.none rfl a els.length els.length (jD _),qrf hx'⟩
   rename_i hy;split at hv
   .rename_i hc;obtain⟨hse,hfit⟩:=hc;cases hv;have hpos:0<ys.length:=kA.2 hy;have hne:=qlb hse;unfold rel at hx;obtain⟨a,rfl,hpe,h3⟩:=hx;obtain⟨us,hul,u3,holds⟩:∃us:List Value,us.length=els.length*i.size/\qaj E els.flatten us/\(Builtin.firstCells i.size els.length (.slice a els.length els.length)).run P E.w.drew=.ok us.toArray E.w.drew:=by
     rcases h3 with rfl | ⟨b,o,n,rfl,_,_,h4⟩
     .exact⟨[],by simp,by simp[qaj],qdo _ _ _ _⟩
     .obtain⟨us,u1,u2,u3⟩:=qja h4;have hul:us.length=els.length*i.size:=by
       have:=qau u3;rw[qas hne]at this;exact this.symm
      exact⟨us,hul,u3,Go.run_firstCells_some E.w.drew i.size els.length ⟨b,o,none⟩ els.length els.length us hul (fun j v h=>by
       rw[qcp];exact u2 j v h)⟩
    obtain⟨C,cs,g1,g2,g3,g4⟩:=hA.grow a els.length els.length us holds (by omega) hfit;have htk:=qgg (cs:=cs) (l:=us++news) g4;have hnew:(E.w.drew.alloc (.cells cs e)).heap[E.w.heap.size]?=some (.cells cs e (0,0)):=Go.heap_alloc_new E.w.drew _;have hll:(us++news).length=(els++ys).length*i.size:=by rw[jF,hul,hlen,jF,Nat.add_mul]
    obtain⟨E',k1,k2,k3,k4,k5⟩:=q7l hE (n:=i.size) (C:=C) (els:=els++ys) ((Grow.drew E.w).trans (Grow.alloc E.w.drew (.cells cs e))) hnew (fun q hq=>(jQ.1 hq).elim (hne q) (hn q)) h0 (by
      simp only[qce,List.all_append,jE]at hpe hpu ⊢;exact⟨hpe,hpu⟩) (by
     rw[g3,hul,hlen,<-Nat.add_mul,<-Nat.add_mul];congr 1;omega) (by rw[jF];omega) (by
     rw[<-hll,htk,jZ];exact qck u3 hnews)
    exact⟨E',_,k1,k2,k3,by rw[k4];exact g1,by simpa using k5⟩
   .cases hv
  case sl id g m0 off len =>
   cases hob:E.h[id]? with
   | none=>rw[hob]at hv;cases hv
   | some ob =>
    rw[hob]at hv;obtain⟨gg,kk⟩:=ob;cases kk<;>simp only at hv<;>try (cases hv;done)
    case arr m els =>
     split at hv
     .rename_i hc;obtain⟨hgg,hoff,hle,hm,hfit⟩:=hc;subst hgg hoff;have hels:(if len=els.length then els++ys else qdd els len ys)=qdd els len ys:=by
       split
       .rename_i h;rw[h];simp[qdd]
       .rfl
      rw[hels]at hv;cases hv;have hlt:=qbe hob;unfold rel at hx;obtain⟨_,_,a,cap,rfl,hc1,hc2,hc3,h3⟩:=hx;obtain⟨_,hstr,hb⟩:=h3 _ hob rfl rfl;have hro:=hE.obj id _ hob;unfold qem at hro;obtain⟨hpe,hro⟩:=hro;have hpe':qce (qdd els len ys)=true:=q0k hpe hpu;have hlen':(qdd els len ys).length=max (len+ys.length) els.length:=qnd hle;rcases hb with⟨hb0,hcap⟩ | ⟨b,C,xx,hb0,ha,hcap,hxx⟩
      .-- no block yet
       have he:els=[]:=by
        rcases hro with h | ⟨b,C,cs,ty,h,_⟩
        .exact h.2
        .rw[hb0]at h;cases h
       subst he;have hl0:len=0:=by simpa using hle
       subst hl0;simp only[qdd,List.take_nil,List.nil_append,List.drop_nil,List.append_nil];by_cases hy:ys=[]
       .subst hy;have hs':∀q:Nat,∃E',Ok P E'/\Ext E E'/\E'.h=E.h.set id ⟨gg+1,.arr q []⟩/\E'.w=E.w/\rel E' (.sl id (gg+1) q 0 0) (.slice a 0 cap):=by
         intro q;obtain⟨k1,k2⟩:=qkz hE hob rfl (o':=⟨gg+1,.arr q []⟩) (fun _ h=>by cases h) (w':=E.w) (jD _) (fun _ _ _=>rfl) rfl rfl none (fun b C h=>by cases h) (by simp) rfl (fun h=>by rcases h with h | h<;>simp[qje]at h) (fun _=>by
          unfold qem;exact⟨rfl,.inl ⟨by simp,rfl⟩⟩)
         refine⟨_,k1,k2,rfl,rfl,?_⟩;unfold rel;refine⟨by simpa using hlt,by simp[qgt,hlt],a,cap,rfl,by omega,hc2,hc3,fun o ho' _ _=>?_⟩;simp only[jN hlt,jC]at ho';subst ho';exact⟨by simp[qmi],by simp[qco],.inl ⟨by simp,hcap⟩⟩
        obtain⟨E',k1,k2,k3,k4,k5⟩:=hs' i.size;exact⟨E',_,k1,k2,k3,by rw[k4];exact hA.none rfl a 0 cap (by omega),k5⟩
       .have hpos:0<ys.length:=kA.2 hy;obtain⟨C,cs,g1,g2,g3,g4⟩:=hA.grow a 0 cap [] (qdo _ _ _ _) (by omega) (by simpa using hfit);have htk:=qgg (cs:=cs) (l:=news) (fun j v h=>g4 j v (by simpa using h));have hnew:(E.w.drew.alloc (.cells cs e)).heap[E.w.heap.size]?=some (.cells cs e (0,0)):=Go.heap_alloc_new E.w.drew _;have hgr:=(Grow.drew E.w).trans (Grow.alloc E.w.drew (.cells cs e));obtain⟨E',k1,k2,k3,k4,k5⟩:=q4i hE hob (n:=i.size) (C:=C) (els':=ys) hgr.size (fun k hk _=>hgr.keep k hk) hgr.os hgr.output (.inr ⟨jD _,by simp⟩) hnew h0 hn hpu (by
         simp only[List.length_nil,hlen]at g3;rw[g3,show C=ys.length+(C-(0+ys.length))by omega,Nat.add_mul];simp) (by omega) (by rw[<-hlen,htk];exact hnews) (jD _)
        exact⟨E',_,k1,k2,k3,by rw[k4];exact g1,by simpa using k5⟩
      .rcases hro with h | ⟨b',C',cs0,ty0,q1,q2,q3,q4,q5,q6,q7⟩
       .rw[hb0]at h;cases h.1
       .rw[hb0]at q1;cases q1;have hmn:m=i.size:=by omega
        subst hmn;have hst:m0=i.size:=hstr;subst hst;subst ha;obtain⟨w',b',C',cs',ty',a1,a2,a3,a4,a5,a6,a7,a8,a9,a10,a11⟩:=q1r hA hnews hone hn (off:=0) (len:=len) (xx:=xx) hb0 q3 q5 q6 q7 (by omega) (fun h=>hxx (by omega)) (.inr rfl) hfit;rw[List.drop_zero]at a8 a10 a11;have hcap':C.1-0=cap:=by omega
        rw[hcap']at a1;obtain⟨E',k1,k2,k3,k4,k5⟩:=q1t hE hob (n:=i.size) (els':=qdd els len ys) a2 a3 a4 a5 a6 a7 h0 a8 hpe' a9 a10 a11 (l:=len+ys.length) (by omega);exact⟨E',_,k1,k2,k3,by rw[k4];exact a1,k5⟩
     .split at hv
      .rename_i hno hc;obtain⟨hgg,hoff,hm,hy,hfit⟩:=hc;subst hgg hm;cases hv;have hpos:=kA.2 hy;unfold rel at hx;obtain⟨_,_,a,cap,rfl,hc1,hc2,hc3,h3⟩:=hx;obtain⟨_,hstr,hb⟩:=h3 _ hob rfl rfl;have hro:=hE.obj id _ hob;unfold qem at hro;obtain⟨hpe,hro⟩:=hro;rcases hb with⟨hb0,hcap⟩ | ⟨b,C,xx,hb0,ha,hcap,hxx⟩
       .exfalso;have he:els=[]:=by
         rcases hro with h | ⟨b,C,cs,ty,h,_⟩
         .exact h.2
         .rw[hb0]at h;cases h
        subst he;have h0:off+len=0:=hoff;exact hno ⟨rfl,by omega,by show len<=0;omega,.inl rfl,hfit⟩
       .rcases hro with h | ⟨b',C',cs0,ty0,q1,q2,q3,q4,q5,q6,q7⟩
        .rw[hb0]at h;cases h.1
        .rw[hb0]at q1;cases q1;have hst:m0=i.size:=hstr;subst hst;subst ha;obtain⟨w',b',C',cs',ty',a1,a2,a3,a4,a5,a6,a7,a8,a9,a10,a11⟩:=q1r hA hnews hone hn (off:=off) (len:=len) (xx:=xx) hb0 q3 q5 q6 q7 (by omega) (fun h=>hxx (by omega)) (.inl hy) hfit;rw[<-hcap]at a1;have hov:qdd (els.drop off) len ys=els.drop off++ys:=by
          unfold qdd;have hl:(els.drop off).length=len:=by rw[List.length_drop];omega
          rw[show(els.drop off).take len=els.drop off from kB (by omega),show(els.drop off).drop (len+ys.length)=[]from jX (by omega),List.append_nil]
         rw[hov]at a8 a10 a11;obtain⟨E',k1,k2,k3,k4,k5⟩:=q1t hE hob (n:=i.size) (els':=els.drop off++ys) a2 a3 a4 a5 a6 a7 h0 a8 (qjv (qow hpe) hpu) a9 a10 a11 (l:=len+ys.length) (by simp;omega);exact⟨E',_,k1,k2,k3,by rw[k4];exact a1,k5⟩
      .cases hv
 .cases hv
theorem zed{els:List (List V)}(h:qce els=true):els.flatten.all V.pcell=true:=by simp only[qce,jP]at h;simp only[jP,List.mem_flatten];rintro v ⟨r,hr,hv⟩;exact h r hr v hv
theorem q8o{v:V}(h:v.pcell=true):v.cell1=true:=by cases v<;>first | rfl | (simp[V.pcell]at h)
theorem qrz{E:Env}{els:List (List V)}{us:List Value}(h:qce els=true)(hr:qaj E els.flatten us):∀u∈us,u.oneCell'=true :=
 qvo hr (by
  have:=zed h;simp only[jP]at this ⊢;exact fun v hv=>q8o (this v hv))
theorem q3h{P:Program}{E:Env}(hE:Ok P E){y:V}{u:Value}(h:rel E y u){n:Nat}{ys:List (List V)}(hr:qpm E.h y=some ys)(hs:qns n ys=true) :
  ∃a cap news,u=.slice a ys.length cap/\(ys.length=0\/a≠none)/\news.length=ys.length*n/\qaj E ys.flatten news/\(news=[]\/∃b o,a=some ⟨b,o,none⟩/\∀(j:Nat) x,news[j]?=some x->E.w.cell? ⟨b,o+j,none⟩=some x):=by
 have hn:=qlb hs;unfold qpm at hr;have fin:∀(b o m:Nat),qak E m ys b o->ys≠[]->∃news:List Value,news.length=ys.length*n/\qaj E ys.flatten news/\∀(j:Nat) x,news[j]?=some x->E.w.cell? ⟨b,o+j,none⟩=some x:=by intro b o m hrr hne;obtain⟨us,h1,h2,h3⟩:=qja hrr;refine⟨us,?_,h3,h2⟩;have:=qau h3;rw[qas hn]at this;exact this.symm
 cases y<;>simp only[qan]at hr<;>try (cases hr;done)
 case nils =>cases hr;unfold rel at h;obtain⟨a,rfl⟩:=h;exact⟨a,0,[],rfl,.inl rfl,by simp,by simp[qaj],.inl rfl⟩
 case nilx =>cases hr;unfold rel at h;subst h;exact⟨none,0,[],rfl,.inl rfl,by simp,by simp[qaj],.inl rfl⟩
 case' immc=>replace h:=qrf h
 case immc els | imm els =>
  have hels:els=ys:=by simpa using hr
  subst hels;unfold rel at h;obtain⟨a,cap,rfl,_,_,h3⟩:=h;rcases h3 with rfl | ⟨b,o,m,rfl,_,_,h4⟩
  .exact⟨a,cap,[],rfl,.inl rfl,by simp,by simp[qaj],.inl rfl⟩
  .by_cases hne:els=[]
   .subst hne;exact⟨_,cap,[],rfl,.inl rfl,by simp,by simp[qaj],.inl rfl⟩
   .obtain⟨news,f1,f2,f3⟩:=fin b o m h4 hne;exact⟨_,cap,news,rfl,.inr (by simp),f1,f2,.inr ⟨b,o,rfl,f3⟩⟩
 case sl id g m off len =>
  cases hrw:qhh E.h id g with
  | none=>rw[hrw]at hr;cases hr
  | some els =>
   rw[hrw]at hr;simp only at hr;cases hwn:qmc els off len with
   | none=>rw[hwn]at hr;cases hr
   | some l =>
    rw[hwn]at hr;cases hr;obtain⟨o,k,ho,hg,hk⟩:=qtn hrw;obtain⟨hle,rfl⟩:=qnz hwn;unfold rel at h;obtain⟨_,_,a,cap,rfl,hc1,hc2,hc3,h3⟩:=h;have ht:qje o.k=1:=by rcases hk with e | e<;>rw[e]<;>rfl
    obtain⟨_,hms,h5⟩:=h3 o ho hg ht;have hlen:((els.drop off).take len).length=len:=by simp;omega
    by_cases hne:(els.drop off).take len=[]
    .have hl0:len=0:=by rw[hne]at hlen;simpa using hlen.symm
     subst hl0;refine⟨a,cap,[],?_,.inl (by simp),by simp,by simp[qaj],.inl rfl⟩;simp
    .have hl0:len≠0:=fun h=>hne (by rw[h];simp);have hro:=hE.obj id o ho;have hobj:∃b C,E.b id=some (b,C)/\qak E k els b (C.2*k):=by
      unfold qem at hro;rcases hk with e | e<;>rw[e]at hro<;>rcases hro.2 with h | ⟨b,C,cs,ty,q1,q2,q3,q4,q5,q6,q7⟩
      .exact absurd h.2 (fun h=>by subst h;simp at hle;omega)
      .exact⟨b,C,q1,q7⟩
      .exact absurd h.2 (fun h=>by subst h;simp at hle;omega)
      .exact⟨b,C,q1,q7⟩
     obtain⟨b,C,q1,q2⟩:=hobj;rcases h5 with⟨h,_⟩ | ⟨b',C',x,e1,e2,e3,e4⟩
     .rw[q1]at h;cases h
     .rw[q1]at e1;cases e1;have hx:=e4 (.inl (by omega));have hst:qco o.k=k:=by rcases hk with e | e<;>rw[e]<;>rfl
      have hrr:=qen len (qfg off q2);rw[<-Nat.add_mul]at hrr;obtain⟨news,f1,f2,f3⟩:=fin b _ k hrr hne;refine⟨a,cap,news,by rw[hlen],.inr (by rw[e2];simp),f1,f2,.inr ⟨b,x,e2,?_⟩⟩;intro j u hj;have:=f3 j u hj;rw[hx,hms,hst];simpa using this
theorem q4y{P:Program}{E E1:Env}(hE:Ok P E)(b2:Ext E E1)(b4:E1.w=E.w):∀{cs:List V} {b o:Nat},(∀c∈cs,inS E E1.S c)->qbb E cs b o->qbb E1 (cs.map (qan E.h)) b o
 | [],_,_,_,_=>by simp[qbb]
 | c :: cs,b,o,hi,h=>by unfold qbb at h;obtain⟨⟨u,h1,h2⟩,h3⟩:=h;simp only[List.map_cons];unfold qbb;exact⟨⟨u,by rw[b4];exact h1,qth hE b2 b4 h2 (hi c (by simp))⟩,q4y hE b2 b4 (fun c hc=>hi c (by simp[hc])) h3⟩
theorem q6s{P:Program}{E:Env}(hE:Ok P E){y:V}{u:Value}(h:rel E y u){n:Nat}{ys:List (List V)}(hr:qhu n E.h y=some ys)(hs:qns n ys=true) :
  ∃a cap news,u=.slice a ys.length cap/\(ys.length=0\/a≠none)/\news.length=ys.length*n/\qaj E ys.flatten news/\(news=[]\/∃b o,a=some ⟨b,o,none⟩/\∀(j:Nat) x,news[j]?=some x->E.w.cell? ⟨b,o+j,none⟩=some x):=by
 by_cases hvw:∃cs,y=.view false cs
 .obtain⟨cs,rfl⟩:=hvw;simp only[qhu]at hr;split at hr
  .rename_i hn;subst hn;cases hr;unfold rel at h;obtain⟨b,o,_,h2,h3⟩:=h;rcases h3 with⟨h3,_⟩ | ⟨_,cap,rfl,_⟩
   .cases h3
   obtain⟨us,u1,u2,u3⟩:=qiw h2;have hfl:∀l:List V,(l.map fun c=>[c]).flatten=l:=by
    intro l;induction l with
    | nil=>rfl
    | cons c l ih=>simp[ih]
   refine⟨some ⟨b,o,none⟩,cap,us,by simp,.inr (by simp),by simp[u1],by rw[hfl cs];exact u3,.inr ⟨b,o,rfl,u2⟩⟩
  .cases hr
 .refine q3h hE h ?_ hs;rw[<-hr];cases y<;>try rfl
  rename_i p cs;cases p
  .exact absurd ⟨cs,rfl⟩ hvw
  .rfl
section
variable{P:Program}{E:Env}(hE:Ok P E){s:List V}{a:Act}(hs:qaj E s a.tmps.toList){o:Oper}
include hE hs
omit hE hs in
theorem qqt{x y:Operand}{t u:TypeId}{c:Go.Call}(ho:o.op=.call c)(hc:c.callee=.builtin .append)(ha:c.args.toList=[x,y])(hat:c.argTypes.toList=[t,u]){v:V}{h':H}
  (h:∃E' val,Ok P E'/\Ext E E'/\E'.h=h'/\(Builtin.append_ #[t,u] o.type #[a.eval x,a.eval y]).run P E.w=.ok val E'.w/\rel E' v val):Does P E a o v h':=by
 have ha':c.args=#[x,y]:=by rw[<-Array.toList_inj];simpa using ha
 have hat':c.argTypes=#[t,u]:=by rw[<-Array.toList_inj];simpa using hat
 obtain⟨E',val,k1,k2,k3,k4,k5⟩:=h;refine⟨E',k1,k2,k3,.value val,?_,.inl ⟨val,rfl,k5⟩⟩;simp only[execOp,ho,Go.resolve,hc,ha',hat',Go.invoke,Go.builtin,Sem.run_bind,Sem.run_pure,Go.Result.andThen_ok,List.map_toArray,List.map_cons,List.map_nil,k4]
theorem zmk{x y:Operand}{x' y':A}{t u e e':TypeId}{c:Go.Call}{zs:List V}(ho:o.op=.call c)(hc:c.callee=.builtin .append)(ha:c.args.toList=[x,y])(hat:c.argTypes.toList=[t,u])
  (ht:P.underlying t=some (.slice e)) (hu:P.underlying u=some (.slice e')) (hz:zeroCells P e=some zs) (hn0:P.cellsOf e≠0) (hzl:zs.length=P.cellsOf e) (hb:P.bytesOf e≠0) (h1:cA x=some x') (h2:cA y=some y') {v:V} {h':H}
  (hv:exO (.app (P.cellsOf e) (P.bytesOf e) x' y') s E.h=some (v,h')):Does P E a o v h':=by
 obtain⟨i,z,hi,hz0,hzr⟩:=qgc (E:=E) hz;have hisz:i.size=P.cellsOf e:=by simp[Program.cellsOf,hi]
 have hib:i.bytes=P.bytesOf e:=by simp[Program.bytesOf,hi]
 have hzs:z.cells.size=i.size:=by have:=qau hzr;simp at this;omega
 simp only[exO]at hv;cases hr:qhu (P.cellsOf e) E.h (y'.ev s)with
 | none=>rw[hr]at hv;cases hv
 | some ys =>
  rw[hr]at hv;simp only at hv;have hv':=hv;unfold zet at hv';split at hv'
  .rename_i hcc;obtain⟨ad,cap,news,e1,e2,e3,e4,e5⟩:=q6s hE (qav hs h2) hr hcc.1;have hone:=qrz hcc.2 e4;refine qqt ho hc ha hat ?_;rw[e1];rw[<-hisz,<-hib]at hv;exact qvd hE (qvc ht hu hi hz0 hzs (by omega) (by rw[hisz];exact e3) e5 hone e2) (by omega) e4 hone (qav hs h1) hv
  .cases hv'
theorem zgi{x y:Operand}{x' y':A}{t u e e':TypeId}{c:Go.Call}{zs:List V}(ho:o.op=.call c)(hc:c.callee=.builtin .append)(ha:c.args.toList=[x,y])(hat:c.argTypes.toList=[t,u])
  (ht:P.underlying t=some (.slice e)) (hu:P.underlying u=some (.slice e')) (hz:zeroCells P e=some zs) (hn0:P.cellsOf e≠0) (hzl:zs.length=P.cellsOf e) (hb:P.bytesOf e≠0) (h1:cA x=some x') (h2:cA y=some y') {v:V} {h':H}
  (hv:exO (.appF (P.cellsOf e) (P.bytesOf e) x' y') s E.h=some (v,h')):Does P E a o v h':=by
 obtain⟨i,z,hi,hz0,hzr⟩:=qgc (E:=E) hz;have hisz:i.size=P.cellsOf e:=by simp[Program.cellsOf,hi]
 have hib:i.bytes=P.bytesOf e:=by simp[Program.bytesOf,hi]
 have hzs:z.cells.size=i.size:=by have:=qau hzr;simp at this;omega
 simp only[exO]at hv;split at hv
 .rename_i cs hy;split at hv
  .rename_i hn1;have r2:=qav hs h2;rw[hy]at r2;unfold rel at r2;obtain⟨b,q,_,r3,r4⟩:=r2;rcases r4 with⟨r4,_⟩ | ⟨_,cap,r5,_⟩
   .cases r4
   obtain⟨E1,b1,b2,b3,b4,b5,b6⟩:=qws cs hE;have r6:=q4y hE b2 b4 b6 r3;obtain⟨us,u1,u2,u3⟩:=qiw r6;have hfl:∀l:List V,(l.map fun c=>[qan E.h c]).flatten=l.map (qan E.h):=by
    intro l;induction l with
    | nil=>rfl
    | cons c l ih=>simp[ih]
   have hv':=hv;unfold zet at hv';split at hv'
   .rename_i hcc;have e4:qaj E1 (cs.map fun c=>[qan E.h c]).flatten us:=by rw[hfl cs];exact u3
    have hone:=qrz hcc.2 e4;rw[<-hisz,<-hib,<-b3]at hv;have:=qvd b1 (qvc (P:=P) (t:=t) (u:=u) (ty:=o.type) (a:=some ⟨b,q,none⟩) (cap:=cap) (n:=(cs.map fun c=>[qan E.h c]).length) ht hu hi hz0 hzs (by omega) (by rw[u1,hisz,hn1];simp) (.inr ⟨b,q,rfl,u2⟩) hone (.inr (by simp))) (by omega) e4 hone (qda hE b2.toExt0 _ _ (qav hs h1)) hv;obtain⟨E',val,k1,k2,k3,k4,k5⟩:=this;refine qqt ho hc ha hat ⟨E',val,k1,b2.trans k2,k3,?_,k5⟩
    rw[<-b4,r5];simpa using k4
   .cases hv'
  .cases hv
 .cases hr:qpm E.h (y'.ev s)with
  | none=>rw[hr]at hv;cases hv
  | some ys =>
   rw[hr]at hv;simp only at hv;have hv':=hv;unfold zet at hv';split at hv'
   .rename_i hcc;obtain⟨ad,cap,news,e1,e2,e3,e4,e5⟩:=q3h hE (qav hs h2) hr hcc.1;have hone:=qrz hcc.2 e4;refine qqt ho hc ha hat ?_;rw[e1];rw[<-hisz,<-hib]at hv;exact qvd hE (qvc ht hu hi hz0 hzs (by omega) (by rw[hisz];exact e3) e5 hone e2) (by omega) e4 hone (qav hs h1) hv
   .cases hv'
theorem zgj{x y:Operand}{x' y':A}{t u e:TypeId}{kn:Go.IntKind}{c:Go.Call}{zs:List V}(ho:o.op=.call c)(hc:c.callee=.builtin .append)(ha:c.args.toList=[x,y])(hat:c.argTypes.toList=[t,u])
  (ht:P.underlying t=some (.slice e)) (hu:P.underlying u=some (.int kn)) (hz:zeroCells P e=some zs) (hn0:P.cellsOf e≠0) (hzl:zs.length=P.cellsOf e) (hb:P.bytesOf e≠0) (h1:cA x=some x') (h2:cA y=some y') {v:V} {h':H}
  (hv:exO (.appz (P.cellsOf e) (P.bytesOf e) (zs.map (qan [])) x' y') s E.h=some (v,h')):Does P E a o v h':=by
 obtain⟨i,z,hi,hz0,hzr⟩:=qgc (E:=E) hz;have hisz:i.size=P.cellsOf e:=by simp[Program.cellsOf,hi]
 have hib:i.bytes=P.bytesOf e:=by simp[Program.bytesOf,hi]
 have hzs:z.cells.size=i.size:=by have:=qau hzr;simp at this;omega
 simp only[exO]at hv;cases hr:qqn (y'.ev s)with
 | none=>rw[hr]at hv;cases hv
 | some m =>
  rw[hr]at hv;simp only at hv;obtain⟨q,k,r1,r2,r3⟩:=qex hr;have ry:=qav hs h2;rw[r1]at ry;unfold rel at ry;have hk:k=(m:Int):=by omega
  subst hk;have hzm:=qhy (E:=E) (len:=m) (n:=i.size) (zs:=zs.map (qan [])) (z:=z.cells) (qdl hzr) (by simp;omega) (by omega);have hzc:Go.Builtin.zeroCells z.cells m=(Array.range (m*i.size)).map (z.cells[· % z.cells.size]!):=by simp only[Go.Builtin.zeroCells,hzs]
  rw[<-hzc]at hzm;have hv':=hv;unfold zet at hv';split at hv'
  .rename_i hcc;have hfit:m*i.bytes<=2 ^ 47:=by
    cases hx:x'.ev s<;>rw[hx]at hv'<;>simp only at hv'<;>try (cases hv';done)
    case nils =>
     split at hv'
     .rename_i h;rw[hib];simpa using h
     .cases hv'
    case nilx =>
     split at hv'
     .rename_i h;rw[hib];simpa using h
     .cases hv'
    case immc els =>
     split at hv'
     .rename_i h;have h0:m=0:=by simpa using h
      rw[h0,Nat.zero_mul];exact Nat.zero_le _
     split at hv'
     .rename_i h;have h5:=h.2;rw[kD]at h5;rw[hib];have:m*P.bytesOf e<=(els.length+m)*P.bytesOf e:=jV _ (by omega);omega
     .cases hv'
    case sl id g m0 off len =>
     cases hob:E.h[id]? with
     | none=>rw[hob]at hv';cases hv'
     | some ob =>
      rw[hob]at hv';obtain⟨gg,kk⟩:=ob;cases kk<;>simp only at hv'<;>try (cases hv';done)
      split at hv'
      .rename_i h;have h5:=h.2.2.2.2;rw[kD]at h5;rw[hib];have:m*P.bytesOf e<=(len+m)*P.bytesOf e:=jV _ (by omega);omega
      .split at hv'
       .rename_i h;have h5:=h.2.2.2.2;rw[kD]at h5;rw[hib];have:m*P.bytesOf e<=(len+m)*P.bytesOf e:=jV _ (by omega);omega
       .cases hv'
   have hone:=qrz hcc.2 hzm;refine qqt ho hc ha hat ?_;rw[ry];rw[<-hisz,<-hib]at hv;have hA:=zlw (P:=P) (t:=t) (u:=u) (ty:=o.type) (kq:=q) ht hu hi hz0 hzs (by omega) (by omega) (w:=E.w) hfit;have hA':Ap P t u o.type e i (.int q m) (List.replicate m (zs.map (qan []))).length (Go.Builtin.zeroCells z.cells m).toList E.w:=by rw[kD];exact hA
   exact qvd hE hA' (by omega) hzm hone (qav hs h1) hv
  .cases hv'
omit hE in
theorem zjg{x:Operand}{x':A}(h1:cA x=some x'){k:Go.IntKind}{n:Int}(h:x'.ev s=.int k n):a.eval x=.int k n:=by have r:=qav hs h1;rw[h]at r;unfold rel at r;exact r
theorem zgt{x y:Operand}{x' y':A}{c:Go.Call}{mn:Bool}(ho:o.op=.call c)(hc:c.callee=.builtin (if mn then .min else .max))(ha:c.args.toList=[x,y])(h1:cA x=some x')(h2:cA y=some y'){v:V}{h':H}
  (hv:exO (.mx mn x' y') s E.h=some (v,h')):Does P E a o v h':=by
 have ha':c.args=#[x,y]:=by rw[<-Array.toList_inj];simpa using ha
 simp only[exO]at hv;cases hx:x'.ev s<;>rw[hx]at hv<;>(try simp only at hv)<;>try (cases hv;done)
 rename_i k n;cases hy:y'.ev s<;>rw[hy]at hv<;>(try simp only at hv)<;>try (cases hv;done)
 rename_i k' n';split at hv
 .rename_i hk;subst hk;cases hv;have e1:=zjg hs h1 hx;have e2:=zjg hs h2 hy;refine Does.same hE (u:=.int k (if mn then(if n'<n then n' else n)else(if n'>n then n' else n))) ?_ (by unfold rel;rfl);cases mn
  .simp[execOp,ho,Go.resolve,hc,ha',e1,e2,Go.invoke,Go.builtin,Go.Builtin.max_,Go.Builtin.max2]
  .simp[execOp,ho,Go.resolve,hc,ha',e1,e2,Go.invoke,Go.builtin,Go.Builtin.min_,Go.Builtin.min2]
 .cases hv
theorem zmn{x:Operand}{x':A}{t e:TypeId}{c:Go.Call}(ho:o.op=.call c)(hc:c.callee=.builtin .cap)(ha:c.args.toList=[x])(hat:c.argTypes.toList=[t])(ht:P.underlying t=some (.slice e))(h1:cA x=some x'){v:V}{h':H}
  (hv:exO (.cap x') s E.h=some (v,h')):Does P E a o v h':=by
 have ha':c.args=#[x]:=by rw[<-Array.toList_inj];simpa using ha
 have hat':c.argTypes=#[t]:=by rw[<-Array.toList_inj];simpa using hat
 have r1:=qav hs h1;simp only[exO]at hv;cases hx:x'.ev s<;>rw[hx]at hv r1<;>simp only at hv<;>try (cases hv;done)
 cases hv;unfold rel at r1;obtain⟨ad,hu⟩:=r1;refine Does.same hE (u:=.int .i64 0) ?_ (by unfold rel;rfl);simp[execOp,ho,Go.resolve,hc,ha',hat',hu,Go.invoke,Go.builtin,Go.Builtin.cap_,Go.run_underlying ht,Go.goInt]
theorem zmw{x:Operand}{x':A}{t:TypeId}(ho:o.op=.range t x)(ht:P.underlying t=some .string)(h1:cA x=some x'){v:V}{h':H}(hv:exO (.rng x') s E.h=some (v,h')):Does P E a o v h':=by
 have r1:=qav hs h1;simp only[exO]at hv;cases hx:x'.ev s<;>rw[hx]at hv r1<;>simp only at hv<;>try (cases hv;done)
 rename_i l;cases hv;unfold rel at r1;have hrun:=Go.run_range_string (P:=P) E.w t ⟨l.toArray⟩ ht;obtain⟨k1,k2⟩:=qhe hE (Grow.alloc E.w (.stringIter ⟨l.toArray⟩ 0)) ⟨0,.sit l 0⟩ (some (E.w.heap.size,0,0)) (by intro b D h;cases h;exact⟨jD _,by simp⟩) (fun _=>by
  unfold qem;refine⟨E.w.heap.size,(0,0),by simp,fun h=>by have:=hE.S _ h;omega,?_⟩;exact Go.heap_alloc_new E.w _)
 refine⟨_,k1,k2,rfl,.value (.pointer (some ⟨E.w.heap.size,0,none⟩)),?_,.inl ⟨_,rfl,?_⟩⟩
 .simp only[execOp,ho,r1,Sem.run_bind,hrun,Go.Result.andThen_ok];rfl
 .unfold rel;exact⟨by simp,_,rfl,fun o _ _=>⟨(0,0),by simp⟩⟩
theorem zmu{x:Operand}{x':A}(ho:o.op=.next x true)(h1:cA x=some x'){v:V}{h':H}(hv:exO (.nxt x') s E.h=some (v,h')):Does P E a o v h':=by
 have r1:=qav hs h1;simp only[exO]at hv;cases hx:x'.ev s<;>rw[hx]at hv r1<;>simp only at hv<;>try (cases hv;done)
 rename_i id;cases hob:E.h[id]? with
 | none=>rw[hob]at hv;cases hv
 | some ob =>
  rw[hob]at hv;obtain⟨g,kk⟩:=ob;cases kk<;>simp only at hv<;>try (cases hv;done)
  rename_i l pos;unfold rel at r1;obtain⟨hlt,b,hu,h3⟩:=r1;obtain⟨C,hb⟩:=h3 _ hob rfl;have hro:=hE.obj id _ hob;unfold qem at hro;obtain⟨b',C',q1,q2,q3⟩:=hro;rw[hb]at q1;cases q1;have hsz:(ByteArray.mk l.toArray).size=l.length:=by simp[ByteArray.size]
  split at hv
  .rename_i hp;cases hv;have hp':pos<(ByteArray.mk l.toArray).size:=by rw[hsz];exact hp
   have hbs:=qec q3;obtain⟨k1,k2⟩:=qkz hE hob rfl (o':=⟨g,.sit l (pos+(Go.Utf8.decode ⟨l.toArray⟩ pos).2)⟩) (fun _ h=>by cases h)
    (w':={ E.w with heap:=E.w.heap.setIfInBounds b (.stringIter ⟨l.toArray⟩ (pos+(Go.Utf8.decode ⟨l.toArray⟩ pos).2)) }) (by simp) (fun k hk hne=>by
     have:k≠b:=fun h=>hne C (by rw[h];exact hb);simp only;rw[Array.getElem?_setIfInBounds_ne (Ne.symm this)]) rfl rfl (E.b id) (fun k D hk=>.inl ⟨D,hk⟩)
    (jD _) rfl (fun _=>⟨rfl,jD _,rfl⟩) (fun _=>by
     unfold qem;refine⟨b,C,by simp[hb],q2,?_⟩;simp[hbs])
   refine⟨_,k1,k2,rfl,.value (.tuple #[.bool true,.int .i64 pos,.int .i32 (Go.Utf8.decode ⟨l.toArray⟩ pos).1]),?_,.inl ⟨_,rfl,?_⟩⟩
   .simp[execOp,ho,hu,Go.Instr.next,Go.getObj,Go.setObj,Sem.run,Go.Result.andThen,q3,hp',Go.goInt]
   .unfold rel;refine⟨_,rfl,?_⟩;simp[qaj,rel]
  .rename_i hp;cases hv;have hp':¬pos<(ByteArray.mk l.toArray).size:=by rw[hsz];exact hp
   refine Does.same hE (u:=.tuple #[.bool false]) ?_ (by unfold rel;exact⟨_,rfl,by simp[qaj,rel]⟩);simp[execOp,ho,hu,Go.Instr.next,Go.getObj,Sem.run,q3,hp']
end
open Go (World Value Addr Obj Program Act Operand Oper Op Sem Result Next undef execOp TypeId TypeDesc Builtin.firstCells TypeInfo)
theorem q9k{P:Program}{E:Env}(hE:Ok P E){id g n p:Nat}{els ys:List (List V)}{news:List Value}(ho:E.h[id]?=some ⟨g,.arr n els⟩){b:Nat}{C:Nat×Nat}(hb:E.b id=some (b,C))(hp:p+ys.length<=els.length)(hsz:qns n ys=true)
  (hpu:qce ys=true) (hr:qaj E ys.flatten news) :
  ∃E',Ok P E'/\Ext E E'/\E'.h=E.h.set id ⟨g,.arr n (qdd els p ys)⟩/\(Go.storeCells ⟨b,(C.2+p)*n,none⟩ news 0).run P E.w=.ok () E'.w:=by
 have hn:=qlb hsz;have hone:=qrz hpu hr;have hlen:news.length=ys.length*n:=by rw[<-qau hr,qas hn]
 have hro:=hE.obj id _ ho;unfold qem at hro;obtain⟨hpe,hor⟩:=hro;rcases hor with⟨h,_⟩ | ⟨b',C',cs0,ty0,q1,q2,q3,q4,q5,q6,q7⟩
 .rw[hb]at h;cases h
 .rw[hb]at q1;cases q1;rw[Nat.add_mul]at q5;rw[Nat.add_mul C.2 p];obtain⟨us,u1,u2,u3⟩:=qja (qen p q7);obtain⟨vs,v1,v2,v3⟩:=qja (qfg (p+ys.length) q7);have hul:us.length=p*n:=by rw[u1,List.length_take,Nat.min_eq_left (by omega)]
  have hn':∀q∈qdd els p ys,q.length=n:=by
   intro q hq;have old:q∈els->q.length=n:=fun hq=>by obtain⟨j,hj⟩:=List.mem_iff_getElem?.1 hq;exact(qcl q7 hj).1
   rcases jQ.1 hq with hq | hq
   .exact old (List.mem_of_mem_take hq)
   .rcases jQ.1 hq with hq | hq
    .exact hn q hq
    .exact old (List.mem_of_mem_drop hq)
  have hlo:(qdd els p ys).length=els.length:=by rw[qnd (by omega)];omega
  have hflat:qaj E (qdd els p ys).flatten (us++(news++vs)):=by unfold qdd;rw[jZ,jZ];exact qck u3 (qck hr v3)
  have hll:(us++(news++vs)).length=(qdd els p ys).length*n:=by rw[jF,jF,hul,hlen,v1];simp only[qdd,jF,List.length_take,Nat.min_eq_left (show p<=els.length by omega),Nat.add_mul]
  have hmul:(p+ys.length)*n<=C.1*n:=jV _ (by omega);rw[Nat.add_mul]at hmul;obtain⟨w',cs',g1,g2,g3,g4,g5,g6,g7,g8⟩:=qhm (P:=P) (b:=b) (off:=C.2*n+p*n) (ty:=ty0) news 0 E.w cs0 q3 (by omega) hone;have htk:=qut (cs:=cs') (l:=us++(news++vs)) (D:=C.2*n) (fun j v h=>by
   rw[g8 (C.2*n+j)];by_cases hj:j<us.length
   .rw[jI hj]at h;rw[if_neg (by omega),<-qdv q3];exact u2 j v h
   .rw[jJ (by omega)]at h;by_cases hj2:j-us.length<news.length
    .rw[jI hj2]at h;rw[if_pos (by omega)];rw[show C.2*n+j-(C.2*n+p*n+0)=j-us.length by omega];exact h
    .rw[jJ (by omega)]at h;rw[if_neg (by omega),<-qdv q3];have:=v2 _ v h;rw[show C.2*n+(p+ys.length)*n+(j-us.length-news.length)=C.2*n+j by rw[Nat.add_mul];omega]at this;exact this)
  obtain⟨k1,k2⟩:=qkz hE ho rfl (o':=⟨g,.arr n (qdd els p ys)⟩) (fun _ h=>by cases h) (w':=w') (by omega) (fun k hk hne=>g5 k (fun h=>hne C (by rw[h];exact hb))) g6 g7 (E.b id) (fun k D hk=>.inl ⟨D,hk⟩)
   (jD _) rfl (fun _=>⟨rfl,by simp[qmi,hlo],rfl⟩) (fun y=>by
    unfold qem;refine⟨q0k hpe hpu,.inr ⟨b,C,cs',ty0,by simp[hb],q2,g3,q4,by rw[Nat.add_mul];omega,by omega,?_⟩⟩;refine qgb (cs:=cs'.toList.drop (C.2*n)) hn' (fun j u hj _=>?_) (by rw[<-hll,htk];exact qba hE y _ _ hflat);show w'.cell? ⟨b,C.2*n+j,none⟩=some u;rw[qdv g3];simpa using hj)
  exact⟨_,k1,k2,rfl,g1⟩
theorem zvi{P:Program}{E:Env}(hE:Ok P E){id g m off len n:Nat}{u:Value}{els:List (List V)}(hx:rel E (.sl id g m off len) u)(ho:E.h[id]?=some ⟨g,.arr n els⟩)(hl:len≠0)(hle:off+len<=els.length) :
  ∃b C cap,u=.slice (some ⟨b,(C.2+off)*n,none⟩) len cap/\E.b id=some (b,C):=by
 unfold rel at hx;obtain⟨_,_,a,cap,rfl,_,_,_,h3⟩:=hx;obtain⟨_,hm,h4⟩:=h3 _ ho rfl rfl;have hro:=hE.obj id _ ho;unfold qem at hro;rcases h4 with⟨h5,_⟩ | ⟨b,C,x,h5,rfl,_,h6⟩
 .rcases hro.2 with h | ⟨b',C',cs0,ty0,q1,_⟩
  .exfalso;have:=h.2;subst this;simp at hle;omega
  .rw[h5]at q1;cases q1
 .refine⟨b,C,cap,?_,h5⟩;have hm':m=n:=hm;rw[h6 (.inl (by omega)),hm']
section
variable{P:Program}{E:Env}(hE:Ok P E){s:List V}{a:Act}(hs:qaj E s a.tmps.toList){o:Oper}
include hE hs
theorem zmo{x:Operand}{x':A}{t e:TypeId}{c:Go.Call}{zs:List V}(ho:o.op=.call c)(hc:c.callee=.builtin .clear)(ha:c.args.toList=[x])(hat:c.argTypes.toList=[t])(ht:P.underlying t=some (.slice e))(hn0:P.cellsOf e≠0)(hz:zeroCells P e=some zs)(hzl:zs.length=P.cellsOf e)
  (h1:cA x=some x') {v:V} {h':H} (hv:exO (.clr (P.cellsOf e) (zs.map (qan [])) x') s E.h=some (v,h')):Does P E a o v h':=by
 have ha':c.args=#[x]:=by rw[<-Array.toList_inj];simpa using ha
 have hat':c.argTypes=#[t]:=by rw[<-Array.toList_inj];simpa using hat
 obtain⟨i,z,hi,hz0,hzr⟩:=qgc (E:=E) hz;have hisz:i.size=P.cellsOf e:=by simp[Program.cellsOf,hi]
 have hzs:z.cells.size=i.size:=by have:=qau hzr;simp at this;omega
 have r1:=qav hs h1;have none_:∀{ad:Option Addr} {cap:Nat},a.eval x=.slice ad 0 cap->Does P E a o .undef E.h:=by intro ad cap hu;refine Does.same hE (u:=.tuple #[]) ?_ (by unfold rel;trivial);cases ad<;>simp[execOp,ho,Go.resolve,hc,ha',hat',hu,Go.invoke,Go.builtin,Go.Builtin.clear_,Go.run_underlying ht]
 simp only[exO]at hv;cases hx:x'.ev s<;>rw[hx]at hv r1<;>simp only at hv<;>try (cases hv;done)
 case nils =>cases hv;unfold rel at r1;obtain⟨ad,hu⟩:=r1;exact none_ hu
 case sl id g m off len =>
  split at hv
  .rename_i h0;cases hv;subst h0;unfold rel at r1;obtain⟨_,_,ad,cap,hu,_⟩:=r1;exact none_ hu
  .rename_i h0;cases hob:E.h[id]? with
   | none=>rw[hob]at hv;cases hv
   | some ob =>
    rw[hob]at hv;obtain⟨gg,kk⟩:=ob;cases kk<;>simp only at hv<;>try (cases hv;done)
    rename_i m' els;split at hv
    .rename_i hcc;obtain⟨rfl,rfl,hle,hzp⟩:=hcc;cases hv;obtain⟨b,C,cap,hu,hb⟩:=zvi hE r1 hob h0 hle;have hzm:=qhy (E:=E) (len:=len) (n:=i.size) (zs:=zs.map (qan [])) (z:=z.cells) (qdl hzr) (by simp;omega) (by omega);have hzc:Go.Builtin.zeroCells z.cells len=(Array.range (len*i.size)).map (z.cells[· % z.cells.size]!):=by simp only[Go.Builtin.zeroCells,hzs]
     rw[<-hzc]at hzm;have hsz:qns (P.cellsOf e) (List.replicate len (zs.map (qan [])))=true:=by simp only[qns,jP];intro q hq;rw[List.eq_of_mem_replicate hq];simpa using hzl
     have hpu:qce (List.replicate len (zs.map (qan [])))=true:=by simp only[qce,jP];intro q hq;rw[List.eq_of_mem_replicate hq];simpa[jP]using hzp
     obtain⟨E',k1,k2,k3,k4⟩:=q9k hE hob hb (p:=off) (by simpa using hle) hsz hpu hzm;refine⟨E',k1,k2,k3,.value (.tuple #[]),?_,.inl ⟨_,rfl,by unfold rel;trivial⟩⟩;have hzv:(Go.zeroValue e).run P E.w=.ok z E.w:=by simp[Go.zeroValue,Go.typeInfo,hi,hz0]
     obtain⟨len',rfl⟩:∃l,len=l+1:=⟨len-1,by omega⟩
     simp only[execOp,ho,Go.resolve,hc,ha',hat',Go.invoke,Go.builtin,Sem.run_bind,Sem.run_pure,Go.Result.andThen_ok,List.map_toArray,List.map_cons,List.map_nil,hu,Go.Builtin.clear_];simp[Go.run_underlying ht,hzv,k4]
    .cases hv
end
open Go (World Value Addr Obj Program Act Operand Oper Op Sem Result Next undef execOp TypeId TypeDesc MapEntry)
theorem qso(a b:ByteArray):(a==b)=true<->a=b:=by
 obtain⟨x⟩:=a;obtain⟨y⟩:=b;constructor
 .intro h;have e:x=y:=by simpa using(show(x==y)=true from h)
  rw[e]
 .intro h;cases h;show(x==x)=true;simp
theorem zoz{P:Program}{E:Env}{kt:TypeId}{kk:Nat}(hk:qjj P kt=some kk){k a:V}{u ua:Value}(hv:qpy kk k=true)(hr:rel E k u)(ha:rel E a ua){t:Bool}(h:eqS k a=some t) :
  ∃d,P.underlying kt=some d/\Go.Instr.sameNow d u ua=some t/\(t=true->ua=u):=by
 have hd:∃d,P.underlying kt=some d/\((kk=0/\d=.bool)\/(kk=1/\∃q,d=.int q)\/(kk=2/\d=.string)):=by
  unfold qjj at hk;split at hk<;>cases hk
  .exact⟨_,by assumption,.inl ⟨rfl,rfl⟩⟩
  .exact⟨_,by assumption,.inr (.inl ⟨rfl,_,rfl⟩)⟩
  .exact⟨_,by assumption,.inr (.inr ⟨rfl,rfl⟩)⟩
 obtain⟨d,hd,hdd⟩:=hd;refine⟨d,hd,?_⟩;cases k<;>simp[qpy]at hv<;>subst hv<;>cases a<;>simp only[eqS]at h<;>try (cases h;done)
 .obtain⟨_,rfl⟩:True/\d=.bool:=by rcases hdd with⟨_,h⟩ | ⟨h,_⟩ | ⟨h,_⟩<;>first | exact⟨trivial,h⟩ | (cases h)
  unfold rel at hr ha;subst hr ha;cases h;exact⟨rfl,fun h=>by simp at h;rw[h]⟩
 .obtain⟨_,q,rfl⟩:True/\∃q,d=.int q:=by rcases hdd with⟨h,_⟩ | ⟨_,h⟩ | ⟨h,_⟩<;>first | exact⟨trivial,h⟩ | (cases h)
  unfold rel at hr ha;subst hr ha;split at h
  .rename_i hkk;cases h;subst hkk;refine⟨by simp[Go.Instr.sameNow],fun h=>by simp at h;rw[h]⟩
  .cases h
 .rename_i l m;obtain rfl:d=.string:=by rcases hdd with⟨h,_⟩ | ⟨h,_⟩ | ⟨_,h⟩<;>first | exact h | (cases h)
  unfold rel at hr ha;subst hr ha;cases h;refine⟨?_,fun h=>by simp at h;rw[h]⟩;simp only[Go.Instr.sameNow];congr 1;by_cases e:l=m
  .subst e;rw[(qso _ _).2 rfl];simp
  .have h1:((ByteArray.mk l.toArray)==(ByteArray.mk m.toArray))=false:=by
    cases hq:((ByteArray.mk l.toArray)==(ByteArray.mk m.toArray))with
    | false=>rfl
    | true=>exact absurd (by simpa using congrArg (fun b:ByteArray=>b.data.toList) ((qso _ _).1 hq)) e
   rw[h1];simp[e]
theorem qfi{P:Program}{w:World}{r:Nat}{es:Array MapEntry}{clock:Nat}(hb:w.heap[r]?=some (.map es clock)):(Go.getObj r).run P w=.ok (.map es clock) w:=by simp[Go.getObj,Sem.run,hb]
theorem qnl{P:Program}{w:World}{r:Nat}{es:Array MapEntry}{clock:Nat}(o:Obj)(hb:w.heap[r]?=some (.map es clock)):(Go.setObj r o).run P w=.ok () { w with heap:=w.heap.setIfInBounds r o }:=by simp[Go.setObj,Sem.run,hb]
theorem qjy{P:Program}{w:World}{kt:TypeId}{d:TypeDesc}{k:Value}{l:List MapEntry}{a:Option (Nat×Value)}(hd:P.underlying kt=some d)(h:Go.Instr.findNow d k l 0=some a):(Go.Instr.findKey kt k l).run P w=.ok a w:=by simp[Go.Instr.findKey,Go.run_underlying hd,h]
theorem q6l{P:Program}(t:TypeId)(w:World):(Go.Instr.makeMap t none).run P w=.ok (.map (some w.heap.size)) (w.alloc (.map #[] 0)):=rfl
theorem quj{E:Env}:∀{es:List (V×V)} {ms:List MapEntry},qjl E es ms->es.length=ms.length
 | [],ms,h=>by simp only[qjl]at h;subst h;rfl
 | (k,v) :: r,ms,h=>by obtain⟨e,es',rfl,_,_,_,_,h6⟩:=h;simp[quj h6]
theorem q0p{E:Env}{k v:V}{e:MapEntry}(hk:rel E k e.key)(hv:rel E v e.val)(h1:k.scal1=true)(h2:v.scal1=true):∀{es:List (V×V)} {ms:List MapEntry},qjl E es ms->qjl E (es++[(k,v)]) (ms++[e])
 | [],ms,h=>by simp only[qjl]at h;subst h;exact⟨e,[],rfl,hk,hv,h1,h2,rfl⟩
 | (a,b) :: r,ms,h=>by obtain⟨e',es',rfl,g2,g3,g4,g5,g6⟩:=h;exact⟨e',_,rfl,g2,g3,g4,g5,q0p hk hv h1 h2 g6⟩
theorem q6h{E:Env}{k v:V}{e:MapEntry}(hk:rel E k e.key)(hv:rel E v e.val)(h1:k.scal1=true)(h2:v.scal1=true):∀{j:Nat} {es:List (V×V)} {ms:List MapEntry},qjl E es ms->qjl E (es.set j (k,v)) (ms.set j e)
 | _,[],ms,h=>by simp only[qjl]at h;subst h;simp[qjl]
 | 0,(a,b) :: r,ms,h=>by obtain⟨e',es',rfl,g2,g3,g4,g5,g6⟩:=h;exact⟨e,_,rfl,hk,hv,h1,h2,g6⟩
 | j+1,(a,b) :: r,ms,h=>by obtain⟨e',es',rfl,g2,g3,g4,g5,g6⟩:=h;exact⟨e',_,rfl,g2,g3,g4,g5,q6h hk hv h1 h2 g6⟩
theorem q6x{k v:V}:∀{es es':List (V×V)},q3z es k v=some es'->∃r,qpv es k=some r
 | [],_,_=>⟨none,rfl⟩
 | (a,b) :: r,es',h=>by
  simp only[q3z]at h;simp only[qpv];cases e:eqS k a with
  | none=>rw[e]at h;cases h
  | some t =>
   rw[e]at h;cases t with
   | true=>exact⟨_,rfl⟩
   | false =>
    simp only at h ⊢;cases e2:q3z r k v with
    | none=>rw[e2]at h;cases h
    | some x=>exact q6x e2
theorem q2b{P:Program}{E:Env}{kt:TypeId}{d:TypeDesc}{kk:Nat}(hd:P.underlying kt=some d)(hk:qjj P kt=some kk){k:V}{u:Value}(hv:qpy kk k=true)(hr:rel E k u):∀{es:List (V×V)} {ms:List MapEntry} {r:Option V} (i:Nat),qjl E es ms->qpv es k=some r ->
  (r=none/\Go.Instr.findNow d u ms i=some none/\∀v,q3z es k v=some (es++[(k,v)])) \/
  ∃b j e,r=some b/\Go.Instr.findNow d u ms i=some (some (i+j,e.val))/\ms[j]?=some e/\rel E b e.val/\b.scal1=true/\e.key=u/\∀v,q3z es k v=some (es.set j (k,v))
 | [],ms,r,i,h,hf=>by simp only[qjl]at h;subst h;simp only[qpv]at hf;cases hf;exact .inl ⟨rfl,rfl,fun v=>rfl⟩
 | (a,b) :: rest,ms,r,i,h,hf=>by
  obtain⟨e,es',rfl,g2,g3,g4,g5,g6⟩:=h;simp only[qpv]at hf;cases ht:eqS k a with
  | none=>rw[ht]at hf;cases hf
  | some t =>
   rw[ht]at hf;obtain⟨d',hd',hs,heq⟩:=zoz hk hv hr g2 ht;rw[hd]at hd';cases hd';cases t with
   | true =>cases hf;exact .inr ⟨b,0,e,rfl,by simp[Go.Instr.findNow,hs],rfl,g3,g5,heq rfl,fun v=>by simp[q3z,ht]⟩
   | false =>
    simp only at hf;rcases q2b hd hk hv hr (i+1) g6 hf with⟨q1,q2,q3⟩ | ⟨b',j,e',q1,q2,q3,q4,q5,q6,q7⟩
    .exact .inl ⟨q1,by simp[Go.Instr.findNow,hs,q2],fun v=>by simp[q3z,ht,q3]⟩
    .exact .inr ⟨b',j+1,e',q1,by simp[Go.Instr.findNow,hs,q2];omega,by simpa using q3,q4,q5,q6,fun v=>by simp[q3z,ht,q7]⟩
theorem qtz{P:Program}{w:World}{kt:TypeId}{d:TypeDesc}{kk:Nat}(hd:P.underlying kt=some d)(hk:qjj P kt=some kk){u:Value}(em:Bool)(n:Nat):(Go.Instr.checkKey em (n+1) kt u).run P w=.ok () w:=by unfold Go.Instr.checkKey;simp only[Sem.run_bind,Go.run_underlying hd,Go.Result.andThen];unfold qjj at hk;rw[hd]at hk;cases d<;>simp at hk<;>cases u<;>rfl
theorem q5k{kk:Nat}{k:V}(h:qpy kk k=true):k.scal1=true:=by cases k<;>first | rfl | (simp[qpy]at h)
theorem q6o{kk:Nat}{k:V}(h:qpy kk k=true){E:Env}{u:Value}(hr:rel E k u)(n:Nat):Go.Instr.sameBits n u u=true:=by cases k<;>simp[qpy]at h<;>unfold rel at hr<;>subst hr<;>cases n<;>simp[Go.Instr.sameBits,qso]
section
variable{P:Program}{E:Env}(hE:Ok P E){s:List V}{a:Act}(hs:qaj E s a.tmps.toList){o:Oper}
include hE hs
omit hs in
theorem zcu{t:TypeId}(ho:o.op=.makeMap t none){v:V}{h':H}(hv:exO .mkmap s E.h=some (v,h')):Does P E a o v h':=by
 simp only[exO]at hv;cases hv;obtain⟨k1,k2⟩:=qhe hE (Grow.alloc E.w (.map #[] 0)) ⟨0,.map []⟩ (some (E.w.heap.size,0,0)) (by intro b D h;cases h;exact⟨jD _,by simp⟩) (fun _=>by
  unfold qem;refine⟨E.w.heap.size,(0,0),#[],0,by simp,fun h=>by have:=hE.S _ h;omega,?_,by simp[qjl]⟩;exact Go.heap_alloc_new E.w _)
 refine⟨_,k1,k2,rfl,.value (.map (some E.w.heap.size)),?_,.inl ⟨_,rfl,?_⟩⟩
 .simp only[execOp,ho,Option.map_none,Sem.run_bind,q6l,Go.Result.andThen_ok];rfl
 .unfold rel;exact⟨by simp,_,rfl,fun o _ _=>⟨(0,0),by simp⟩⟩
omit hs in
theorem zja{id:Nat}{g:Nat}{es:List (V×V)}{u:Value}(hx:rel E (.map id) u)(ho:E.h[id]?=some ⟨g,.map es⟩):∃b C ms clock,u=.map (some b)/\E.b id=some (b,C)/\¬E.S b/\E.w.heap[b]?=some (.map ms clock)/\qjl E es ms.toList:=by unfold rel at hx;obtain⟨_,b,hu,h3⟩:=hx;obtain⟨C,hb⟩:=h3 _ ho rfl;have hro:=hE.obj id _ ho;unfold qem at hro;obtain⟨b',C',ms,clock,q1,q2,q3,q4⟩:=hro;rw[hb]at q1;cases q1;exact⟨b,C,ms,clock,hu,hb,q2,q3,q4⟩
theorem zgo{x:Operand}{x':A}{t k e:TypeId}{c:Go.Call}(ho:o.op=.call c)(hc:c.callee=.builtin .len)(ha:c.args.toList=[x])(hat:c.argTypes.toList=[t])(ht:P.underlying t=some (.map k e))(h1:cA x=some x'){v:V}{h':H}
  (hv:exO (.lenm x') s E.h=some (v,h')):Does P E a o v h':=by
 have ha':c.args=#[x]:=by rw[<-Array.toList_inj];simpa using ha
 have hat':c.argTypes=#[t]:=by rw[<-Array.toList_inj];simpa using hat
 have r1:=qav hs h1;simp only[exO]at hv;cases hx:x'.ev s<;>rw[hx]at hv r1<;>simp only at hv<;>try (cases hv;done)
 rename_i id;cases hob:E.h[id]? with
 | none=>rw[hob]at hv;cases hv
 | some ob =>
  rw[hob]at hv;obtain⟨g,kk⟩:=ob;cases kk<;>simp only at hv<;>try (cases hv;done)
  rename_i es;cases hv;obtain⟨b,C,ms,clock,hu,hb,_,hm,hes⟩:=zja hE r1 hob;have hl:(ms.size:Int)=es.length:=by rw[quj hes];simp
  refine Does.same hE (u:=.int .i64 es.length) ?_ (by unfold rel;rfl);simp[execOp,ho,Go.resolve,hc,ha',hat',hu,Go.invoke,Go.builtin,Go.Builtin.len_,Go.run_underlying ht,qfi hm,Go.goInt,hl]
theorem zgq{x y:Operand}{x' y':A}{t kt e:TypeId}{ok:Bool}{kk:Nat}{zero:V}(ho:o.op=.lookup t x y ok)(ht:P.underlying t=some (.map kt e))(hk:qjj P kt=some kk)(hz:qsi P e=some zero)(_hzs:zero.scal1=true)(h1:cA x=some x')(h2:cA y=some y'){v:V}{h':H}
  (hv:exO (.look kk zero ok x' y') s E.h=some (v,h')):Does P E a o v h':=by
 have r1:=qav hs h1;have r2:=qav hs h2;simp only[exO]at hv;split at hv
 .rename_i hkv;cases hx:x'.ev s<;>rw[hx]at hv r1<;>simp only at hv<;>try (cases hv;done)
  rename_i id;cases hob:E.h[id]? with
  | none=>rw[hob]at hv;cases hv
  | some ob =>
   rw[hob]at hv;obtain⟨g,K⟩:=ob;cases K<;>simp only at hv<;>try (cases hv;done)
   rename_i es;obtain⟨b,C,ms,clock,hu,hb,_,hm,hes⟩:=zja hE r1 hob;cases hf:qpv es (y'.ev s)with
   | none=>rw[hf]at hv;cases hv
   | some r =>
    rw[hf]at hv;simp only at hv;obtain⟨d,hd⟩:∃d,P.underlying kt=some d:=by unfold qjj at hk;split at hk<;>first | (exact⟨_,by assumption⟩) | (cases hk)
    have hck:=qtz (P:=P) (w:=E.w) hd hk (u:=a.eval y) ms.isEmpty 9999;obtain⟨i,z,hi,hz0,hzr⟩:∃i z,P.info? e=some i/\i.zero=some z/\rel E zero z:=by
     unfold qsi at hz;cases hi:P.info? e with
     | none=>rw[hi]at hz;cases hz
     | some i =>
      rw[hi]at hz;cases hz0:i.zero with
      | none=>simp[hz0]at hz
      | some z =>simp[hz0]at hz;exact⟨i,z,rfl,hz0,q9q hz⟩
    have hzv:(Go.zeroValue e).run P E.w=.ok z E.w:=by simp[Go.zeroValue,Go.typeInfo,hi,hz0]
    rcases q2b hd hk hkv r2 0 hes hf with⟨rfl,q2,_⟩ | ⟨bv,j,en,rfl,q2,q3,q4,q5,q6,_⟩
    .simp only[Option.getD_none,Option.isSome_none]at hv;cases hv;refine Does.same hE (u:=if ok then .tuple #[z,.bool false]else z) ?_ ?_
     .simp[execOp,ho,hu,Go.Instr.lookup,Go.run_underlying ht,qfi hm,hck,qjy hd q2,hzv]
     .cases ok
      .exact hzr
      .show rel E (.tup [zero,.bool false]) (.tuple #[z,.bool false]);unfold rel;exact⟨_,rfl,by simp[qaj,hzr,rel]⟩
    .simp only[Option.getD_some,Option.isSome_some]at hv;cases hv;refine Does.same hE (u:=if ok then .tuple #[en.val,.bool true]else en.val) ?_ ?_
     .simp[execOp,ho,hu,Go.Instr.lookup,Go.run_underlying ht,qfi hm,hck,qjy hd q2]
     .cases ok
      .exact q4
      .show rel E (.tup [bv,.bool true]) (.tuple #[en.val,.bool true]);unfold rel;exact⟨_,rfl,by simp[qaj,q4,rel]⟩
 .cases hv
theorem zmx{x y z:Operand}{x' y' z':A}{t kt e:TypeId}{kk:Nat}(ho:o.op=.mapUpdate t x y z)(ht:P.underlying t=some (.map kt e))(hk:qjj P kt=some kk)(h1:cA x=some x')(h2:cA y=some y')(h3:cA z=some z'){v:V}{h':H}
  (hv:exO (.upd kk x' y' z') s E.h=some (v,h')):Does P E a o v h':=by
 have r1:=qav hs h1;have r2:=qav hs h2;have r3:=qav hs h3;simp only[exO]at hv;split at hv
 .rename_i hkv;obtain⟨hkv,hsc⟩:=hkv;cases hx:x'.ev s<;>rw[hx]at hv r1<;>simp only at hv<;>try (cases hv;done)
  rename_i id;cases hob:E.h[id]? with
  | none=>rw[hob]at hv;cases hv
  | some ob =>
   rw[hob]at hv;obtain⟨g,K⟩:=ob;cases K<;>simp only at hv<;>try (cases hv;done)
   rename_i es;obtain⟨b,C,ms,clock,hu,hb,hnS,hm,hes⟩:=zja hE r1 hob;cases hup:q3z es (y'.ev s) (z'.ev s)with
   | none=>rw[hup]at hv;cases hv
   | some es' =>
    rw[hup]at hv;cases hv;obtain⟨r,hf⟩:=q6x hup;obtain⟨d,hd⟩:∃d,P.underlying kt=some d:=by unfold qjj at hk;split at hk<;>first | (exact⟨_,by assumption⟩) | (cases hk)
    have hck:=qtz (P:=P) (w:=E.w) hd hk (u:=a.eval y) false 9999;have fin:∀(ms':Array MapEntry) (clock':Nat),(∀E':Env,Ext E E'->qjl E' es' ms'.toList)->(Go.Instr.mapUpdate t (.map (some b)) (a.eval y) (a.eval z)).run P E.w=.ok () { E.w with heap:=E.w.heap.setIfInBounds b (.map ms' clock') }->Does P E a o .undef (E.h.set id ⟨g,.map es'⟩):=by
     intro ms' clock' hrel hrun;have hbs:=qec hm;obtain⟨k1,k2⟩:=qkz hE hob rfl (o':=⟨g,.map es'⟩) (fun _ h=>by cases h)
      (w':={ E.w with heap:=E.w.heap.setIfInBounds b (.map ms' clock') }) (by simp) (fun k hk hne=>by
       have:k≠b:=fun h=>hne C (by rw[h];exact hb);simp only;rw[Array.getElem?_setIfInBounds_ne (Ne.symm this)]) rfl rfl (E.b id) (fun k D hk=>.inl ⟨D,hk⟩)
      (jD _) rfl (fun _=>⟨rfl,jD _,rfl⟩) (fun x=>by
       unfold qem;refine⟨b,C,ms',clock',by simp[hb],hnS,?_,hrel _ x⟩;simp[hbs])
     refine⟨_,k1,k2,rfl,_,?_,.inr ⟨rfl,rfl⟩⟩;simp only[execOp,ho,hu,Sem.run_bind,hrun,Go.Result.andThen_ok];rfl
    rcases q2b hd hk hkv r2 0 hes hf with⟨rfl,q2,q3⟩ | ⟨bv,j,en,rfl,q2,q3,q4,q5,q6,q7⟩
    .rw[q3]at hup;cases hup;refine fin (ms.push { key:=a.eval y,val:=a.eval z,born:=clock }) (clock+1) (fun E' x=>?_) ?_
     .rw[Array.toList_push];exact q0p (e:={ key:=a.eval y,val:=a.eval z,born:=clock }) (qda hE x.toExt0 _ _ r2) (qda hE x.toExt0 _ _ r3) (q5k hkv) hsc (qrt hE x.toExt0 _ _ hes)
     .simp[Go.Instr.mapUpdate,Go.run_underlying ht,qfi hm,hck,qjy hd q2,qnl _ hm]
    .rw[q7]at hup;cases hup;have hj:ms[j]?=some en:=by simpa using q3
     refine fin (ms.modify j fun e=>{ e with key:=a.eval y,val:=a.eval z }) clock (fun E' x=>?_) ?_
     .have hl:(ms.modify j fun e=>{ e with key:=a.eval y,val:=a.eval z }).toList=ms.toList.set j { en with key:=a.eval y,val:=a.eval z }:=by
       rw[Array.toList_modify];apply List.ext_getElem?;intro k;rw[List.getElem?_modify,List.getElem?_set];have hjl:=(jG.1 q3).1;by_cases hjk:j=k
       .subst hjk;have hjs:j<ms.size:=by simpa using hjl
        rw[if_pos rfl,if_pos hjl,q3];simp
       .simp[hjk]
      rw[hl];exact q6h (e:={ en with key:=a.eval y,val:=a.eval z }) (qda hE x.toExt0 _ _ r2) (qda hE x.toExt0 _ _ r3) (q5k hkv) hsc (qrt hE x.toExt0 _ _ hes)
     .have hst:(Go.Instr.keyThatStays (a.eval y) (a.eval y)).run P E.w=.ok (a.eval y) E.w:=by
       simp[Go.Instr.keyThatStays,q6o hkv r2]
      simp[Go.Instr.mapUpdate,Go.run_underlying ht,qfi hm,hck,qjy hd q2,hj,q6,hst,qnl _ hm]
 .cases hv
end
theorem qwk{P:Program}{E:Env}{f kk:Nat}{e:TypeId}(hk:qjj P e=some kk):∀(m:Nat) {xs ys:List V} {us ws:List Value} {k:Nat} {U W:Array Value} {b:Bool},qaj E xs us->qaj E ys ws->eqL (List.replicate m kk) xs ys=some b ->
  U.toList.drop k=us->W.toList.drop k=ws->(Go.Op.eqItems (f+1) e 1 U W (List.range' k m)).run P E.w=.ok b E.w
 | 0,xs,ys,us,ws,k,U,W,b,hx,hy,he,hU,hW=>by
  cases xs<;>cases ys<;>simp only[List.replicate_zero,eqL]at he<;>try (cases he;done)
  cases he;simp[Go.Op.eqItems]
 | m+1,xs,ys,us,ws,k,U,W,b,hx,hy,he,hU,hW=>by
  cases xs with
  | nil=>simp[eqL,List.replicate_succ]at he
  | cons x xs =>
   cases ys with
   | nil=>simp[eqL,List.replicate_succ]at he
   | cons y ys =>
    unfold qaj at hx hy;obtain⟨u,us',rfl,hxu,hx'⟩:=hx;obtain⟨v,ws',rfl,hyv,hy'⟩:=hy;have hU0:U[k]?=some u:=by rw[<-Array.getElem?_toList,<-List.head?_drop,hU];rfl
    have hW0:W[k]?=some v:=by rw[<-Array.getElem?_toList,<-List.head?_drop,hW];rfl
    have hU':U.toList.drop (k+1)=us':=by rw[<-List.drop_drop,hU];rfl
    have hW':W.toList.drop (k+1)=ws':=by rw[<-List.drop_drop,hW];rfl
    obtain⟨d,hd,hag⟩:=q5j hk;have p1:(Go.part e U k).run P E.w=.ok u E.w:=by simp[Go.part,qez hd,hag,hU0]
    have p2:(Go.part e W k).run P E.w=.ok v E.w:=by simp[Go.part,qez hd,hag,hW0]
    simp only[List.replicate_succ,eqL]at he;split at he
    .rename_i hkx;simp only[List.range'_succ,Go.Op.eqItems,Nat.mul_one,Sem.run_bind,p1,p2,Go.Result.andThen_ok];split at he
     .rename_i h1;rw[q7t hk hxu hyv hkx h1];simp only[Go.Result.andThen_ok,Bool.not_true,Bool.false_eq_true,if_false];exact qwk hk m hx' hy' he hU' hW'
     .rename_i h1;cases he;rw[q7t hk hxu hyv hkx h1];simp
     .cases he
    .cases he
section
variable{P:Program}{E:Env}(hE:Ok P E){s:List V}{a:Act}(hs:qaj E s a.tmps.toList){o:Oper}
include hE hs
theorem zgl{op:Go.BinOp}{t yt e:TypeId}{n kk:Nat}{x y:Operand}{x' y':A}{neg:Bool}(ho:o.op=.binOp op t x y yt)(hop:(neg=false/\op=.eql)\/(neg=true/\op=.neq))(ht:P.underlying t=some (.array n e))
  (hk:qjj P e=some kk) (h1c:P.cellsOf e=1) (hg:P.eqGuardType P.depth t=false)
  (h1:cA x=some x') (h2:cA y=some y') {p q:List V} (hx:x'.ev s=.agg p) (hy:y'.ev s=.agg q) {b:Bool} (hb:eqL (List.replicate n kk) p q=some b):Does P E a o (.bool (if neg then !b else b)) E.h:=by
 have r1:=qav hs h1;have r2:=qav hs h2;rw[hx]at r1;rw[hy]at r2;unfold rel at r1 r2;obtain⟨us,hu,hul⟩:=r1;obtain⟨ws,hw,hwl⟩:=r2;obtain⟨i,hi,hsz⟩:=qct (P:=P) (t:=e) (by omega);have key:(Go.Op.equal t (.agg us) (.agg ws)).run P E.w=.ok b E.w:=by unfold Go.Op.equal;rw[show Go.Op.maxDepth=9998+1+1 from rfl,Go.run_equalIn_array E.w (9998+1) us ws ht hi,h1c,List.range_eq_range'];exact qwk hk n hul hwl hb (by simp) (by simp)
 have hgd:(Go.eqGuard op t x y (.agg us) (.agg ws)).run P E.w=.ok () E.w:=by unfold Go.eqGuard;rcases hop with⟨_,rfl⟩ | ⟨_,rfl⟩<;>simp[hg]
 refine Does.same hE (u:=.bool (if neg then !b else b)) ?_ (by unfold rel;rfl);rcases hop with⟨rfl,rfl⟩ | ⟨rfl,rfl⟩
 .simp[execOp,ho,hu,hw,hgd,Go.binOp,key]
 .simp[execOp,ho,hu,hw,hgd,Go.binOp,key]
theorem qzo{op:Go.BinOp}{t yt e:TypeId}{x:Operand}{x':A}{neg:Bool}(ho:o.op=.binOp op t x (.const (.slice none 0 0)) yt)(hop:(neg=false/\op=.eql)\/(neg=true/\op=.neq))(ht:P.underlying t=some (.slice e))
  (h1:cA x=some x') {v:V} {h':H} (hv:exO (.isnil neg x') s E.h=some (v,h')):Does P E a o v h':=by
 have r1:=qav hs h1;have run:∀ad len cap,a.eval x=.slice ad len cap->(execOp a.eval o).run P E.w=.ok (.value (.bool (if neg then !ad.isNone else ad.isNone))) E.w:=by
  intro ad len cap hu;have hgd:(Go.eqGuard op t x (.const (.slice none 0 0)) (.slice ad len cap) (.slice none 0 0)).run P E.w=.ok () E.w:=qil (by simp) (by simp);have heq:(Go.Op.equal t (.slice ad len cap) (.slice none 0 0)).run P E.w=.ok ad.isNone E.w:=by
   have hgen:∀n,(Go.Op.equalIn (n+1) t (.slice ad len cap) (.slice none 0 0)).run P E.w=.ok ad.isNone E.w:=by intro n;unfold Go.Op.equalIn;simp only[Sem.run_bind,Go.run_underlying ht,Go.Result.andThen_ok];cases ad<;>rfl
   exact hgen 9999
  have hc:a.eval (.const (.slice none 0 0))=.slice none 0 0:=rfl;rcases hop with⟨rfl,rfl⟩ | ⟨rfl,rfl⟩
  .simp[execOp,ho,hu,hc,hgd,Go.binOp,heq]
  .simp[execOp,ho,hu,hc,hgd,Go.binOp,heq]
 simp only[exO]at hv;cases hx:x'.ev s<;>rw[hx]at hv r1<;>simp only at hv<;>try (cases hv;done)
 case nils =>cases hv;unfold rel at r1;obtain⟨ad,hu⟩:=r1;exact Does.same hE (run _ _ _ hu) (by unfold rel;exact⟨_,rfl⟩)
 case nilx =>cases hv;unfold rel at r1;exact Does.same hE (run _ _ _ r1) (by unfold rel;cases neg<;>rfl)
 case imm els =>
  cases hv;unfold rel at r1;obtain⟨ad,cap,hu,_,_,h3⟩:=r1;refine Does.same hE (run _ _ _ hu) ?_;split
  .unfold rel;exact⟨_,rfl⟩
  .rename_i hne;rcases h3 with rfl | ⟨b,y,n,rfl,_⟩
   .exact absurd rfl hne
   .unfold rel;cases neg<;>rfl
 case sl id g m off len =>
  cases hv;unfold rel at r1;obtain⟨_,_,ad,cap,hu,hc1,hc2,_⟩:=r1;refine Does.same hE (run _ _ _ hu) ?_;split
  .unfold rel;exact⟨_,rfl⟩
  .rename_i hne;cases ad with
   | none=>have:=hc2 rfl;omega
   | some y=>unfold rel;cases neg<;>rfl
theorem qwi{op:Go.BinOp}{t yt e:TypeId}{x:Operand}{x':A}{neg:Bool}(ho:o.op=.binOp op t x (.const (.pointer none)) yt)(hop:(neg=false/\op=.eql)\/(neg=true/\op=.neq))(ht:P.underlying t=some (.pointer e))
  (h1:cA x=some x') {v:V} {h':H} (hv:exO (.isnilP neg x') s E.h=some (v,h')):Does P E a o v h':=by
 have r1:=qav hs h1;have run:∀ad,a.eval x=.pointer ad->(execOp a.eval o).run P E.w=.ok (.value (.bool (if neg then !ad.isNone else ad.isNone))) E.w:=by
  intro ad hu;have hgd:(Go.eqGuard op t x (.const (.pointer none)) (.pointer ad) (.pointer none)).run P E.w=.ok () E.w:=qil (by simp) (by simp);have heq:(Go.Op.equal t (.pointer ad) (.pointer none)).run P E.w=.ok ad.isNone E.w:=by
   have hgen:∀n,(Go.Op.equalIn (n+1) t (.pointer ad) (.pointer none)).run P E.w=.ok ad.isNone E.w:=by intro n;unfold Go.Op.equalIn;simp only[Sem.run_bind,Go.run_underlying ht,Go.Result.andThen_ok];cases ad<;>rfl
   exact hgen 9999
  have hc:a.eval (.const (.pointer none))=.pointer none:=rfl;rcases hop with⟨rfl,rfl⟩ | ⟨rfl,rfl⟩
  .simp[execOp,ho,hu,hc,hgd,Go.binOp,heq]
  .simp[execOp,ho,hu,hc,hgd,Go.binOp,heq]
 simp only[exO]at hv;cases hx:x'.ev s<;>rw[hx]at hv r1<;>simp only at hv<;>try (cases hv;done)
 case nilp =>cases hv;unfold rel at r1;exact Does.same hE (run _ r1) (by unfold rel;cases neg<;>rfl)
 case iptr cs =>cases hv;unfold rel at r1;obtain⟨b,y,hu,_⟩:=r1;exact Does.same hE (run _ hu) (by unfold rel;cases neg<;>rfl)
 case bptr i off =>cases hv;unfold rel at r1;obtain⟨_,b,y,hu,_⟩:=r1;exact Does.same hE (run _ hu) (by unfold rel;cases neg<;>rfl)
 case ptr i g el off =>cases hv;unfold rel at r1;obtain⟨_,_,b,y,hu,_⟩:=r1;exact Does.same hE (run _ hu) (by unfold rel;cases neg<;>rfl)
omit hs in
theorem q4o{t e:TypeId}{parts:Array (Nat×Operand)}(ho:o.op=.buildSlice t 0 parts)(ht:P.underlying t=some (.slice e))(hn0:P.cellsOf e≠0)(hp:parts.toList=[]):Does P E a o .nils E.h:=by
 obtain⟨i,hi,hsz⟩:=qct hn0;have hp':parts=#[]:=by rw[<-Array.toList_inj];simpa using hp
 obtain⟨k1,k2⟩:=qww hE (Grow.alloc E.w (.cells #[] e)) (S':=E.S) (fun _ h=>h) (fun _ h=>.inl h);refine⟨_,k1,k2,rfl,.value (.slice (some ⟨E.w.heap.size,0,none⟩) 0 0),?_,.inl ⟨_,rfl,by unfold rel;exact⟨_,rfl⟩⟩⟩;have hr:Array.map (fun(x:Nat)=>(default:Value)) (Array.range 0)=#[]:=by apply Array.ext<;>simp
 have hrow:(Go.newRow e #[]).run P E.w=.ok ⟨E.w.heap.size,0,none⟩ (E.w.alloc (.cells #[] e)):=rfl;simp[execOp,ho,hp',Go.Instr.buildSlice,Go.run_underlying ht,qbh hi,Go.Instr.fill];rw[hr,hrow];rfl
end
end Go.Am
