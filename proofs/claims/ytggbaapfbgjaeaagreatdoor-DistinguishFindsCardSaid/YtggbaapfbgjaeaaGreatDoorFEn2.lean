/- Slices of. -/
import Derived.Test.YtggbaapfbgjaeaaGreatDoorFEn1
import Derived.Control
import Derived.CallsIn
import Derived.RangeFuncIn
import Derived.RangeFuncBox
import Derived.Laws.World
import Derived.Laws.Rows
import Derived.Laws.Cells
import Derived.Laws.Small
import Derived.Laws.Strings
import Derived.Laws.StructEq
import Derived.Laws.Concat
import Derived.Laws.Slices
set_option linter.all false
set_option maxHeartbeats 4000000
namespace Go.Am
open Go (World Value Addr Obj Program)
structure Env where
 b:Nat->Option (Nat×Nat×Nat)
 S:Nat->Prop
 h:H
 w:World
def qgt(h:H)(id:Nat):Nat :=
 match h[id]? with
 | some o=>o.gen
 | none=>0
def qco:K->Nat
 | .arr n _=>n
 | .frz n _=>n
 | _=>0
def qmi:K->Nat
 | .arr _ els=>els.length
 | .frz _ els=>els.length
 | _=>0
def qje:K->Nat
 | .box _=>0
 | .arr _ _=>1
 | .frz _ _=>1
 | .map _=>2
 | .sit _ _=>3
 | .loop ..=>4
def K.isAF:K->Bool
 | .arr _ _=>true
 | .frz _ _=>true
 | _=>false
def K.isFrz:K->Bool
 | .frz _ _=>true
 | _=>false
def qls(f:Nat):Nat:=if f<500000 then f else f-500000
theorem qrr{f:Nat}(h:f<500000):qls f=f:=if_pos h
def FnV(f:Nat)(a c:Array Value)(u:Value):Prop:=(f<1000000/\u=.func (.func (qls f)) a c)\/(1000000<=f/\c=#[]/\∃w,a=#[w]/\u=.iface (f-1000000) w)
mutual
def rel(E:Env):V->Value->Prop
 | .undef,_=>True
 | .ub,u=>∃b,u=.bool b
 | .bool b,u=>u=.bool b
 | .int k n,u=>u=.int k n
 | .str s,u=>u=.string ⟨s.toArray⟩
 | .nils,u=>∃a,u=.slice a 0 0
 | .nilx,u=>u=.slice none 0 0
 | .imm els,u=>∃a cap,u=.slice a els.length cap/\els.length<=cap/\qce els=true/\(els=[]\/∃b o n,a=some ⟨b,o,none⟩/\0<n/\E.S b/\qak E n els b o)
 | .immc els,u=>∃a,u=.slice a els.length els.length/\qce els=true/\(els=[]\/∃b o n,a=some ⟨b,o,none⟩/\0<n/\E.S b/\qak E n els b o)
 | .iptr cells,u=>∃b o,u=.pointer (some ⟨b,o,none⟩)/\E.S b/\zjx cells=true/\qbb E cells b o
 | .bptr id off,u=>id<E.h.length/\∃b x,u=.pointer (some ⟨b,x,none⟩)/\∀o,E.h[id]?=some o->qje o.k=0->(∃C,E.b id=some (b,C))/\x=off
 | .ptr id g el off,u=>id<E.h.length/\g<=qgt E.h id/\∃b x,u=.pointer (some ⟨b,x,none⟩)/\∀o,E.h[id]?=some o->o.gen=g->qje o.k=1->∃C,E.b id=some (b,C)/\x=(C.2+el)*qco o.k+off
 | .sl id g n off len,u=>id<E.h.length/\g<=qgt E.h id/\∃a cap,u=.slice a len cap/\len<=cap/\(a=none->cap=0)/\(∀y,a=some y->cap≠0->y.spot=none)/\∀o,E.h[id]?=some o->o.gen=g->qje o.k=1->off+len<=qmi o.k/\n=qco o.k /\
   ((E.b id=none/\cap=0)\/∃b C x,E.b id=some (b,C)/\a=some ⟨b,x,none⟩/\cap=C.1-off/\(cap≠0\/off=0->x=(C.2+off)*n))
 | .bsl id off _ len,u=>id<E.h.length/\∃b x cap,u=.slice (some ⟨b,x,none⟩) len cap/\len<=cap/\(len≠0->∀o,E.h[id]?=some o->qje o.k=0->(∃C,E.b id=some (b,C))/\x=off)
 | .agg cs,u=>∃us,u=.agg us/\qaj E cs us.toList
 | .tup vs,u=>∃us,u=.tuple us/\qaj E vs us.toList
 | .fn f first caps,u=>∃a c,FnV f a c u/\qaj E first a.toList/\qaj E caps c.toList
 | .nilfn,u=>u=.nilFunc
 | .nilp,u=>u=.pointer none
 | .map id,u=>id<E.h.length/\∃b,u=.map (some b)/\∀o,E.h[id]?=some o->qje o.k=2->∃C,E.b id=some (b,C)
 | .sit id,u=>id<E.h.length/\∃b,u=.pointer (some ⟨b,0,none⟩)/\∀o,E.h[id]?=some o->qje o.k=3->∃C,E.b id=some (b,C)
 | .yld id,u=>id<E.h.length/\∃b,u=.func (.yield b) #[] #[]/\∀o,E.h[id]?=some o->qje o.k=4->∃C,E.b id=some (b,C)
 | .view p cells,u=>∃b o,E.S b/\qbb E cells b o/\((p=true/\u=.pointer (some ⟨b,o,none⟩))\/(p=false/\∃cap,u=.slice (some ⟨b,o,none⟩) cells.length cap/\cells.length<=cap))
def qaj(E:Env):List V->List Value->Prop
 | [],us=>us=[]
 | v :: vs,us=>∃u us',us=u :: us'/\rel E v u/\qaj E vs us'
def qbb(E:Env):List V->Nat->Nat->Prop
 | [],_,_=>True
 | v :: vs,b,o=>(∃u,E.w.cell? ⟨b,o,none⟩=some u/\rel E v u)/\qbb E vs b (o+1)
def qak(E:Env)(n:Nat):List (List V)->Nat->Nat->Prop
 | [],_,_=>True
 | r :: rs,b,o=>r.length=n/\qbb E r b o/\qak E n rs b (o+n)
end
def qjl(E:Env):List (V×V)->List Go.MapEntry->Prop
 | [],es=>es=[]
 | (k,v) :: r,es=>∃e es',es=e :: es'/\rel E k e.key/\rel E v e.val/\k.scal1=true/\v.scal1=true/\qjl E r es'
def q6b:X->Option Go.Code
 | .normal=>none
 | .exit id=>some (.exit id)
 | .ret=>some .ret
def qem(P:Program)(E:Env)(id:Nat)(o:Ob):Prop :=
 match o.k with
 | .box cells=>E.b id=none\/∃b C cs ty,E.b id=some (b,C)/\¬E.S b/\E.w.heap[b]?=some (.cells cs ty (0,0))/\cs.size=cells.length/\qbb E cells b 0
 | .arr n els=>qce els=true/\((E.b id=none/\els=[])\/∃b C cs ty,E.b id=some (b,C)/\¬E.S b/\E.w.heap[b]?=some (.cells cs ty (0,0))/\0<n/\cs.size=(C.2+C.1)*n/\els.length<=C.1/\qak E n els b (C.2*n))
 | .frz n els=>qce els=true/\((E.b id=none/\els=[])\/∃b C cs ty,E.b id=some (b,C)/\E.S b/\E.w.heap[b]?=some (.cells cs ty (0,0))/\0<n/\cs.size=(C.2+C.1)*n/\els.length<=C.1/\qak E n els b (C.2*n))
 | .map es=>∃b C ms clock,E.b id=some (b,C)/\¬E.S b/\E.w.heap[b]?=some (.map ms clock)/\qjl E es ms.toList
 | .sit s pos=>∃b C,E.b id=some (b,C)/\¬E.S b/\E.w.heap[b]?=some (.stringIter ⟨s.toArray⟩ pos)
 | .loop sl ps a c p=>∃b C L,E.b id=some (b,C)/\¬E.S b/\E.w.heap[b]?=some (.loop L)/\qaj E sl L.tmps.toList/\L.params.toList=ps/\(∃m,qcj m P L.assign=a/\qcj m P L.body=c) /\
   (match p with
     | none=>L.state=.ready/\L.pending=none
     | some .normal=>True
     | some x=>L.state=.done/\L.pending=q6b x)
def Mut(E:Env)(b:Nat):Prop:=∃id o C,E.h[id]?=some o/\E.b id=some (b,C)/\o.k.isFrz=false
structure Ok(P:Program)(E:Env):Prop where
 obj:∀id o,E.h[id]?=some o->qem P E id o
 inj:∀id id' o o' b C C',E.h[id]?=some o->E.h[id']?=some o'->o.k.isFrz=false->o'.k.isFrz=false->E.b id=some (b,C)->E.b id'=some (b,C')->id=id'
 S:∀b,E.S b->b<E.w.heap.size
structure Ext0(E E':Env):Prop where
 S:∀b,E.S b->E'.S b
 size:E.w.heap.size<=E'.w.heap.size
 keep:∀b,b<E.w.heap.size->¬Mut E b->E'.w.heap[b]?=E.w.heap[b]?
 muts:∀b,b<E.w.heap.size->Mut E' b->Mut E b
 len:E.h.length<=E'.h.length
 gen:∀id,id<E.h.length->qgt E.h id<=qgt E'.h id
 obj:∀id o',id<E.h.length->E'.h[id]?=some o'->o'.gen=qgt E.h id\/qje o'.k≠1->∃o,E.h[id]?=some o/\qje o'.k=qje o.k/\qco o'.k=qco o.k/\qmi o.k<=qmi o'.k /\
  (∀x,E.b id=some x->E'.b id=some x)/\(qje o.k≠0->E'.b id=E.b id)
 os:E'.w.os=E.w.os
 output:E'.w.output=E.w.output
 tags:∀id o',id<E.h.length->E'.h[id]?=some o'->∃o,E.h[id]?=some o/\qje o'.k=qje o.k
structure Ext(E E':Env):Prop extends Ext0 E E' where
 back:∀b,b<E.w.heap.size->E'.S b->E.S b\/Mut E b
 free:∀id g cells,E.h[id]?=some ⟨g,.box cells⟩->E.b id=none->qeq id cells=true->E'.h[id]?=some ⟨g,.box cells⟩/\E'.b id=none
instance{E E':Env}:Coe (Ext E E') (Ext0 E E'):=⟨Ext.toExt0⟩
theorem Mut.of_not_S{P:Program}{E:Env}(hE:Ok P E){b:Nat}(hb:E.S b):¬Mut E b:=by
 rintro⟨id,o,C,ho,hbd,hf⟩;have h:=hE.obj id o ho;unfold qem at h;cases hk:o.k with
 | box cells =>
  rw[hk]at h;rcases h with h | ⟨b',C',cs,ty,h1,h2,_⟩
  .rw[hbd]at h;cases h
  .rw[hbd]at h1;cases h1;exact h2 hb
 | arr n els =>
  rw[hk]at h;rcases h.2 with h | ⟨b',C',cs,ty,h1,h2,_⟩
  .rw[hbd]at h;cases h.1
  .rw[hbd]at h1;cases h1;exact h2 hb
 | frz n els=>rw[hk]at hf;cases hf
 | map es=>rw[hk]at h;obtain⟨b',C',ms,cl,h1,h2,_⟩:=h;rw[hbd]at h1;cases h1;exact h2 hb
 | sit s p=>rw[hk]at h;obtain⟨b',C',h1,h2,_⟩:=h;rw[hbd]at h1;cases h1;exact h2 hb
 | loop sl ps a c p=>rw[hk]at h;obtain⟨b',C',L,h1,h2,_⟩:=h;rw[hbd]at h1;cases h1;exact h2 hb
theorem Ext.refl(E:Env):Ext E E :=
 ⟨⟨fun _ h=>h,jD _,fun _ _ _=>rfl,fun _ _ h=>h,jD _,fun _ _=>jD _,
   fun _ o' _ ho _=>⟨o',ho,rfl,rfl,jD _,fun _ h=>h,fun _=>rfl⟩,rfl,rfl,fun _ o' _ h=>⟨o',h,rfl⟩⟩,fun _ _ h=>.inl h,fun _ _ _ h1 h2 _=>⟨h1,h2⟩⟩
theorem Ext.trans{E E' E'':Env}(h:Ext E E')(k:Ext E' E''):Ext E E'' where
 S:=fun b hb=>k.S b (h.S b hb)
 size:=Nat.le_trans h.size k.size
 keep:=fun b hb hm=>(k.keep b (jS hb h.size) (fun hm'=>hm (h.muts b hb hm'))).trans (h.keep b hb hm)
 muts:=fun b hb hm=>h.muts b hb (k.muts b (jS hb h.size) hm)
 len:=Nat.le_trans h.len k.len
 gen:=fun id hid=>Nat.le_trans (h.gen id hid) (k.gen id (jS hid h.len))
 obj:=fun id o'' hid ho hg=>by
  have hid':=jS hid h.len;have h3:qgt E''.h id=o''.gen:=by simp[qgt,ho]
  have h1:=h.gen id hid;have h2:=k.gen id hid';have hg1:o''.gen=qgt E'.h id\/qje o''.k≠1:=hg.imp (fun e=>by omega) (fun e=>e);obtain⟨o',ho',t1,s1,l1,b1,c1⟩:=k.obj id o'' hid' ho hg1;have h4:qgt E'.h id=o'.gen:=by simp[qgt,ho']
  have hg2:o'.gen=qgt E.h id\/qje o'.k≠1:=hg.imp (fun e=>by omega) (fun e=>by omega);obtain⟨o,ho0,t2,s2,l2,b2,c2⟩:=h.obj id o' hid ho' hg2;exact⟨o,ho0,t1.trans t2,s1.trans s2,Nat.le_trans l2 l1,fun x hx=>b1 x (b2 x hx),fun ht=>(c1 (by rw[t2];exact ht)).trans (c2 ht)⟩
 os:=k.os.trans h.os
 output:=k.output.trans h.output
 tags:=fun id o'' hid ho=>by obtain⟨o',h1,h2⟩:=k.tags id o'' (jS hid h.len) ho;obtain⟨o,h3,h4⟩:=h.tags id o' hid h1;exact⟨o,h3,h2.trans h4⟩
 back:=fun b hb hS=>by
  rcases k.back b (jS hb h.size) hS with hS | hm
  .exact h.back b hb hS
  .exact .inr (h.muts b hb hm)
 free:=fun id g cells h1 h2 h3=>by obtain⟨h4,h5⟩:=h.free id g cells h1 h2 h3;exact k.free id g cells h4 h5 h3
theorem cell_of_heap{w w':World}{b o:Nat}(h:w'.heap[b]?=w.heap[b]?):w'.cell? ⟨b,o,none⟩=w.cell? ⟨b,o,none⟩:=by simp[World.cell?,h]
mutual
theorem qda{P:Program}{E E':Env}(hE:Ok P E)(x:Ext0 E E'):∀(v:V) (u:Value),rel E v u->rel E' v u
 | .undef,_,_=>by unfold rel;trivial
 | .bool b,u,h=>by unfold rel at *;exact h
 | .int k n,u,h=>by unfold rel at *;exact h
 | .str s,u,h=>by unfold rel at *;exact h
 | .nils,u,h=>by unfold rel at *;exact h
 | .nilx,u,h=>by unfold rel at *;exact h
 | .imm els,u,h=>by
  unfold rel at *;obtain⟨a,cap,h1,hc,h2,h3⟩:=h;refine⟨a,cap,h1,hc,h2,?_⟩;rcases h3 with h3 | ⟨b,o,n,h4,h5,h6,h7⟩
  .exact .inl h3
  .exact .inr ⟨b,o,n,h4,h5,x.S b h6,qfh hE x els n b o (x.keep b (hE.S b h6) (Mut.of_not_S hE h6)) h7⟩
 | .immc els,u,h=>by
  unfold rel at *;obtain⟨a,h1,h2,h3⟩:=h;refine⟨a,h1,h2,?_⟩;rcases h3 with h3 | ⟨b,o,n,h4,h5,h6,h7⟩
  .exact .inl h3
  .exact .inr ⟨b,o,n,h4,h5,x.S b h6,qfh hE x els n b o (x.keep b (hE.S b h6) (Mut.of_not_S hE h6)) h7⟩
 | .iptr cells,u,h=>by unfold rel at *;obtain⟨b,o,h1,h2,h3,h4⟩:=h;exact⟨b,o,h1,x.S b h2,h3,qng hE x cells b o (x.keep b (hE.S b h2) (Mut.of_not_S hE h2)) h4⟩
 | .bptr id off,u,h=>by unfold rel at *;obtain⟨h1,b,y,hu,h3⟩:=h;refine⟨jS h1 x.len,b,y,hu,fun o' ho' ht=>?_⟩;obtain⟨o,ho,t,s,l,b1,_⟩:=x.obj id o' h1 ho' (.inr (by omega));obtain⟨⟨C,hb⟩,hx⟩:=h3 o ho (by rw[<-t];exact ht);exact⟨⟨C,b1 _ hb⟩,hx⟩
 | .bsl id off n len,u,h=>by unfold rel at *;obtain⟨h1,b,y,cap,hu,hc,h3⟩:=h;refine⟨jS h1 x.len,b,y,cap,hu,hc,fun hl o' ho' ht=>?_⟩;obtain⟨o,ho,t,s,l,b1,_⟩:=x.obj id o' h1 ho' (.inr (by omega));obtain⟨⟨C,hb⟩,hx⟩:=h3 hl o ho (by rw[<-t];exact ht);exact⟨⟨C,b1 _ hb⟩,hx⟩
 | .ptr id g el off,u,h=>by
  unfold rel at *;obtain⟨h1,h2,b,y,hu,h3⟩:=h;refine⟨jS h1 x.len,Nat.le_trans h2 (x.gen id h1),b,y,hu,fun o' ho' hg ht=>?_⟩;have h4:o'.gen=qgt E.h id:=by
   have:=x.gen id h1;have e:qgt E'.h id=o'.gen:=by simp[qgt,ho']
   omega
  obtain⟨o,ho,t,s,l,b1,_⟩:=x.obj id o' h1 ho' (.inl h4);have e2:qgt E.h id=o.gen:=by simp[qgt,ho]
  have hgo:o.gen=g:=by omega
  obtain⟨C,hb,hx⟩:=h3 o ho hgo (by rw[<-t];exact ht);exact⟨C,b1 _ hb,by rw[s];exact hx⟩
 | .sl id g n off len,u,h=>by
  unfold rel at *;obtain⟨h1,h2,a,cap,hu,hc1,hc2,hc3,h3⟩:=h;refine⟨jS h1 x.len,Nat.le_trans h2 (x.gen id h1),a,cap,hu,hc1,hc2,hc3,fun o' ho' hg ht=>?_⟩;have h4:o'.gen=qgt E.h id:=by
   have:=x.gen id h1;have e:qgt E'.h id=o'.gen:=by simp[qgt,ho']
   omega
  obtain⟨o,ho,t,s,l,b1,b2⟩:=x.obj id o' h1 ho' (.inl h4);have e2:qgt E.h id=o.gen:=by simp[qgt,ho]
  have hgo:o.gen=g:=by omega
  obtain⟨h5,h5',h6⟩:=h3 o ho hgo (by rw[<-t];exact ht);have hb:=b2 (by rw[<-t,ht];decide);refine⟨by omega,by rw[s];exact h5',?_⟩;rw[hb];exact h6
 | .agg cs,u,h=>by unfold rel at *;obtain⟨us,h1,h2⟩:=h;exact⟨us,h1,qba hE x cs us.toList h2⟩
 | .tup cs,u,h=>by unfold rel at *;obtain⟨us,h1,h2⟩:=h;exact⟨us,h1,qba hE x cs us.toList h2⟩
 | .fn f a c,u,h=>by unfold rel at *;obtain⟨a',c',h1,h2,h3⟩:=h;exact⟨a',c',h1,qba hE x a a'.toList h2,qba hE x c c'.toList h3⟩
 | .ub,u,h=>by unfold rel at *;exact h
 | .nilfn,u,h=>by unfold rel at *;exact h
 | .nilp,u,h=>by unfold rel at *;exact h
 | .map id,u,h=>by unfold rel at *;obtain⟨h1,b,hu,h3⟩:=h;refine⟨jS h1 x.len,b,hu,fun o' ho' ht=>?_⟩;obtain⟨o,ho,t,s,l,b1,_⟩:=x.obj id o' h1 ho' (.inr (by omega));obtain⟨C,hb⟩:=h3 o ho (by omega);exact⟨C,b1 _ hb⟩
 | .sit id,u,h=>by unfold rel at *;obtain⟨h1,b,hu,h3⟩:=h;refine⟨jS h1 x.len,b,hu,fun o' ho' ht=>?_⟩;obtain⟨o,ho,t,s,l,b1,_⟩:=x.obj id o' h1 ho' (.inr (by omega));obtain⟨C,hb⟩:=h3 o ho (by omega);exact⟨C,b1 _ hb⟩
 | .yld id,u,h=>by unfold rel at *;obtain⟨h1,b,hu,h3⟩:=h;refine⟨jS h1 x.len,b,hu,fun o' ho' ht=>?_⟩;obtain⟨o,ho,t,s,l,b1,_⟩:=x.obj id o' h1 ho' (.inr (by omega));obtain⟨C,hb⟩:=h3 o ho (by omega);exact⟨C,b1 _ hb⟩
 | .view p cells,u,h=>by unfold rel at *;obtain⟨b,o,h1,h2,h3⟩:=h;exact⟨b,o,x.S b h1,qng hE x cells b o (x.keep b (hE.S b h1) (Mut.of_not_S hE h1)) h2,h3⟩
theorem qba{P:Program}{E E':Env}(hE:Ok P E)(x:Ext0 E E'):∀(vs:List V) (us:List Value),qaj E vs us->qaj E' vs us
 | [],us,h=>by unfold qaj at *;exact h
 | v :: vs,us,h=>by unfold qaj at *;obtain⟨u,us',h1,h2,h3⟩:=h;exact⟨u,us',h1,qda hE x v u h2,qba hE x vs us' h3⟩
theorem qng{P:Program}{E E':Env}(hE:Ok P E)(x:Ext0 E E'):∀(vs:List V) (b o:Nat),E'.w.heap[b]?=E.w.heap[b]?->qbb E vs b o->qbb E' vs b o
 | [],_,_,_,_=>by unfold qbb;trivial
 | v :: vs,b,o,hb,h=>by unfold qbb at *;obtain⟨⟨u,h1,h2⟩,h3⟩:=h;exact⟨⟨u,(cell_of_heap hb).trans h1,qda hE x v u h2⟩,qng hE x vs b (o+1) hb h3⟩
theorem qfh{P:Program}{E E':Env}(hE:Ok P E)(x:Ext0 E E'):∀(rs:List (List V)) (n b o:Nat),E'.w.heap[b]?=E.w.heap[b]?->qak E n rs b o->qak E' n rs b o
 | [],_,_,_,_,_=>by unfold qak;trivial
 | r :: rs,n,b,o,hb,h=>by unfold qak at *;obtain⟨h1,h2,h3⟩:=h;exact⟨h1,qng hE x r b o hb h2,qfh hE x rs n b (o+n) hb h3⟩
end
theorem qec{w:World}{b:Nat}{o:Obj}(h:w.heap[b]?=some o):b<w.heap.size:=(Array.getElem?_eq_some_iff.1 h).1
theorem qbe{h:H}{id:Nat}{o:Ob}(e:h[id]?=some o):id<h.length:=(jG.1 e).1
theorem Ok.bound{P:Program}{E:Env}(hE:Ok P E){id b:Nat}{C:Nat×Nat}{o:Ob}(ho:E.h[id]?=some o)(hb:E.b id=some (b,C)):b<E.w.heap.size:=by
 have h:=hE.obj id o ho;unfold qem at h;cases hk:o.k<;>rw[hk]at h
 case box cells =>
  rcases h with h | ⟨b',C',cs,ty,h1,h2,h3,_⟩
  .rw[hb]at h;cases h
  .rw[hb]at h1;cases h1;exact qec h3
 case arr n els =>
  rcases h.2 with h | ⟨b',C',cs,ty,h1,h2,h3,_⟩
  .rw[hb]at h;cases h.1
  .rw[hb]at h1;cases h1;exact qec h3
 case frz n els =>
  rcases h.2 with h | ⟨b',C',cs,ty,h1,h2,h3,_⟩
  .rw[hb]at h;cases h.1
  .rw[hb]at h1;cases h1;exact qec h3
 case map es=>obtain⟨b',C',ms,cl,h1,h2,h3,_⟩:=h;rw[hb]at h1;cases h1;exact qec h3
 case sit s p=>obtain⟨b',C',h1,h2,h3⟩:=h;rw[hb]at h1;cases h1;exact qec h3
 case loop sl ps a c p=>obtain⟨b',C',L,h1,h2,h3,_⟩:=h;rw[hb]at h1;cases h1;exact qec h3
theorem Ok.notS{P:Program}{E:Env}(hE:Ok P E){id b:Nat}{C:Nat×Nat}{o:Ob}(ho:E.h[id]?=some o)(hf:o.k.isFrz=false)(hb:E.b id=some (b,C)):¬E.S b :=
 fun hS=>Mut.of_not_S hE hS ⟨id,o,C,ho,hb,hf⟩
theorem qrt{P:Program}{E E':Env}(hE:Ok P E)(x:Ext0 E E'):∀(es:List (V×V)) (ms:List Go.MapEntry),qjl E es ms->qjl E' es ms
 | [],_,h=>h
 | (k,v) :: r,ms,h=>by obtain⟨e,es',h1,h2,h3,h4,h5,h6⟩:=h;exact⟨e,es',h1,qda hE x k _ h2,qda hE x v _ h3,h4,h5,qrt hE x r es' h6⟩
theorem q0q{P:Program}{E E':Env}(hE:Ok P E)(x:Ext0 E E'){id:Nat}{o:Ob}(ho:qem P E id o)(hb:E'.b id=E.b id)
  (hk:∀b C,E.b id=some (b,C)->E'.w.heap[b]?=E.w.heap[b]?/\(o.k.isFrz=false->¬E'.S b)):qem P E' id o:=by
 unfold qem at ho ⊢;cases e:o.k<;>rw[e]at ho hk<;>simp only
 case box cells =>
  rcases ho with h | ⟨b,C,cs,ty,h1,h2,h3,h4,h5⟩
  .exact .inl (hb.trans h)
  .obtain⟨q1,q2⟩:=hk b C h1;exact .inr ⟨b,C,cs,ty,hb.trans h1,q2 rfl,q1.trans h3,h4,qng hE x _ _ _ q1 h5⟩
 case arr n els =>
  refine⟨ho.1,?_⟩;rcases ho.2 with h | ⟨b,C,cs,ty,h1,h2,h3,h4,h5,h6,h7⟩
  .exact .inl ⟨hb.trans h.1,h.2⟩
  .obtain⟨q1,q2⟩:=hk b C h1;exact .inr ⟨b,C,cs,ty,hb.trans h1,q2 rfl,q1.trans h3,h4,h5,h6,qfh hE x _ _ _ _ q1 h7⟩
 case frz n els =>
  refine⟨ho.1,?_⟩;rcases ho.2 with h | ⟨b,C,cs,ty,h1,h2,h3,h4,h5,h6,h7⟩
  .exact .inl ⟨hb.trans h.1,h.2⟩
  .obtain⟨q1,q2⟩:=hk b C h1;exact .inr ⟨b,C,cs,ty,hb.trans h1,x.S b h2,q1.trans h3,h4,h5,h6,qfh hE x _ _ _ _ q1 h7⟩
 case map es =>obtain⟨b,C,ms,cl,h1,h2,h3,h4⟩:=ho;obtain⟨q1,q2⟩:=hk b C h1;exact⟨b,C,ms,cl,hb.trans h1,q2 rfl,q1.trans h3,qrt hE x _ _ h4⟩
 case sit s p =>obtain⟨b,C,h1,h2,h3⟩:=ho;obtain⟨q1,q2⟩:=hk b C h1;exact⟨b,C,hb.trans h1,q2 rfl,q1.trans h3⟩
 case loop sl ps a c p =>obtain⟨b,C,L,h1,h2,h3,h4,h5,h6,h7⟩:=ho;obtain⟨q1,q2⟩:=hk b C h1;exact⟨b,C,L,hb.trans h1,q2 rfl,q1.trans h3,qba hE x _ _ h4,h5,h6,h7⟩
theorem qhs{P:Program}{E E':Env}(hE:Ok P E)(x:Ext E E'){id:Nat}{o:Ob}(ho:qem P E id o)(hb:E'.b id=E.b id)
  (hk:∀b C,E.b id=some (b,C)->E'.w.heap[b]?=E.w.heap[b]?/\(o.k.isFrz=false->¬E'.S b)):qem P E' id o:=q0q hE x.toExt0 ho hb hk
structure Grow(w w':World):Prop where
 size:w.heap.size<=w'.heap.size
 keep:∀b,b<w.heap.size->w'.heap[b]?=w.heap[b]?
 os:w'.os=w.os
 output:w'.output=w.output
theorem Grow.refl(w:World):Grow w w:=⟨jD _,fun _ _=>rfl,rfl,rfl⟩
theorem Grow.alloc(w:World)(o:Obj):Grow w (w.alloc o) :=
 ⟨by simp,fun b hb=>Go.heap_alloc_old w o b hb,rfl,rfl⟩
theorem Grow.drew(w:World):Grow w w.drew:=⟨jD _,fun _ _=>rfl,rfl,rfl⟩
theorem Grow.trans{a b c:World}(h:Grow a b)(k:Grow b c):Grow a c :=
 ⟨Nat.le_trans h.size k.size,fun i hi=>(k.keep i (jS hi h.size)).trans (h.keep i hi),k.os.trans h.os,k.output.trans h.output⟩
theorem qww{P:Program}{E:Env}(hE:Ok P E){w':World}(hg:Grow E.w w'){S':Nat->Prop}(h1:∀b,E.S b->S' b)
  (h2:∀b,S' b->E.S b\/(E.w.heap.size<=b/\b<w'.heap.size)):Ok P ⟨E.b,S',E.h,w'⟩/\Ext E ⟨E.b,S',E.h,w'⟩:=by
 have x:Ext E ⟨E.b,S',E.h,w'⟩ :=
  ⟨⟨h1,hg.size,fun b hb _=>hg.keep b hb,fun _ _ h=>h,jD _,fun _ _=>jD _,
    fun _ o' _ ho _=>⟨o',ho,rfl,rfl,jD _,fun _ h=>h,fun _=>rfl⟩,hg.os,hg.output,fun _ o' _ h=>⟨o',h,rfl⟩⟩,
    fun b hb hS=>.inl ((h2 b hS).resolve_right fun h=>by omega),fun _ _ _ h1 h2 _=>⟨h1,h2⟩⟩
 refine⟨⟨fun id o ho=>qhs hE x (hE.obj id o ho) rfl fun b C hb=>⟨hg.keep b (hE.bound ho hb),fun hf hS=>?_⟩,hE.inj,fun b hb=>?_⟩,x⟩
 .rcases h2 b hS with h | h
  .exact hE.notS ho hf hb h
  .have:=hE.bound ho hb;omega
 .rcases h2 b hb with h | h
  .exact jS (hE.S b h) hg.size
  .exact h.2
theorem qhe{P:Program}{E:Env}(hE:Ok P E){w':World}(hg:Grow E.w w')(o:Ob)(bd:Option (Nat×Nat×Nat))(hbd:∀b C,bd=some (b,C)->E.w.heap.size<=b/\b<w'.heap.size)
  (hrel:Ext E ⟨fun i=>if i=E.h.length then bd else E.b i,E.S,E.h++[o],w'⟩->qem P ⟨fun i=>if i=E.h.length then bd else E.b i,E.S,E.h++[o],w'⟩ E.h.length o) :
  Ok P ⟨fun i=>if i=E.h.length then bd else E.b i,E.S,E.h++[o],w'⟩/\Ext E ⟨fun i=>if i=E.h.length then bd else E.b i,E.S,E.h++[o],w'⟩:=by
 have hne:∀id,id<E.h.length->(if id=E.h.length then bd else E.b id)=E.b id:=fun id h=>if_neg (by omega);have hget:∀id,id<E.h.length->(E.h++[o])[id]?=E.h[id]?:=fun id h=>jI h;have hnew:∀id o',(E.h++[o])[id]?=some o'->(id<E.h.length/\E.h[id]?=some o')\/(id=E.h.length/\o'=o):=by
  intro id o' h;by_cases hlt:id<E.h.length
  .exact .inl ⟨hlt,by rw[<-hget id hlt];exact h⟩
  .rw[jJ (by omega)]at h;have:id-E.h.length=0:=by
    have:=(jG.1 h).1;simp at this;omega
   rw[this]at h;simp at h;exact .inr ⟨by omega,h.symm⟩
 have x:Ext E ⟨fun i=>if i=E.h.length then bd else E.b i,E.S,E.h++[o],w'⟩:=by
  refine⟨⟨fun _ h=>h,hg.size,fun b hb _=>hg.keep b hb,fun b hb hm=>?_,by simp,fun id hid=>?_,fun id o' hid ho' _=>?_,hg.os,hg.output,fun id o' hid ho'=>⟨o',by rw[<-hget id hid];exact ho',rfl⟩⟩,fun _ _ h=>.inl h,fun i _ _ h1 h2 _=>⟨by rw[hget i (qbe h1)];exact h1,by rw[<-h2];exact hne i (qbe h1)⟩⟩
  .obtain⟨id,o',C,h1,h2,h3⟩:=hm;rcases hnew id o' h1 with⟨hlt,h4⟩ | ⟨rfl,rfl⟩
   .exact⟨id,o',C,h4,by rw[<-hne id hlt];exact h2,h3⟩
   .simp only[if_true]at h2;have:=hbd b C h2;omega
  .simp only[qgt,hget id hid];exact jD _
  .refine⟨o',?_,rfl,rfl,jD _,fun y hy=>?_,fun _=>hne id hid⟩
   .rw[<-hget id hid];exact ho'
   .simp only[hne id hid];exact hy
 refine⟨⟨fun id o' ho'=>?_,?_,fun b hb=>jS (hE.S b hb) hg.size⟩,x⟩
 .rcases hnew id o' ho' with⟨hlt,h4⟩ | ⟨rfl,rfl⟩
  .exact qhs hE x (hE.obj id o' h4) (hne id hlt) fun b C hb=>⟨hg.keep b (hE.bound h4 hb),fun hf=>hE.notS h4 hf hb⟩
  .exact hrel x
 .intro id id' o1 o2 b C C' h1 h2 f1 f2 b1 b2;rcases hnew id o1 h1 with⟨l1,g1⟩ | ⟨rfl,rfl⟩<;>rcases hnew id' o2 h2 with⟨l2,g2⟩ | ⟨rfl,rfl⟩
  .simp only[hne id l1]at b1;simp only[hne id' l2]at b2;exact hE.inj id id' o1 o2 b C C' g1 g2 f1 f2 b1 b2
  .simp only[hne id l1]at b1;simp only[if_true]at b2;have:=hE.bound g1 b1;have:=hbd b C' b2;omega
  .simp only[hne id' l2]at b2;simp only[if_true]at b1;have:=hE.bound g2 b2;have:=hbd b C b1;omega
  .rfl
theorem qkz{P:Program}{E:Env}(hE:Ok P E){id:Nat}{o o':Ob}(ho:E.h[id]?=some o)(hnf:o.k.isFrz=false)(hfree:∀cells,o.k=.box cells->E.b id=none->qeq id cells=true->False){w':World}(hsz:E.w.heap.size<=w'.heap.size)
  (hw:∀b,b<E.w.heap.size->(∀C,E.b id≠some (b,C))->w'.heap[b]?=E.w.heap[b]?) (hos:w'.os=E.w.os) (hout:w'.output=E.w.output)
  (bd:Option (Nat×Nat×Nat)) (hbd:∀b C,bd=some (b,C)->(∃C',E.b id=some (b,C'))\/(E.w.heap.size<=b/\b<w'.heap.size))
  (hg:o.gen<=o'.gen) (ht:qje o'.k=qje o.k) (hs:o'.gen=o.gen\/qje o.k≠1->qco o'.k=qco o.k/\qmi o.k<=qmi o'.k/\bd=E.b id)
  (hrel:Ext E ⟨fun i=>if i=id then bd else E.b i,E.S,E.h.set id o',w'⟩->qem P ⟨fun i=>if i=id then bd else E.b i,E.S,E.h.set id o',w'⟩ id o') :
  Ok P ⟨fun i=>if i=id then bd else E.b i,E.S,E.h.set id o',w'⟩/\Ext E ⟨fun i=>if i=id then bd else E.b i,E.S,E.h.set id o',w'⟩:=by
 have hlt:=qbe ho;have hself:(E.h.set id o')[id]?=some o':=by simp[hlt]
 have hoth:∀i,i≠id->(E.h.set id o')[i]?=E.h[i]?:=fun i hi=>jO (Ne.symm hi);have x:Ext E ⟨fun i=>if i=id then bd else E.b i,E.S,E.h.set id o',w'⟩:=by
  refine⟨⟨fun _ h=>h,hsz,fun b hb hm=>hw b hb fun C hC=>hm ⟨id,o,C,ho,hC,hnf⟩,fun b hb hm=>?_,by simp,fun i hi=>?_,fun i o1 hi ho1 hc=>?_,hos,hout,fun i o1 hi ho1=>?_⟩,fun _ _ h=>.inl h,fun i g cells h1 h2 h3=>?_⟩
  .obtain⟨i,o1,C,h1,h2,h3⟩:=hm;by_cases hi:i=id
   .subst hi;simp only[if_true]at h2;rcases hbd b C h2 with⟨C',hC'⟩ | h
    .exact⟨i,o,C',ho,hC',hnf⟩
    .omega
   .simp only[if_neg hi]at h2;exact⟨i,o1,C,by rw[<-hoth i hi];exact h1,h2,h3⟩
  .by_cases hi':i=id
   .subst hi';simp only[qgt,hself,ho];exact hg
   .simp only[qgt,hoth i hi'];exact jD _
  .by_cases hi':i=id
   .subst hi';rw[hself]at ho1;cases ho1;have hc':o'.gen=o.gen\/qje o.k≠1:=hc.imp (fun e=>by rw[e];simp[qgt,ho]) (fun e=>by omega);obtain⟨s1,s2,s3⟩:=hs hc';exact⟨o,ho,ht,s1,s2,fun y hy=>by simp only[if_true];rw[s3];exact hy,fun _=>by simp only[if_true];exact s3⟩
   .exact⟨o1,by rw[<-hoth i hi'];exact ho1,rfl,rfl,jD _,fun y hy=>by simp only[if_neg hi'];exact hy,fun _=>if_neg hi'⟩
  .by_cases hi':i=id
   .subst hi';rw[hself]at ho1;cases ho1;exact⟨o,ho,ht⟩
   .exact⟨o1,by rw[<-hoth i hi'];exact ho1,rfl⟩
  .by_cases hi':i=id
   .subst hi';rw[ho]at h1;cases h1;exact(hfree _ rfl h2 h3).elim
   .exact⟨by rw[hoth i hi'];exact h1,by simp only[if_neg hi'];exact h2⟩
 refine⟨⟨fun i o1 ho1=>?_,?_,fun b hb=>jS (hE.S b hb) hsz⟩,x⟩
 .by_cases hi:i=id
  .subst hi;rw[hself]at ho1;cases ho1;exact hrel x
  .have h1:E.h[i]?=some o1:=by rw[<-hoth i hi];exact ho1
   by_cases hf:o1.k.isFrz=true
   .-- frozen: its block is none of the turned object's
    refine qhs hE x (hE.obj i o1 h1) (if_neg hi) fun b C hb=>⟨hw b (hE.bound h1 hb) fun C' hC'=>?_,fun h=>absurd (h.symm.trans hf) (by decide)⟩
    have hS:E.S b:=by
     have hr:=hE.obj i o1 h1;unfold qem at hr;cases hk:o1.k<;>rw[hk]at hr hf<;>try (simp[K.isFrz]at hf;done)
     rcases hr.2 with h | ⟨b',C'',cs,ty,q1,q2,_⟩
     .rw[hb]at h;cases h.1
     .rw[hb]at q1;cases q1;exact q2
    exact hE.notS ho hnf hC' hS
   .have hf':o1.k.isFrz=false:=by simpa using hf
    refine qhs hE x (hE.obj i o1 h1) (if_neg hi) fun b C hb=>⟨hw b (hE.bound h1 hb) fun C' hC'=>hi (hE.inj i id o1 o b C C' h1 ho hf' hnf hb hC'),fun hf=>hE.notS h1 hf hb⟩
 .intro i j o1 o2 b C C' h1 h2 f1 f2 b1 b2;by_cases hi:i=id<;>by_cases hj:j=id
  .rw[hi,hj]
  .subst hi;simp only[if_true]at b1;simp only[if_neg hj]at b2;have h2':E.h[j]?=some o2:=by rw[<-hoth j hj];exact h2
   rcases hbd b C b1 with⟨C'',h⟩ | h
   .exact absurd (hE.inj j i o2 o b C' C'' h2' ho f2 hnf b2 h) hj
   .have:=hE.bound h2' b2;omega
  .subst hj;simp only[if_true]at b2;simp only[if_neg hi]at b1;have h1':E.h[i]?=some o1:=by rw[<-hoth i hi];exact h1
   rcases hbd b C' b2 with⟨C'',h⟩ | h
   .exact absurd (hE.inj i j o1 o b C C'' h1' ho f1 hnf b1 h) hi
   .have:=hE.bound h1' b1;omega
  .simp only[if_neg hi]at b1;simp only[if_neg hj]at b2;exact hE.inj i j o1 o2 b C C' (by rw[<-hoth i hi];exact h1) (by rw[<-hoth j hj];exact h2) f1 f2 b1 b2
mutual
theorem qer{m n:Nat}(h:m<=n):∀v:V,v.low m=true->v.low n=true
 | .bptr i _,e=>by simp only[V.low,jW]at *;omega
 | .ptr i _ _ _,e=>by simp only[V.low,jW]at *;omega
 | .sl i _ _ _ _,e=>by simp only[V.low,jW]at *;omega
 | .bsl i _ _ _,e=>by simp only[V.low,jW]at *;omega
 | .map i,e=>by simp only[V.low,jW]at *;omega
 | .sit i,e=>by simp only[V.low,jW]at *;omega
 | .yld i,e=>by simp only[V.low,jW]at *;omega
 | .view _ cs,e=>by simp only[V.low]at *;exact qcw h cs e
 | .agg cs,e=>by simp only[V.low]at *;exact qcw h cs e
 | .tup cs,e=>by simp only[V.low]at *;exact qcw h cs e
 | .fn _ a b,e=>by simp only[V.low,jE]at *;exact⟨qcw h a e.1,qcw h b e.2⟩
 | .undef,_=>rfl
 | .bool _,_=>rfl
 | .int _ _,_=>rfl
 | .str _,_=>rfl
 | .nils,_=>rfl
 | .nilx,_=>rfl
 | .imm _,_=>rfl
 | .immc _,_=>rfl
 | .iptr _,_=>rfl
 | .ub,_=>rfl
 | .nilfn,_=>rfl
 | .nilp,_=>rfl
theorem qcw{m n:Nat}(h:m<=n):∀vs:List V,qeq m vs=true->qeq n vs=true
 | [],_=>rfl
 | v :: vs,e=>by simp only[qeq,jE]at *;exact⟨qer h v e.1,qcw h vs e.2⟩
end
theorem qne{n:Nat}:∀{r:List V},r.all V.pcell=true->qeq n r=true
 | [],_=>rfl
 | v :: vs,h=>by
  simp only[List.all_cons,jE]at h;simp only[qeq,jE];refine⟨?_,qne h.2⟩;have h1:=h.1;cases v<;>first
   | rfl
   | (simp[V.pcell]at h1;done)
   | (simp only[V.pcell,jE]at h1;simp only[V.low,jE];exact⟨qcw (Nat.zero_le n) _ h1.1,qcw (Nat.zero_le n) _ h1.2⟩)
structure Agree(n:Nat)(E E':Env):Prop where
 w:E'.w=E.w
 S:∀b,E.S b->E'.S b
 id:∀i,i<n->i<E.h.length->i<E'.h.length/\qgt E'.h i=qgt E.h i/\E'.b i=E.b i /\
  ∀o',E'.h[i]?=some o'->∃o,E.h[i]?=some o/\o.gen=o'.gen/\qje o.k=qje o'.k/\qco o.k=qco o'.k/\qmi o.k=qmi o'.k
mutual
theorem qed{n:Nat}{E E':Env}(x:Agree n E E'):∀(v:V) (u:Value),v.low n=true->rel E v u->rel E' v u
 | .undef,_,_,_=>by unfold rel;trivial
 | .bool b,u,_,h=>by unfold rel at *;exact h
 | .int k n,u,_,h=>by unfold rel at *;exact h
 | .str s,u,_,h=>by unfold rel at *;exact h
 | .nils,u,_,h=>by unfold rel at *;exact h
 | .nilx,u,_,h=>by unfold rel at *;exact h
 | .imm els,u,_,h=>by
  unfold rel at *;obtain⟨a,cap,h1,hc,h2,h3⟩:=h;refine⟨a,cap,h1,hc,h2,?_⟩;rcases h3 with h3 | ⟨b,o,m,h4,h5,h6,h7⟩
  .exact .inl h3
  .exact .inr ⟨b,o,m,h4,h5,x.S b h6,qds x els m b o h2 h7⟩
 | .immc els,u,_,h=>by
  unfold rel at *;obtain⟨a,h1,h2,h3⟩:=h;refine⟨a,h1,h2,?_⟩;rcases h3 with h3 | ⟨b,o,m,h4,h5,h6,h7⟩
  .exact .inl h3
  .exact .inr ⟨b,o,m,h4,h5,x.S b h6,qds x els m b o h2 h7⟩
 | .iptr cells,u,_,h=>by unfold rel at *;obtain⟨b,o,h1,h2,h3,h4⟩:=h;exact⟨b,o,h1,x.S b h2,h3,qni x cells b o (qcw (Nat.zero_le n) _ h3) h4⟩
 | .bsl id off n len,u,hl,h=>by unfold rel at *;obtain⟨h1,b,y,cap,hu,hc,h3⟩:=h;obtain⟨y1,y2,y3,y4⟩:=x.id id (by simpa[V.low]using hl) h1;refine⟨y1,b,y,cap,hu,hc,fun hn o' ho' ht=>?_⟩;obtain⟨o,ho,z1,z2,z3,z4⟩:=y4 o' ho';obtain⟨⟨C,q1⟩,q2⟩:=h3 hn o ho (by omega);exact⟨⟨C,y3.trans q1⟩,q2⟩
 | .bptr id off,u,hl,h=>by unfold rel at *;obtain⟨h1,b,y,hu,h3⟩:=h;obtain⟨y1,y2,y3,y4⟩:=x.id id (by simpa[V.low]using hl) h1;refine⟨y1,b,y,hu,fun o' ho' ht=>?_⟩;obtain⟨o,ho,z1,z2,z3,z4⟩:=y4 o' ho';obtain⟨⟨C,q1⟩,q2⟩:=h3 o ho (by omega);exact⟨⟨C,y3.trans q1⟩,q2⟩
 | .ptr id g el off,u,hl,h=>by unfold rel at *;obtain⟨h1,h2,b,y,hu,h3⟩:=h;obtain⟨y1,y2,y3,y4⟩:=x.id id (by simpa[V.low]using hl) h1;refine⟨y1,by rw[y2];exact h2,b,y,hu,fun o' ho' hg ht=>?_⟩;obtain⟨o,ho,z1,z2,z3,z4⟩:=y4 o' ho';obtain⟨C,q1,q2⟩:=h3 o ho (z1.trans hg) (by omega);exact⟨C,y3.trans q1,by rw[<-z3];exact q2⟩
 | .sl id g m off len,u,hl,h=>by unfold rel at *;obtain⟨h1,h2,a,cap,hu,hc1,hc2,hc3,h3⟩:=h;obtain⟨y1,y2,y3,y4⟩:=x.id id (by simpa[V.low]using hl) h1;refine⟨y1,by rw[y2];exact h2,a,cap,hu,hc1,hc2,hc3,fun o' ho' hg ht=>?_⟩;obtain⟨o,ho,z1,z2,z3,z4⟩:=y4 o' ho';obtain⟨q1,q1',q2⟩:=h3 o ho (z1.trans hg) (by omega);refine⟨by omega,by omega,?_⟩;rw[y3];exact q2
 | .agg cs,u,hl,h=>by unfold rel at *;obtain⟨us,h1,h2⟩:=h;exact⟨us,h1,qjw x cs us.toList (by simpa[V.low]using hl) h2⟩
 | .tup cs,u,hl,h=>by unfold rel at *;obtain⟨us,h1,h2⟩:=h;exact⟨us,h1,qjw x cs us.toList (by simpa[V.low]using hl) h2⟩
 | .fn f a c,u,hl,h=>by unfold rel at *;obtain⟨a',c',h1,h2,h3⟩:=h;simp only[V.low,jE]at hl;exact⟨a',c',h1,qjw x a a'.toList hl.1 h2,qjw x c c'.toList hl.2 h3⟩
 | .ub,u,_,h=>by unfold rel at *;exact h
 | .nilfn,u,_,h=>by unfold rel at *;exact h
 | .nilp,u,_,h=>by unfold rel at *;exact h
 | .map id,u,hl,h=>by unfold rel at *;obtain⟨h1,b,hu,h3⟩:=h;obtain⟨y1,y2,y3,y4⟩:=x.id id (by simpa[V.low]using hl) h1;refine⟨y1,b,hu,fun o' ho' ht=>?_⟩;obtain⟨o,ho,z1,z2,z3,z4⟩:=y4 o' ho';obtain⟨C,q1⟩:=h3 o ho (by omega);exact⟨C,y3.trans q1⟩
 | .sit id,u,hl,h=>by unfold rel at *;obtain⟨h1,b,hu,h3⟩:=h;obtain⟨y1,y2,y3,y4⟩:=x.id id (by simpa[V.low]using hl) h1;refine⟨y1,b,hu,fun o' ho' ht=>?_⟩;obtain⟨o,ho,z1,z2,z3,z4⟩:=y4 o' ho';obtain⟨C,q1⟩:=h3 o ho (by omega);exact⟨C,y3.trans q1⟩
 | .yld id,u,hl,h=>by unfold rel at *;obtain⟨h1,b,hu,h3⟩:=h;obtain⟨y1,y2,y3,y4⟩:=x.id id (by simpa[V.low]using hl) h1;refine⟨y1,b,hu,fun o' ho' ht=>?_⟩;obtain⟨o,ho,z1,z2,z3,z4⟩:=y4 o' ho';obtain⟨C,q1⟩:=h3 o ho (by omega);exact⟨C,y3.trans q1⟩
 | .view p cells,u,hl,h=>by unfold rel at *;obtain⟨b,o,h1,h2,h3⟩:=h;exact⟨b,o,x.S b h1,qni x cells b o (by simpa[V.low]using hl) h2,h3⟩
theorem qjw{n:Nat}{E E':Env}(x:Agree n E E'):∀(vs:List V) (us:List Value),qeq n vs=true->qaj E vs us->qaj E' vs us
 | [],us,_,h=>by unfold qaj at *;exact h
 | v :: vs,us,hl,h=>by unfold qaj at *;simp only[qeq,jE]at hl;obtain⟨u,us',h1,h2,h3⟩:=h;exact⟨u,us',h1,qed x v u hl.1 h2,qjw x vs us' hl.2 h3⟩
theorem qni{n:Nat}{E E':Env}(x:Agree n E E'):∀(vs:List V) (b o:Nat),qeq n vs=true->qbb E vs b o->qbb E' vs b o
 | [],_,_,_,_=>by unfold qbb;trivial
 | v :: vs,b,o,hl,h=>by unfold qbb at *;simp only[qeq,jE]at hl;obtain⟨⟨u,h1,h2⟩,h3⟩:=h;exact⟨⟨u,by rw[x.w];exact h1,qed x v u hl.1 h2⟩,qni x vs b (o+1) hl.2 h3⟩
theorem qds{n:Nat}{E E':Env}(x:Agree n E E'):∀(rs:List (List V)) (m b o:Nat),qce rs=true->qak E m rs b o->qak E' m rs b o
 | [],_,_,_,_,_=>by unfold qak;trivial
 | r :: rs,m,b,o,hl,h=>by unfold qak at *;simp only[qce,List.all_cons,jE]at hl;obtain⟨h1,h2,h3⟩:=h;exact⟨h1,qni x r b o (qne hl.1) h2,qds x rs m b (o+m) (by simpa[qce]using hl.2) h3⟩
end
theorem qcl{E:Env}{n b:Nat}:∀{rs:List (List V)} {o i:Nat} {r:List V},qak E n rs b o->rs[i]?=some r->r.length=n/\qbb E r b (o+i*n)
 | [],_,_,_,_,h=>by simp at h
 | r :: rs,o,0,_,h,e=>by unfold qak at h;simp at e;subst e;exact⟨h.1,by simpa using h.2.1⟩
 | r :: rs,o,i+1,_,h,e=>by
  unfold qak at h;have:=qcl h.2.2 (i:=i) (by simpa using e);refine⟨this.1,?_⟩;have e2:o+n+i*n=o+(i+1)*n:=by rw[Nat.succ_mul];omega
  rw[<-e2];exact this.2
theorem qfg{E:Env}{n b:Nat}:∀(k:Nat) {rs:List (List V)} {o:Nat},qak E n rs b o->qak E n (rs.drop k) b (o+k*n)
 | 0,_,_,h=>by simpa using h
 | k+1,[],_,_=>by simp[qak]
 | k+1,r :: rs,o,h=>by
  unfold qak at h;have:=qfg k h.2.2;have e2:o+n+k*n=o+(k+1)*n:=by rw[Nat.succ_mul];omega
  rw[<-e2];exact this
theorem qen{E:Env}{n b:Nat}:∀(k:Nat) {rs:List (List V)} {o:Nat},qak E n rs b o->qak E n (rs.take k) b o
 | 0,_,_,_=>by simp[qak]
 | k+1,[],_,_=>by simp[qak]
 | k+1,r :: rs,o,h=>by unfold qak at h;simp only[List.take_succ_cons];unfold qak;exact⟨h.1,h.2.1,qen k h.2.2⟩
theorem qzd{E:Env}{n b:Nat}:∀{rs qs:List (List V)} {o:Nat},qak E n rs b o->qak E n qs b (o+rs.length*n)->qak E n (rs++qs) b o
 | [],qs,o,_,h=>by simpa using h
 | r :: rs,qs,o,h,k=>by
  unfold qak at h;simp only[List.cons_append];unfold qak;refine⟨h.1,h.2.1,qzd h.2.2 ?_⟩;have e:o+n+rs.length*n=o+(r :: rs).length*n:=by simp only[List.length_cons,Nat.succ_mul];omega
  rw[e];exact k
theorem qow{k:Nat}{rs:List (List V)}(h:qce rs=true):qce (rs.drop k)=true:=by simp only[qce,jP]at *;exact fun r hr=>h r (List.mem_of_mem_drop hr)
theorem qii{k:Nat}{rs:List (List V)}(h:qce rs=true):qce (rs.take k)=true:=by simp only[qce,jP]at *;exact fun r hr=>h r (List.mem_of_mem_take hr)
theorem qjv{rs qs:List (List V)}(h:qce rs=true)(k:qce qs=true):qce (rs++qs)=true:=by simp only[qce,List.all_append,jE]at *;exact⟨h,k⟩
theorem qtn{h:H}{id g:Nat}{els:List (List V)}(e:qhh h id g=some els):∃o n,h[id]?=some o/\o.gen=g/\(o.k=.arr n els\/o.k=.frz n els):=by
 unfold qhh at e;split at e
 .rename_i g' n els' h1;split at e
  .rename_i hg;cases e;exact⟨_,n,h1,hg,.inl rfl⟩
  .cases e
 .rename_i g' n els' h1;split at e
  .rename_i hg;cases e;exact⟨_,n,h1,hg,.inr rfl⟩
  .cases e
 .cases e
theorem qnz{els l:List (List V)}{off len:Nat}(e:qmc els off len=some l):off+len<=els.length/\l=(els.drop off).take len:=by
 unfold qmc at e;split at e
 .rename_i h;obtain⟨rfl,rfl⟩:=h;cases e;exact⟨by omega,by simp⟩
 .split at e
  .rename_i h;cases e;exact⟨h,rfl⟩
  .cases e
def inB(E:Env)(S':Nat->Prop):V->Prop
 | .sl id _ _ _ _=>∀b C o,E.b id=some (b,C)->E.h[id]?=some o->o.k.isAF=true->S' b
 | _=>True
theorem zxz{E:Env}{S':Nat->Prop}(h1:∀b,E.S b->S' b):Ext0 E ⟨E.b,S',E.h,E.w⟩ :=
 ⟨h1,jD _,fun _ _ _=>rfl,fun _ _ h=>h,jD _,fun _ _=>jD _,fun _ o' _ ho _=>⟨o',ho,rfl,rfl,jD _,fun _ h=>h,fun _=>rfl⟩,rfl,rfl,fun _ o' _ h=>⟨o',h,rfl⟩⟩
theorem qrf{E:Env}{els:List (List V)}{u:Value}(h:rel E (.immc els) u):rel E (.imm els) u:=by unfold rel at *;obtain⟨a,h1,h2,h3⟩:=h;exact⟨a,_,h1,jD _,h2,h3⟩
theorem z8s{P:Program}{E:Env}(hE:Ok P E){S':Nat->Prop}(h1:∀b,E.S b->S' b){v:V}{u:Value}(hv:rel E v u)(hi:inB E S' v) :
  rel ⟨E.b,S',E.h,E.w⟩ (qan E.h v) u:=by
 have hx:=qda hE (zxz h1) v u hv;cases v<;>try exact hx
 case immc els=>exact qrf hx
 case nils =>simp only[qan];unfold rel at hv ⊢;obtain⟨a,rfl⟩:=hv;exact⟨a,0,rfl,jD _,rfl,.inl rfl⟩
 case nilx =>simp only[qan];unfold rel at hv ⊢;subst hv;exact⟨none,0,rfl,jD _,rfl,.inl rfl⟩
 case sl id g m off len =>
  simp only[qan];cases hr:qhh E.h id g with
  | none=>simp only;unfold rel;trivial
  | some els =>
   simp only;cases hw:qmc els off len with
   | none=>simp only;unfold rel;trivial
   | some l =>
    simp only;obtain⟨o,n,ho,hg,hk⟩:=qtn hr;obtain⟨hle,rfl⟩:=qnz hw;unfold rel at hv;obtain⟨_,_,a,cap,hu,hc1,hc2,hc3,h3⟩:=hv;subst hu;have ht:qje o.k=1:=by rcases hk with e | e<;>rw[e]<;>rfl
    obtain⟨_,hms,h5⟩:=h3 o ho hg ht;have hro:=hE.obj id o ho;have hobj:qce els=true/\((E.b id=none/\els=[])\/∃b C cs ty,E.b id=some (b,C)/\E.w.heap[b]?=some (.cells cs ty (0,0))/\0<n/\cs.size=(C.2+C.1)*n/\els.length<=C.1/\qak E n els b (C.2*n)):=by
     unfold qem at hro;rcases hk with e | e<;>rw[e]at hro
     .refine⟨hro.1,hro.2.imp (fun h=>h) ?_⟩;rintro⟨b,C,cs,ty,q1,q2,q3⟩;exact⟨b,C,cs,ty,q1,q3⟩
     .refine⟨hro.1,hro.2.imp (fun h=>h) ?_⟩;rintro⟨b,C,cs,ty,q1,q2,q3⟩;exact⟨b,C,cs,ty,q1,q3⟩
    have hs:qco o.k=n:=by rcases hk with e | e<;>rw[e]<;>rfl
    obtain⟨hp,hb⟩:=hobj;have hlen:((els.drop off).take len).length=len:=by simp;omega
    unfold rel;rw[hlen];rcases h5 with⟨h6,h7⟩ | ⟨b,C,x,h6,h7,h7',h8⟩
    .have:len=0:=by omega
     subst this;exact⟨a,cap,rfl,by omega,by simp[qce],.inl (by simp)⟩
    .rcases hb with⟨h9,_⟩ | ⟨b',C',cs,ty,q1,q2,q3,q4,q5,q6⟩
     .rw[h6]at h9;cases h9
     .rw[h6]at q1;cases q1;refine⟨_,_,rfl,by omega,qii (qow hp),?_⟩;by_cases hl0:len=0
      .left;subst hl0;simp
      .right;refine⟨b,x,n,h7,q3,hi b C o h6 ho (by rcases hk with e | e<;>rw[e]<;>rfl),?_⟩;have hxe:=h8 (.inl (by omega));rw[hms,hs]at hxe;rw[hxe];have:=qen len (qfg off q6);rw[<-Nat.add_mul]at this;exact qfh hE (zxz h1) _ _ _ _ rfl this
theorem qgd(h:H)(v:V)(hv:v.scal1=true\/∃id g m off len,v=.sl id g m off len):(qan h v).pure=true:=by
 rcases hv with hv | ⟨id,g,m,off,len,rfl⟩
 .cases v<;>first | rfl | (simp[V.scal1]at hv)
 .simp only[qan];split
  .split<;>rfl
  .rfl
theorem qhw{h:H}{id i:Nat}{o:Ob}(e:(qfy h id)[i]?=some o):∃o0,h[i]?=some o0/\o0.gen=o.gen/\qje o0.k=qje o.k/\qco o0.k=qco o.k/\qmi o0.k=qmi o.k /\
  (o=o0\/(i=id/\∃n els,o0.k=.arr n els/\o.k=.frz n els)):=by
 unfold qfy at e;split at e
 .rename_i g n els h1;by_cases hi:i=id
  .subst hi;have:=qbe h1;rw[jN this]at e;cases e;exact⟨_,h1,rfl,rfl,rfl,rfl,.inr ⟨rfl,n,els,rfl,rfl⟩⟩
  .rw[jO (Ne.symm hi)]at e;exact⟨o,e,rfl,rfl,rfl,rfl,.inl rfl⟩
 .exact⟨o,e,rfl,rfl,rfl,rfl,.inl rfl⟩
theorem qka(h:H)(id:Nat):(qfy h id).length=h.length:=by unfold qfy;split<;>simp
theorem q1f{h:H}{id i:Nat}(e:(qfy h id)[i]?=none):h[i]?=none:=by rw[List.getElem?_eq_none_iff]at *;rw[qka]at e;exact e
theorem zde(h:H)(id i:Nat):qgt (qfy h id) i=qgt h i:=by
 unfold qgt;cases e:(qfy h id)[i]? with
 | none=>rw[q1f e]
 | some o=>obtain⟨o0,h1,h2,_⟩:=qhw e;rw[h1];exact h2.symm
theorem zkp{h:H}{id:Nat}{o:Ob}(e:(qfy h id)[id]?=some o)(ht:o.k.isAF=true):o.k.isFrz=true:=by
 obtain⟨o0,h1,h2,h3,_,_,h4⟩:=qhw e;rcases h4 with rfl | ⟨_,n,els,_,h5⟩
 .cases hk:o.k<;>rw[hk]at ht<;>simp[K.isAF]at ht
  .-- arr: impossible
   rename_i n els;unfold qfy at e;have:h[id]?=some ⟨o.gen,.arr n els⟩:=by rw[h1,<-hk]
   rw[this]at e;simp only at e;rw[jN (qbe h1)]at e;have:=Option.some.inj e;rw[<-this]at hk;cases hk
  .rfl
 .rw[h5];rfl
def z1o(E:Env)(id:Nat):Nat->Prop:=fun b=>E.S b\/∃o C,E.h[id]?=some o/\o.k.isAF=true/\E.b id=some (b,C)
theorem qyu{h:H}{id i g:Nat}{cells:List V}(e:h[i]?=some ⟨g,.box cells⟩):(qfy h id)[i]?=some ⟨g,.box cells⟩:=by
 unfold qfy;split
 .rename_i g' n els h1;by_cases hi:i=id
  .subst hi;rw[h1]at e;cases e
  .rw[jO (Ne.symm hi)];exact e
 .exact e
theorem zng{P:Program}{E:Env}(hE:Ok P E){id b:Nat}(hS:z1o E id b):E.S b\/Mut E b:=by
 rcases hS with h | ⟨o,C,ho,ht,hb⟩
 .exact .inl h
 .by_cases hf:o.k.isFrz=true
  .have hr:=hE.obj id o ho;unfold qem at hr;cases hk:o.k<;>rw[hk]at hr hf<;>try (simp[K.isFrz]at hf;done)
   rcases hr.2 with h | ⟨b',C'',cs,ty,q1,q2,_⟩
   .rw[hb]at h;cases h.1
   .rw[hb]at q1;cases q1;exact .inl q2
  .exact .inr ⟨id,o,C,ho,hb,by simpa using hf⟩
theorem zho{P:Program}{E:Env}(hE:Ok P E)(id:Nat):Ok P ⟨E.b,z1o E id,qfy E.h id,E.w⟩/\Ext E ⟨E.b,z1o E id,qfy E.h id,E.w⟩:=by
 have x:Ext E ⟨E.b,z1o E id,qfy E.h id,E.w⟩:=by
  refine⟨⟨fun b h=>.inl h,jD _,fun _ _ _=>rfl,fun b hb hm=>?_,by rw[qka];exact jD _,fun i hi=>by simp only[zde];exact jD _,fun i o' hi ho' _=>?_,rfl,rfl,fun i o' _ ho'=>by obtain⟨o0,q1,_,q3,_⟩:=qhw ho';exact⟨o0,q1,q3.symm⟩⟩,fun b _ hS=>zng hE hS,fun i g cells h1 h2 _=>⟨qyu h1,h2⟩⟩
  .obtain⟨i,o,C,h1,h2,h3⟩:=hm;obtain⟨o0,q1,q2,q3,q4,q5,q6⟩:=qhw h1;rcases q6 with rfl | ⟨_,n,els,_,h5⟩
   .exact⟨i,o,C,q1,h2,h3⟩
   .rw[h5]at h3;cases h3
  .obtain⟨o0,q1,q2,q3,q4,q5,q6⟩:=qhw ho';exact⟨o0,q1,q3.symm,q4.symm,by omega,fun _ h=>h,fun _=>rfl⟩
 refine⟨⟨fun i o ho=>?_,fun i j o1 o2 b C C' h1 h2 f1 f2 b1 b2=>?_,fun b hb=>?_⟩,x⟩
 .obtain⟨o0,q1,q2,q3,q4,q5,q6⟩:=qhw ho;have hr:=hE.obj i o0 q1;rcases q6 with rfl | ⟨rfl,n,els,h4,h5⟩
  .by_cases hf:o.k.isFrz=true
   .exact qhs hE x hr rfl fun b C hb=>⟨rfl,fun h=>absurd (h.symm.trans hf) (by decide)⟩
   .have hf':o.k.isFrz=false:=by simpa using hf
    refine qhs hE x hr rfl fun b C hb=>⟨rfl,fun _ hS=>?_⟩
    rcases hS with h | ⟨o2,C2,r1,r2,r3⟩
    .exact hE.notS q1 hf' hb h
    .by_cases hf2:o2.k.isFrz=true
     .refine hE.notS q1 hf' hb ?_;have hr2:=hE.obj id o2 r1;unfold qem at hr2;cases hk:o2.k<;>rw[hk]at hr2 hf2<;>try (simp[K.isFrz]at hf2;done)
      rcases hr2.2 with h | ⟨b',C'',cs,ty,s1,s2,_⟩
      .rw[r3]at h;cases h.1
      .rw[r3]at s1;cases s1;exact s2
     .have hid:=hE.inj i id o o2 b C C2 q1 r1 hf' (by simpa using hf2) hb r3;subst hid;have:o.k.isFrz=true:=zkp ho (by rw[r1]at q1;cases q1;exact r2);rw[this]at hf';cases hf'
  .unfold qem at hr ⊢;rw[h4]at hr;rw[h5];refine⟨hr.1,hr.2.imp (fun h=>h) ?_⟩;rintro⟨b,C,cs,ty,s1,s2,s3,s4,s5,s6,s7⟩;exact⟨b,C,cs,ty,s1,.inr ⟨o0,C,q1,by rw[h4];rfl,s1⟩,s3,s4,s5,s6,qfh hE x _ _ _ _ rfl s7⟩
 .obtain⟨p1,q1,_,_,_,_,q6⟩:=qhw h1;obtain⟨p2,r1,_,_,_,_,r6⟩:=qhw h2;rcases q6 with rfl | ⟨_,n,els,_,h5⟩
  .rcases r6 with rfl | ⟨_,n,els,_,h5⟩
   .exact hE.inj i j o1 o2 b C C' q1 r1 f1 f2 b1 b2
   .rw[h5]at f2;cases f2
  .rw[h5]at f1;cases f1
 .rcases hb with h | ⟨o,C,r1,r2,r3⟩
  .exact hE.S b h
  .exact hE.bound r1 r3
theorem qoz{E E':Env}(hw:E'.w=E.w)(hS:∀b,E.S b->E'.S b){v:V}{u:Value}(hp:v.pure=true)(h:rel E v u):rel E' v u :=
 qed (n:=0) (E:=E) (E':=E') ⟨hw,hS,fun i hi=>absurd hi (Nat.not_lt_zero _)⟩ v u hp h
theorem qqf(h:H)(i id g:Nat):qhh (qfy h i) id g=qhh h id g:=by
 unfold qfy;split
 .rename_i g' n els h1;by_cases hi:id=i
  .subst hi;simp only[qhh,jN (qbe h1),h1]
  .simp only[qhh,jO (Ne.symm hi)]
 .rfl
theorem z8t(h:H)(i:Nat)(v:V):qan (qfy h i) v=qan h v:=by cases v<;>simp only[qan,qqf]
def inS(E:Env)(S':Nat->Prop)(v:V):Prop:=∀u,rel E v u->rel ⟨E.b,S',E.h,E.w⟩ (qan E.h v) u
theorem qij{P:Program}{E:Env}(_:Ok P E){S':Nat->Prop}(_:∀b,E.S b->S' b){v:V}{u:Value}(hv:rel E v u)(hi:inS E S' v) :
  rel ⟨E.b,S',E.h,E.w⟩ (qan E.h v) u:=hi u hv
theorem z8u{P:Program}{E:Env}(hE:Ok P E){S':Nat->Prop}(h1:∀b,E.S b->S' b){v:V}(hi:inB E S' v):inS E S' v:=fun _ hv=>z8s hE h1 hv hi
theorem zld(v:V):(∃id g m off len,v=.sl id g m off len)\/((∀E S',inB E S' v)/\∀h,zda h v=h):=by
 cases v<;>first
  | exact .inl ⟨_,_,_,_,_,rfl⟩
  | exact .inr ⟨fun _ _=>trivial,fun _=>rfl⟩
theorem q8q(h:H)(v w:V):qan (zda h v) w=qan h w:=by
 rcases zld v with⟨id,g,m,off,len,rfl⟩ | ⟨_,k⟩
 .exact z8t h id w
 .rw[k]
theorem zhp{P:Program}{E:Env}(hE:Ok P E)(v:V):∃E1,Ok P E1/\Ext E E1/\E1.h=zda E.h v/\E1.w=E.w/\E1.b=E.b/\inS E E1.S v:=by
 rcases zld v with⟨id,g,m,off,len,rfl⟩ | ⟨k1,k2⟩
 .obtain⟨k1,k2⟩:=zho hE id;exact⟨_,k1,k2,rfl,rfl,rfl,z8u hE k2.S fun b C o hb ho ht=>.inr ⟨o,C,ho,ht,hb⟩⟩
 .exact⟨E,hE,Ext.refl E,(k2 _).symm,rfl,rfl,z8u hE (fun _ h=>h) (k1 _ _)⟩
def q1w(n:Nat)(E:Env):Env:=⟨E.b,E.S,qkd n E.h,E.w⟩
theorem qhj{n:Nat}{h:H}{i:Nat}{o:Ob}(e:(qkd n h)[i]?=some o):i<n/\∃o0,h[i]?=some o0/\o=qbx n o0:=by
 unfold qkd at e;rw[List.getElem?_map]at e;cases e1:(h.take n)[i]? with
 | none=>rw[e1]at e;cases e
 | some o0 =>
  rw[e1]at e;cases e;rw[List.getElem?_take]at e1;split at e1
  .rename_i hlt;exact⟨hlt,o0,e1,rfl⟩
  .cases e1
theorem qdb(n:Nat)(o:Ob):(qbx n o).gen=o.gen/\qje (qbx n o).k=qje o.k/\qco (qbx n o).k=qco o.k/\qmi (qbx n o).k=qmi o.k/\(qbx n o).k.isFrz=o.k.isFrz:=by unfold qbx;cases hk:o.k<;>simp[qje,qco,qmi,K.isFrz,hk]
theorem qeb(n:Nat)(h:H):(qkd n h).length=min n h.length:=by simp[qkd]
theorem zge{n:Nat}{h:H}{i:Nat}{o:Ob}(hi:i<n)(e:h[i]?=some o):(qkd n h)[i]?=some (qbx n o):=by unfold qkd;rw[List.getElem?_map,List.getElem?_take,if_pos hi,e];rfl
theorem qvl{n:Nat}{h:H}{i:Nat}(hi:i<n):qgt (qkd n h) i=qgt h i:=by
 unfold qgt;cases e:h[i]? with
 | some o=>rw[zge hi e];exact(qdb n o).1
 | none =>
  have:(qkd n h)[i]?=none:=by rw[List.getElem?_eq_none_iff]at *;rw[qeb];omega
  rw[this]
theorem qvv(n:Nat)(E:Env):Agree n E (q1w n E):=by
 refine⟨rfl,fun _ h=>h,fun i hi hl=>⟨?_,qvl hi,rfl,fun o' ho'=>?_⟩⟩
 .show i<(qkd n E.h).length;rw[qeb];omega
 .obtain⟨_,o0,h1,rfl⟩:=qhj ho';obtain⟨s1,s2,s3,s4,_⟩:=qdb n o0;exact⟨o0,h1,s1.symm,s2.symm,s3.symm,s4.symm⟩
theorem q0z{n:Nat}{E:Env}{v:V}{u:Value}(h:rel E v u):rel (q1w n E) (qbf n v) u:=by
 unfold qbf;split
 .rename_i hl;exact qed (qvv n E) v u hl h
 .unfold rel;trivial
theorem qpc{n:Nat}{E:Env}:∀{vs:List V} {us:List Value},qaj E vs us->qaj (q1w n E) (vs.map (qbf n)) us
 | [],_,h=>by unfold qaj at *;exact h
 | v :: vs,us,h=>by unfold qaj at h;obtain⟨u,us',h1,h2,h3⟩:=h;simp only[List.map_cons];unfold qaj;exact⟨u,us',h1,q0z h2,qpc h3⟩
theorem qqg{n:Nat}{E:Env}:∀{vs:List V} {b o:Nat},qbb E vs b o->qbb (q1w n E) (vs.map (qbf n)) b o
 | [],_,_,_=>by simp[qbb]
 | v :: vs,b,o,h=>by unfold qbb at h;obtain⟨⟨u,h1,h2⟩,h3⟩:=h;simp only[List.map_cons];unfold qbb;exact⟨⟨u,h1,q0z h2⟩,qqg h3⟩
theorem qsa{n:Nat}{E:Env}{m:Nat}:∀{rs:List (List V)} {b o:Nat},qak E m rs b o->qak (q1w n E) m (rs.map fun r=>r.map (qbf n)) b o
 | [],_,_,_=>by simp[qak]
 | r :: rs,b,o,h=>by unfold qak at h;simp only[List.map_cons];unfold qak;exact⟨by simpa using h.1,qqg h.2.1,qsa h.2.2⟩
theorem qru{n:Nat}{E E':Env}(x:Agree n E E'):∀(es:List (V×V)) (ms:List Go.MapEntry),qjl E es ms->qjl E' es ms
 | [],_,h=>h
 | (k,v) :: r,ms,h=>by
  obtain⟨e,es',h1,h2,h3,h4,h5,h6⟩:=h;have low:∀v:V,v.scal1=true->v.low n=true:=fun v hv=>by cases v<;>first | rfl | (simp[V.scal1]at hv)
  exact⟨e,es',h1,qed x k _ (low k h4) h2,qed x v _ (low v h5) h3,h4,h5,qru x r es' h6⟩
theorem q9y{P:Program}{E:Env}(hE:Ok P E)(n:Nat):Ok P (q1w n E):=by
 refine⟨fun i o ho=>?_,fun i j o1 o2 b C C' h1 h2 f1 f2 b1 b2=>?_,hE.S⟩
 .obtain⟨_,o0,h1,rfl⟩:=qhj ho;have hr:=hE.obj i o0 h1;have x:=qvv n E;unfold qem at hr ⊢;unfold qbx;cases hk:o0.k<;>rw[hk]at hr<;>simp only[hk] 
  case box cells =>refine hr.imp (fun h=>h) ?_;rintro⟨b,C,cs,ty,q1,q2,q3,q4,q5⟩;exact⟨b,C,cs,ty,q1,q2,q3,by simpa using q4,qqg q5⟩
  case arr m els =>refine⟨hr.1,hr.2.imp (fun h=>h) ?_⟩;rintro⟨b,C,cs,ty,q1,q2,q3,q4,q5,q6,q7⟩;exact⟨b,C,cs,ty,q1,q2,q3,q4,q5,q6,qds x _ _ _ _ hr.1 q7⟩
  case frz m els =>refine⟨hr.1,hr.2.imp (fun h=>h) ?_⟩;rintro⟨b,C,cs,ty,q1,q2,q3,q4,q5,q6,q7⟩;exact⟨b,C,cs,ty,q1,q2,q3,q4,q5,q6,qds x _ _ _ _ hr.1 q7⟩
  case map es =>obtain⟨b,C,ms,cl,q1,q2,q3,q4⟩:=hr;exact⟨b,C,ms,cl,q1,q2,q3,qru x _ _ q4⟩
  case sit s p=>exact hr
  case loop sl ps a c p =>obtain⟨b,C,L,q1,q2,q3,q4,q5,q6,q7⟩:=hr;exact⟨b,C,L,q1,q2,q3,qpc q4,q5,q6,q7⟩
 .obtain⟨_,p1,q1,rfl⟩:=qhj h1;obtain⟨_,p2,q2,rfl⟩:=qhj h2;rw[(qdb n p1).2.2.2.2]at f1;rw[(qdb n p2).2.2.2.2]at f2;exact hE.inj i j p1 p2 b C C' q1 q2 f1 f2 b1 b2
theorem qno{n:Nat}:∀{vs:List V},qeq n vs=true->vs.map (qbf n)=vs
 | [],_=>rfl
 | v :: vs,h=>by simp only[qeq,jE]at h;simp only[List.map_cons,qno h.2,qbf,h.1,if_true]
theorem qst{E0 E:Env}(x:Ext E0 E){n:Nat}(h:E0.h.length<=n):Ext E0 (q1w n E):=by
 refine⟨⟨x.S,x.size,x.keep,fun b hb hm=>?_,?_,fun i hi=>?_,fun i o' hi ho' hc=>?_,x.os,x.output,fun i o' hi ho'=>?_⟩,x.back,fun i g cells h1 h2 h3=>?_⟩
 .obtain⟨i,o,C,h1,h2,h3⟩:=hm;obtain⟨_,o0,q1,rfl⟩:=qhj h1;exact x.muts b hb ⟨i,o0,C,q1,h2,by rw[<-(qdb n o0).2.2.2.2];exact h3⟩
 .show E0.h.length<=(qkd n E.h).length;rw[qeb];have:=x.len;omega
 .show qgt E0.h i<=qgt (qkd n E.h) i;rw[qvl (by omega)];exact x.gen i hi
 .obtain⟨_,o0,q1,rfl⟩:=qhj ho';obtain⟨s1,s2,s3,s4,_⟩:=qdb n o0;rw[s1,s2]at hc;obtain⟨o,r1,r2,r3,r4,r5,r6⟩:=x.obj i o0 hi q1 hc;exact⟨o,r1,s2.trans r2,s3.trans r3,by omega,r5,r6⟩
 .obtain⟨_,o0,q1,rfl⟩:=qhj ho';obtain⟨o,r1,r2⟩:=x.tags i o0 hi q1;exact⟨o,r1,(qdb n o0).2.1.trans r2⟩
 .obtain⟨q1,q2⟩:=x.free i g cells h1 h2 h3;have hin:i<n:=by have:=qbe h1;omega
  refine⟨?_,q2⟩;show(qkd n E.h)[i]?=_;rw[zge hin q1];simp only[qbx];rw[qno (qcw (by omega) _ h3)]
def qkm(n:Nat)(E:Env):Env:=if quy n E.h=true then q1w n E else E
theorem qsq(n:Nat)(E:Env):(qkm n E).h=qde n E.h:=by unfold qkm qde;split<;>rfl
theorem qmt(n:Nat)(E:Env):(qkm n E).w=E.w:=by unfold qkm;split<;>rfl
theorem qwe{P:Program}{E:Env}(hE:Ok P E)(n:Nat):Ok P (qkm n E):=by
 unfold qkm;split
 .exact q9y hE n
 .exact hE
theorem qoj{E0 E:Env}(x:Ext E0 E){n:Nat}(h:E0.h.length<=n):Ext E0 (qkm n E):=by
 unfold qkm;split
 .exact qst x h
 .exact x
open Go (World Value Addr Obj Program Act Operand Oper Op Sem Result Next undef execOp)
theorem qlt{E:Env}:∀{s:List V} {us:List Value} (n:Nat),qaj E s us->rel E (qah s n) (us.getD n undef)
 | [],us,n,h=>by simp only[qah];unfold rel;trivial
 | v :: vs,us,0,h=>by unfold qaj at h;obtain⟨u,us',rfl,h2,_⟩:=h;simpa[qah]using h2
 | v :: vs,us,n+1,h=>by unfold qaj at h;obtain⟨u,us',rfl,_,h3⟩:=h;simpa[qah]using qlt n h3
theorem q3b{E:Env}{v:V}{u:Value}(hv:rel E v u):∀{s:List V} {us:List Value} (n:Nat),qaj E s us->qaj E (qet s n v) (us.set n u)
 | [],us,n,h=>by unfold qaj at h;subst h;simp[qet,qaj]
 | w :: vs,us,0,h=>by unfold qaj at h;obtain⟨u',us',rfl,h2,h3⟩:=h;simp only[qet,List.set_cons_zero];unfold qaj;exact⟨u,us',rfl,hv,h3⟩
 | w :: vs,us,n+1,h=>by unfold qaj at h;obtain⟨u',us',rfl,h2,h3⟩:=h;simp only[qet,List.set_cons_succ];unfold qaj;exact⟨u',_,rfl,h2,q3b hv n h3⟩
theorem qau{E:Env}:∀{s:List V} {us:List Value},qaj E s us->s.length=us.length
 | [],us,h=>by unfold qaj at h;subst h;rfl
 | v :: vs,us,h=>by unfold qaj at h;obtain⟨u,us',rfl,_,h3⟩:=h;simp[qau h3]
theorem qck{E:Env}:∀{s t:List V} {us ws:List Value},qaj E s us->qaj E t ws->qaj E (s++t) (us++ws)
 | [],t,us,ws,h,k=>by unfold qaj at h;subst h;simpa using k
 | v :: vs,t,us,ws,h,k=>by unfold qaj at h;obtain⟨u,us',rfl,h2,h3⟩:=h;simp only[List.cons_append];unfold qaj;exact⟨u,_,rfl,h2,qck h3 k⟩
theorem qrv{E:Env}:∀(n:Nat) {s:List V} {us:List Value},qaj E s us->qaj E (s.drop n) (us.drop n)
 | 0,_,_,h=>by simpa using h
 | n+1,[],us,h=>by unfold qaj at h;subst h;simp[qaj]
 | n+1,v :: vs,us,h=>by unfold qaj at h;obtain⟨u,us',rfl,_,h3⟩:=h;simpa using qrv n h3
theorem qhr{E:Env}:∀(n:Nat) {s:List V} {us:List Value},qaj E s us->qaj E (s.take n) (us.take n)
 | 0,_,_,h=>by simp[qaj]
 | n+1,[],us,h=>by unfold qaj at h;subst h;simp[qaj]
 | n+1,v :: vs,us,h=>by unfold qaj at h;obtain⟨u,us',rfl,h2,h3⟩:=h;simp only[List.take_succ_cons];unfold qaj;exact⟨u,_,rfl,h2,qhr n h3⟩
theorem zov{E:Env}{α β:Type}{f:α->V}{g:β->Value}:∀{l:List α} {m:List β},l.length=m.length->(∀(i:Nat) x y,l[i]?=some x->m[i]?=some y->rel E (f x) (g y))->qaj E (l.map f) (m.map g)
 | [],[],_,_=>by simp[qaj]
 | x :: xs,y :: ys,hl,h=>by simp only[List.map_cons];unfold qaj;exact⟨_,_,rfl,h 0 x y rfl rfl,zov (by simpa using hl) fun i x' y' hx hy=>h (i+1) x' y' (by simpa using hx) (by simpa using hy)⟩
 | [],_ :: _,hl,_=>by simp at hl
 | _ :: _,[],hl,_=>by simp at hl
theorem zfx{E:Env}{u:Value}{v:V}(h:cV1 u=some v):rel E v u:=by
 unfold cV1 at h;split at h<;>first
  | (cases h;unfold rel;rfl)
  | (cases h;unfold rel;exact⟨_,rfl⟩)
  | (cases h;unfold rel;trivial)
  | (split at h
     .rename_i hs;cases h;unfold rel;rename_i f first caps
      have h1:first=#[]:=Array.size_eq_zero_iff.1 hs.1.1
      have h2:caps=#[]:=Array.size_eq_zero_iff.1 hs.1.2;subst h1;subst h2;exact⟨_,_,.inl ⟨jS hs.2 (by decide),by rw[qrr hs.2]⟩,by simp[qaj],by simp[qaj]⟩
     .cases h)
  | cases h
theorem q9p{E:Env}:∀{us:List Value} {l:List V},us.mapM cV1=some l->qaj E l us
 | [],l,hm=>by simp at hm;subst hm;simp[qaj]
 | u :: us,l,hm=>by
  simp only[List.mapM_cons,bind,Option.bind]at hm;cases h1:cV1 u with
  | none=>rw[h1]at hm;cases hm
  | some v1 =>
   rw[h1]at hm;simp only at hm;cases h2:us.mapM cV1 with
   | none=>rw[h2]at hm;cases hm
   | some l1 =>rw[h2]at hm;cases hm;unfold qaj;exact⟨_,_,rfl,zfx h1,q9p h2⟩
theorem q9q{E:Env}{u:Value}{v:V}(h:cV u=some v):rel E v u:=by
 unfold cV at h;split at h
 .rename_i cs;cases hm:cs.toList.mapM cV1 with
  | none=>rw[hm]at h;cases h
  | some l =>rw[hm]at h;cases h;unfold rel;exact⟨_,rfl,q9p hm⟩
 .exact zfx h
theorem qqm(a:Array Value)(n:Nat):a.getD n undef=a.toList.getD n undef:=by simp[Array.getD_eq_getD_getElem?,List.getD]
theorem qav{E:Env}{s:List V}{a:Act}(hs:qaj E s a.tmps.toList){o:Operand}{x:A}(h:cA o=some x):rel E (x.ev s) (a.eval o):=by
 cases o with
 | tmp t =>simp only[cA]at h;cases h;simp only[A.ev,Act.eval];rw[qqm];exact qlt t hs
 | const v =>
  simp only[cA]at h;cases hv:cV v with
  | none=>rw[hv]at h;cases h
  | some v'=>rw[hv]at h;cases h;exact q9q hv
 | func f =>
  simp only[cA]at h;split at h
  case isFalse=>cases h
  rename_i hlt;cases h;simp only[A.ev,Act.eval];unfold rel;exact⟨_,_,.inl ⟨jS hlt (by decide),by rw[qrr hlt]⟩,by simp[qaj],by simp[qaj]⟩
 | global g=>simp[cA]at h
def Does(P:Program)(E:Env)(a:Act)(o:Oper)(v:V)(h':H):Prop :=
 ∃E',Ok P E'/\Ext E E'/\E'.h=h'/\∃res,(execOp a.eval o).run P E.w=.ok res E'.w/\((∃u,res=.value u/\rel E' v u)\/(res=.skip/\v=.undef))
theorem Does.same{P:Program}{E:Env}(hE:Ok P E){a:Act}{o:Oper}{v:V}{u:Value}(h:(execOp a.eval o).run P E.w=.ok (.value u) E.w)(hv:rel E v u):Does P E a o v E.h :=
 ⟨E,hE,Ext.refl E,rfl,_,h,.inl ⟨u,rfl,hv⟩⟩
section
variable{P:Program}{E:Env}(hE:Ok P E){s:List V}{a:Act}(hs:qaj E s a.tmps.toList){o:Oper}
include hE hs
theorem zsg{x:Operand}{y:A}(ho:o.op=.move x\/o.op=.assign x)(hc:cA x=some y):Does P E a o (y.ev s) E.h :=
 Does.same hE (by rcases ho with ho | ho<;>simp[execOp,ho]) (qav hs hc)
theorem zgu{c x y:Operand}{c' x' y':A}(ho:o.op=.pick c x y)(h1:cA c=some c')(h2:cA x=some x')(h3:cA y=some y'){t:Bool}(ht:c'.ev s=.bool t) :
  Does P E a o (if t then x'.ev s else y'.ev s) E.h:=by
 have hc:=qav hs h1;rw[ht]at hc;unfold rel at hc;refine Does.same hE (u:=if t then a.eval x else a.eval y) (by simp[execOp,ho,hc,Go.asBool]) ?_;cases t
 .exact qav hs h3
 .exact qav hs h2
end
open Go (World Value Addr Obj Program Act Operand Oper Op Sem Result Next undef execOp TypeId TypeDesc)
theorem qcp(b o n:Nat):(Addr.mk b o none).add n=⟨b,o+n,none⟩:=by
 unfold Addr.add;split
 .rename_i h;subst h;rfl
 .rfl
theorem qct{P:Program}{t:TypeId}(h:P.cellsOf t≠0):∃i,P.info? t=some i/\i.size=P.cellsOf t:=by
 unfold Program.cellsOf at *;cases e:P.info? t with
 | none=>simp[e]at h
 | some i=>exact⟨i,rfl,rfl⟩
theorem qlw{P:Program}{t:TypeId}{i:Go.TypeInfo}(h:P.info? t=some i)(w:World):(Go.typeInfo t).run P w=.ok i w:=by simp[Go.typeInfo,h]
theorem qbh{P:Program}{t:TypeId}{i:Go.TypeInfo}(h:P.info? t=some i)(w:World):(Go.sizeOf t).run P w=.ok i.size w:=by simp[Go.sizeOf,qlw h]
theorem qjt{P:Program}{t:TypeId}{d:TypeDesc}(h:P.underlying t=some d):∃i,P.info? t=some i:=by
 unfold Program.underlying at h;cases e:P.info? t with
 | none=>rw[e]at h;cases h
 | some i=>exact⟨i,rfl⟩
theorem qez{P:Program}{t:TypeId}{d:TypeDesc}(h:P.underlying t=some d)(w:World):(Go.isAgg t).run P w=.ok (qff P t) w:=by simp only[Go.isAgg,qff,h,Sem.run_bind,Go.run_underlying h,Go.Result.andThen_ok];cases d<;>rfl
theorem qil{P:Program}{w:World}{op:Go.BinOp}{t:TypeId}{x y:Operand}{a b:Value}(h:∀cs,a ≠ .agg cs)(h2:a ≠ .nilIface):(Go.eqGuard op t x y a b).run P w=.ok () w:=by unfold Go.eqGuard;cases op<;>simp<;>(cases a<;>cases b<;>simp_all)
section
variable{P:Program}{E:Env}(hE:Ok P E){s:List V}{a:Act}(hs:qaj E s a.tmps.toList){o:Oper}
include hE hs
theorem zml{op:Go.BinOp}{t yt:TypeId}{x y:Operand}{x' y':A}{isb:Bool}(ho:o.op=.binOp op t x y yt)(ht:isb=true->P.underlying t=some .bool)
  (h1:cA x=some x') (h2:cA y=some y') {v:V} (hv:z1l isb op (x'.ev s) (y'.ev s)=some v):Does P E a o v E.h:=by
 have r1:=qav hs h1;have r2:=qav hs h2;generalize x'.ev s=p at hv r1;generalize y'.ev s=q at hv r2;cases p<;>cases q<;>simp only[z1l]at hv<;>try (cases hv;done)
 case bool.bool b c =>
  unfold rel at r1 r2;have hg:∀w,(Go.eqGuard op t x y (a.eval x) (a.eval y)).run P w=.ok () w:=fun w=>by rw[r1,r2];exact qil (by simp) (by simp)
  rw[r1,r2]at hg;split at hv
  .rename_i hb;have htt:=ht hb;have key:∃u,(Go.binOp op t (.bool b) (.bool c)).run P E.w=.ok u E.w/\rel E v u:=by
    cases op<;>simp only at hv<;>try (cases hv;done)
    case eql=>cases hv;exact⟨_,Go.run_eql_bool _ _ _ _ htt,by unfold rel;rfl⟩
    case neq=>cases hv;exact⟨_,Go.run_neq_bool _ _ _ _ htt,by unfold rel;rfl⟩
   obtain⟨u,hu,hr⟩:=key;refine Does.same hE (u:=u) ?_ hr;simp only[execOp,ho,Sem.run_bind,hg,Go.Result.andThen_ok,r1,r2,hu,Sem.run_pure]
  .cases hv
 case int.int k m k' n =>
  unfold rel at r1 r2;have hg:∀w,(Go.eqGuard op t x y (a.eval x) (a.eval y)).run P w=.ok () w:=fun w=>by rw[r1,r2];exact qil (by simp) (by simp)
  rw[r1,r2]at hg;have key:∃u,(Go.binOp op t (.int k m) (.int k' n)).run P E.w=.ok u E.w/\rel E v u:=by
   cases op<;>simp only[z2u]at hv
   case shl =>
    split at hv
    .cases hv
    .rename_i hne;cases hv;refine⟨_,?_,(by unfold rel;rfl)⟩;simp[Go.binOp,Go.Op.shift,hne]
   case shr =>
    split at hv
    .cases hv
    .rename_i hne;cases hv;refine⟨_,?_,(by unfold rel;rfl)⟩;simp[Go.binOp,Go.Op.shift,hne]
   all_goals
    split at hv
    .rename_i hk;subst hk
     first
      | (cases hv;done)
      | (cases hv;refine⟨_,?_,(by unfold rel;rfl)⟩;simp[Go.binOp,Go.Op.intArith,Go.Op.intCmp,Go.Op.intBits,zxo];done)
      | (split at hv
         .cases hv
         .rename_i hne;cases hv;refine⟨_,?_,(by unfold rel;rfl)⟩;simp[Go.binOp,Go.Op.intDiv,hne])
    .cases hv
  obtain⟨u,hu,hr⟩:=key;refine Does.same hE (u:=u) ?_ hr;simp only[execOp,ho,Sem.run_bind,hg,Go.Result.andThen_ok,r1,r2,hu,Sem.run_pure]
 case str.str m n =>
  unfold rel at r1 r2;have hg:∀w,(Go.eqGuard op t x y (a.eval x) (a.eval y)).run P w=.ok () w:=fun w=>by rw[r1,r2];exact qil (by simp) (by simp)
  rw[r1,r2]at hg;have key:∃u,(Go.binOp op t (.string ⟨m.toArray⟩) (.string ⟨n.toArray⟩)).run P E.w=.ok u E.w/\rel E v u:=by
   cases op<;>simp only[z2v]at hv<;>try (cases hv;done)
   case add =>
    split at hv
    .rename_i hl;cases hv;refine⟨.string ⟨(m++n).toArray⟩,?_,by unfold rel;rfl⟩;rw[Go.binOp_string_add,Go.run_string_add_sum _ _ _ (by simp[ByteArray.size];omega),Go.ByteArray.mk_append_mk]
    .cases hv
   case eql=>cases hv;refine⟨_,by rw[Go.binOp_string_eql];rfl,?_⟩;unfold rel;rw[Go.ByteArray.toList_mk,Go.ByteArray.toList_mk]
   case neq=>cases hv;refine⟨_,by rw[Go.binOp_string_neq];rfl,?_⟩;unfold rel;rw[Go.ByteArray.toList_mk,Go.ByteArray.toList_mk]
  obtain⟨u,hu,hr⟩:=key;refine Does.same hE (u:=u) ?_ hr;simp only[execOp,ho,Sem.run_bind,hg,Go.Result.andThen_ok,r1,r2,hu,Sem.run_pure]
theorem zsh{op:Go.UnOp}{t:TypeId}{x:Operand}{x':A}(ho:o.op=.unOp op t x)(h1:cA x=some x'){v:V}(hv:unV op (x'.ev s)=some v):Does P E a o v E.h:=by
 have r1:=qav hs h1;generalize x'.ev s=p at hv r1;cases p<;>simp only[unV]at hv<;>try (cases hv;done)
 case bool b =>
  unfold rel at r1;cases op<;>simp only at hv<;>try (cases hv;done)
  cases hv;exact Does.same hE (u:=.bool !b) (by simp[execOp,ho,r1,Go.Op.unary]) (by unfold rel;rfl)
 case int k n =>
  unfold rel at r1;cases op<;>simp only at hv<;>try (cases hv;done)
  cases hv;exact Does.same hE (u:=.int k (k.wrap (0-n))) (by simp[execOp,ho,r1,Go.Op.unary,Go.Op.intArith]) (by unfold rel;rfl)
theorem zgk{src dst:TypeId}{c:Cv}{x:Operand}{x':A}(ho:o.op=.convert src dst x)(h1:cA x=some x')
  (hc:(c=.i2s/\(∃k,P.underlying src=some (.int k))/\P.underlying dst=some .string)\/(∃k k',c=.int k/\P.underlying src=some (.int k')/\P.underlying dst=some (.int k))\/(c=.same/\P.underlying src=some .string/\P.underlying dst=some .string))
  {v:V} (hv:q7o c (x'.ev s)=some v) (hk:c=.same->∃l,x'.ev s=.str l):Does P E a o v E.h:=by
 have r1:=qav hs h1;rcases hc with⟨rfl,⟨k,hu⟩,hd⟩ | ⟨k,k',rfl,hu,hd⟩ | ⟨rfl,hu,hd⟩
 .generalize x'.ev s=p at hv r1;cases p<;>simp only[q7o]at hv<;>try (cases hv;done)
  cases hv;unfold rel at r1;refine Does.same hE (u:=.string (Go.Utf8.encode _)) ?_ (by unfold rel;rfl);simp[execOp,ho,r1,Go.convert,Go.run_underlying hu,Go.run_underlying hd,Go.Conv.intToString]
 .generalize x'.ev s=p at hv r1;cases p<;>simp only[q7o]at hv<;>try (cases hv;done)
  cases hv;unfold rel at r1;refine Does.same hE (u:=.int k (k.wrap _)) ?_ (by unfold rel;rfl);simp[execOp,ho,r1,Go.convert,Go.run_underlying hu,Go.run_underlying hd,Go.Conv.intToInt]
 .obtain⟨l,hl⟩:=hk rfl;rw[hl]at hv r1;simp only[q7o]at hv;cases hv;have r2:=r1;unfold rel at r1;refine Does.same hE (u:=.string ⟨l.toArray⟩) ?_ (by unfold rel;rfl);simp[execOp,ho,r1,Go.convert,Go.run_underlying hu,Go.run_underlying hd]
end
theorem zby{P:Program}{t:TypeId}{z:Bool×Nat}(h:szT P t=some z):(∃d,P.underlying t=some d)/\z.1=qff P t/\(z.1=true->z.2=P.cellsOf t):=by
 unfold szT at h;cases e:P.underlying t with
 | none=>rw[e]at h;cases h
 | some d =>
  rw[e]at h;simp only at h;split at h<;>cases h<;>rename_i h1
  .exact⟨⟨d,rfl⟩,h1.symm,fun _=>rfl⟩
  .exact⟨⟨d,rfl⟩,by simp at h1;exact h1.symm,fun h=>by cases h⟩
theorem relL_get?{E:Env}:∀{vs:List V} {us:List Value} {i:Nat} {v:V},qaj E vs us->vs[i]?=some v->∃u,us[i]?=some u/\rel E v u
 | [],_,_,_,_,h=>by simp at h
 | x :: xs,us,0,v,h,e=>by unfold qaj at h;obtain⟨u,us',rfl,h2,_⟩:=h;simp at e;subst e;exact⟨u,by simp,h2⟩
 | x :: xs,us,i+1,v,h,e=>by unfold qaj at h;obtain⟨u,us',rfl,_,h3⟩:=h;obtain⟨u',h4,h5⟩:=relL_get? h3 (by simpa using e);exact⟨u',by simpa using h4,h5⟩
theorem qln{E:Env}{s:List V}{a:Act}(hs:qaj E s a.tmps.toList):∀{l:List Operand} {l':List A},l.mapM cA=some l'->qaj E (l'.map (A.ev s)) (l.map a.eval)
 | [],l',h=>by simp at h;subst h;simp[qaj]
 | x :: xs,l',h=>by
  simp only[List.mapM_cons,bind,Option.bind]at h;cases h1:cA x with
  | none=>rw[h1]at h;cases h
  | some y =>
   rw[h1]at h;simp only at h;cases h2:xs.mapM cA with
   | none=>rw[h2]at h;cases h
   | some ys =>rw[h2]at h;cases h;simp only[List.map_cons];unfold qaj;exact⟨_,_,rfl,qav hs h1,qln hs h2⟩
theorem qex{v:V}{k:Nat}(h:qqn v=some k):∃q n,v=.int q n/\0<=n/\n.toNat=k:=by
 unfold qqn at h;split at h
 .split at h
  .rename_i h0;cases h;exact⟨_,_,rfl,h0,rfl⟩
  .cases h
 .cases h
theorem zor{E:Env}{cs:List V}{us:List Value}(h:qaj E cs us){agg:Bool}{n off:Nat}{v:V}(hp:qrn agg n (cs.drop off)=some v) :
  (agg=true/\rel E v (.agg ((us.drop off).take n).toArray))\/(agg=false/\∃u,us[off]?=some u/\rel E v u):=by
 unfold qrn at hp;cases agg with
 | true =>
  left;simp only[if_true]at hp;split at hp
  .cases hp;refine⟨rfl,?_⟩;unfold rel;exact⟨_,rfl,by simpa using qhr n (qrv off h)⟩
  .cases hp
 | false =>right;simp only[Bool.false_eq_true,if_false]at hp;rw[List.head?_drop]at hp;obtain⟨u,h1,h2⟩:=relL_get? h hp;exact⟨rfl,u,h1,h2⟩
theorem qnh{E:Env}:∀{vs:List V} {b o i:Nat} {v:V},qbb E vs b o->vs[i]?=some v->∃u,E.w.cell? ⟨b,o+i,none⟩=some u/\rel E v u
 | [],_,_,_,_,_,h=>by simp at h
 | x :: xs,b,o,0,v,h,e=>by unfold qbb at h;simp at e;subst e;exact h.1
 | x :: xs,b,o,i+1,v,h,e=>by unfold qbb at h;have:=qnh h.2 (i:=i) (by simpa using e);rw[show o+1+i=o+(i+1)by omega]at this;exact this
theorem qgi{E:Env}:∀(k:Nat) {vs:List V} {b o:Nat},qbb E vs b o->qbb E (vs.drop k) b (o+k)
 | 0,_,_,_,h=>by simpa using h
 | k+1,[],_,_,_=>by simp[qbb]
 | k+1,v :: vs,b,o,h=>by unfold qbb at h;have:=qgi k h.2;rw[show o+1+k=o+(k+1)by omega]at this;simpa using this
theorem qiw{E:Env}:∀{vs:List V} {b o:Nat},qbb E vs b o->∃us:List Value,us.length=vs.length/\(∀j u,us[j]?=some u->E.w.cell? ⟨b,o+j,none⟩=some u)/\qaj E vs us
 | [],b,o,_=>⟨[],rfl,fun j u h=>by simp at h,by simp[qaj]⟩
 | v :: vs,b,o,h=>by
  unfold qbb at h;obtain⟨⟨u,h1,h2⟩,h3⟩:=h;obtain⟨us,h4,h5,h6⟩:=qiw h3;refine⟨u :: us,by simp[h4],fun j u' hj=>?_,?_⟩
  .cases j with
   | zero=>simp at hj;subst hj;simpa using h1
   | succ j =>have:=h5 j u' (by simpa using hj);rw[show o+1+j=o+(j+1)by omega]at this;exact this
  .unfold qaj;exact⟨u,us,rfl,h2,h6⟩
theorem q0o{E:Env}:∀(n:Nat) {vs:List V} {b o:Nat},qbb E vs b o->qbb E (vs.take n) b o
 | 0,_,_,_,_=>by simp[qbb]
 | n+1,[],_,_,_=>by simp[qbb]
 | n+1,v :: vs,b,o,h=>by unfold qbb at h;simp only[List.take_succ_cons];unfold qbb;exact⟨h.1,q0o n h.2⟩
theorem qon{P:Program}{E:Env}{cs:List V}{b o:Nat}(h:qbb E cs b o){t:TypeId}{z:Bool×Nat}(hz:szT P t=some z){v:V}(hp:qrn z.1 z.2 cs=some v) :
  ∃u,(Go.loadVar t ⟨b,o,none⟩).run P E.w=.ok u E.w/\rel E v u:=by
 obtain⟨⟨d,hd⟩,h1,h2⟩:=zby hz;unfold qrn at hp;cases hz1:z.1 with
 | true =>
  rw[hz1]at hp h1;simp only[if_true]at hp;split at hp
  .rename_i hn;cases hp;obtain⟨us,q1,q2,q3⟩:=qiw (q0o z.2 h);obtain⟨i,hi⟩:=qjt hd;have hsz:i.size=us.length:=by
    rw[q1,h2 hz1];simp only[List.length_take,Program.cellsOf,hi,Option.map_some,Option.getD_some];have:=h2 hz1;simp only[Program.cellsOf,hi,Option.map_some,Option.getD_some]at this;omega
   refine⟨.agg us.toArray,?_,by unfold rel;exact⟨_,rfl,by simpa using q3⟩⟩;have hl:=Go.run_loadCells_list (P:=P) E.w ⟨b,o,none⟩ us (fun j u hj=>by rw[qcp];exact q2 j u hj);simp[Go.loadVar,qez hd,<-h1,qbh hi,hsz,hl]
  .cases hp
 | false =>
  rw[hz1]at hp h1;simp only[Bool.false_eq_true,if_false]at hp;rw[List.head?_eq_getElem?]at hp;obtain⟨u,q1,q2⟩:=qnh h hp;refine⟨u,?_,q2⟩;have q1':E.w.cell? ⟨b,o,none⟩=some u:=by simpa using q1
  simp[Go.loadVar,qez hd,<-h1,q1']
theorem zfk{P:Program}{E:Env}(hE:Ok P E){id g el off:Nat}{u:Value}{row:List V}(hr:rel E (.ptr id g el off) u)(h:q7i E.h id g el=some row) :
  ∃b x,u=.pointer (some ⟨b,x,none⟩)/\qbb E (row.drop off) b x:=by
 unfold rel at hr;obtain⟨_,_,b,x,hu,hb⟩:=hr;refine⟨b,x,hu,?_⟩;unfold q7i at h;split at h
 .rename_i g' n els ho;split at h
  .rename_i hc;subst hc;obtain⟨C,q1,q2⟩:=hb _ ho rfl (by simp[qje]);have hro:=hE.obj id _ ho;unfold qem at hro;rcases hro.2 with h1 | ⟨b',C',cs,ty,r1,r2,r3,r4,r5,r6,r7⟩
   .rw[q1]at h1;cases h1.1
   .rw[q1]at r1;cases r1;obtain⟨_,h2⟩:=qcl r7 h;have:=qgi off h2;rw[q2];simpa[qco,Nat.add_mul]using this
  .cases h
 .rename_i g' n els ho;split at h
  .rename_i hc;subst hc;obtain⟨C,q1,q2⟩:=hb _ ho rfl (by simp[qje]);have hro:=hE.obj id _ ho;unfold qem at hro;rcases hro.2 with h1 | ⟨b',C',cs,ty,r1,r2,r3,r4,r5,r6,r7⟩
   .rw[q1]at h1;cases h1.1
   .rw[q1]at r1;cases r1;obtain⟨_,h2⟩:=qcl r7 h;have:=qgi off h2;rw[q2];simpa[qco,Nat.add_mul]using this
  .cases h
 .cases h
theorem q4g{P:Program}{E:Env}(hE:Ok P E){id off:Nat}{u:Value}{cells:List V}(hr:rel E (.bptr id off) u)(h:q1p E.h id=some cells) :
  ∃b C cs ty,u=.pointer (some ⟨b,off,none⟩)/\E.b id=some (b,C)/\¬E.S b/\E.w.heap[b]?=some (.cells cs ty (0,0))/\cs.size=cells.length/\qbb E cells b 0:=by
 unfold rel at hr;obtain⟨_,b,x,hu,hb⟩:=hr;unfold q1p at h;split at h
 .rename_i g' cells' ho;cases h;obtain⟨⟨C,q1⟩,rfl⟩:=hb _ ho (by simp[qje]);have hro:=hE.obj id _ ho;unfold qem at hro;rcases hro with h1 | ⟨b',C',cs,ty,r1,r2,r3,r4,r5⟩
  .rw[q1]at h1;cases h1
  .rw[q1]at r1;cases r1;exact⟨b,C,cs,ty,hu,q1,r2,r3,r4,r5⟩
 .cases h
theorem q5n{P:Program}{E:Env}(hE:Ok P E){t:TypeId}{z:Bool×Nat}(hz:szT P t=some z){p v:V}{u:Value}(hp:rel E p u)(h:qhc E.h z.1 z.2 p=some v) :
  ∃b x,u=.pointer (some ⟨b,x,none⟩)/\∃r,(Go.loadVar t ⟨b,x,none⟩).run P E.w=.ok r E.w/\rel E v r:=by
 unfold qhc at h;split at h
 .unfold rel at hp;obtain⟨b,o,hu,_,_,h4⟩:=hp;exact⟨b,o,hu,qon h4 hz h⟩
 .unfold rel at hp;obtain⟨b,o,_,h4,h5⟩:=hp;rcases h5 with⟨_,hu⟩ | ⟨h5,_⟩
  .exact⟨b,o,hu,qon h4 hz h⟩
  .cases h5
 .rename_i id g el off;split at h
  .rename_i row hrow;obtain⟨b,x,hu,h4⟩:=zfk hE hp hrow;exact⟨b,x,hu,qon h4 hz h⟩
  .cases h
 .rename_i id off;split at h
  .rename_i row hrow;obtain⟨b,C,cs,ty,hu,_,_,_,_,h4⟩:=q4g hE hp hrow;have:=qgi off h4;rw[Nat.zero_add]at this;exact⟨b,off,hu,qon this hz h⟩
  .cases h
 .cases h
section
variable{P:Program}{E:Env}(hE:Ok P E){s:List V}{a:Act}(hs:qaj E s a.tmps.toList){o:Oper}
include hE hs
theorem zgp{t:TypeId}{x:Operand}{x':A}{z:Bool×Nat}(ho:o.op=.load t x)(hz:szT P t=some z)(h1:cA x=some x'){v:V}(hv:qhc E.h z.1 z.2 (x'.ev s)=some v):Does P E a o v E.h:=by obtain⟨b,y,hu,r,h2,h3⟩:=q5n hE hz (qav hs h1) hv;exact Does.same hE (u:=r) (by simp[execOp,ho,hu,Go.Instr.loadAt,Go.Instr.sureAddr,h2]) h3
theorem qoh{x:Operand}{x':A}(ho:o.op=.nilCheck x)(h1:cA x=some x')(hv:(∃c,x'.ev s=.iptr c)\/(∃i g e q,x'.ev s=.ptr i g e q)\/(∃f p q,x'.ev s=.fn f p q)\/∃i q,x'.ev s=.bptr i q):Does P E a o (x'.ev s) E.h:=by
 have r1:=qav hs h1;have r2:=r1;rcases hv with⟨c,hc⟩ | ⟨i,g,e,q,hc⟩ | ⟨f,p,q,hc⟩ | ⟨i,q,hc⟩
 .rw[hc]at r1;unfold rel at r1;obtain⟨b,y,hu,_⟩:=r1;exact Does.same hE (u:=a.eval x) (by simp[execOp,ho,hu]) r2
 .rw[hc]at r1;unfold rel at r1;obtain⟨_,_,b,y,hu,_⟩:=r1;exact Does.same hE (u:=a.eval x) (by simp[execOp,ho,hu]) r2
 .rw[hc]at r1;unfold rel at r1;obtain⟨p',q',⟨_,hu⟩ | ⟨_,_,w,_,hu⟩,_⟩:=r1
  all_goals exact Does.same hE (u:=a.eval x) (by simp[execOp,ho,hu]) r2
 .rw[hc]at r1;unfold rel at r1;obtain⟨_,b,y,hu,_⟩:=r1;exact Does.same hE (u:=a.eval x) (by simp[execOp,ho,hu]) r2
theorem zgr{f:Nat}{first caps:Array Operand}{f' c':List A}(ho:o.op=.makeFunc (.func f) first caps)(hlt:f<500000)(h1:first.toList.mapM cA=some f')(h2:caps.toList.mapM cA=some c') :
  Does P E a o (.fn f (f'.map (A.ev s)) (c'.map (A.ev s))) E.h:=by
 refine Does.same hE (u:=.func (.func f) (first.map a.eval) (caps.map a.eval)) (by simp[execOp,ho,Go.Instr.makeFunc]) ?_;unfold rel;exact⟨_,_,.inl ⟨jS hlt (by decide),by rw[qrr hlt]⟩,by simpa using qln hs h1,by simpa using qln hs h2⟩
theorem zgs{t:TypeId}{x:Operand}{x':A}(ho:o.op=.makeInterface t x)(ht:∃d,P.underlying t=some d/\∀m,d ≠ .interface m)(h1:cA x=some x'):Does P E a o (.fn (t+1000000) [x'.ev s] []) E.h:=by
 obtain⟨d,hd,hi⟩:=ht;refine Does.same hE (u:=.iface t (a.eval x)) ?_ ?_
 .simp only[execOp,ho,Go.Instr.makeInterface,Sem.run_bind,Go.run_underlying hd,Go.Result.andThen_ok];cases d<;>simp_all
 .unfold rel;exact⟨#[a.eval x],#[],.inr ⟨by omega,rfl,_,rfl,by simp⟩,by simpa[qaj]using qav hs h1,by simp[qaj]⟩
theorem zmr{x:Operand}{x':A}{i:Nat}(ho:o.op=.extract x i)(h1:cA x=some x'){vs:List V}(hx:x'.ev s=.tup vs){v:V}(hv:vs[i]?=some v):Does P E a o v E.h:=by
 have r1:=qav hs h1;rw[hx]at r1;unfold rel at r1;obtain⟨us,hu,hl⟩:=r1;obtain⟨u,h2,h3⟩:=relL_get? hl hv;have h2':us[i]?=some u:=by simpa using h2
 exact Does.same hE (u:=u) (by simp[execOp,ho,hu,Go.Instr.extract,h2']) h3
omit hE hs in
theorem zbj{t:TypeId}{z:Bool×Nat}(hz:szT P t=some z){cs:List V}{us:Array Value}(hl:qaj E cs us.toList){off:Nat}{v:V}(hp:qrn z.1 z.2 (cs.drop off)=some v) :
  ∃u,(Go.part t us off).run P E.w=.ok u E.w/\rel E v u:=by
 obtain⟨⟨d,hd⟩,h1,h2⟩:=zby hz;rcases zor hl hp with⟨ha,hr⟩ | ⟨ha,u,hu,hr⟩
 .obtain⟨i,hi⟩:=qjt hd;refine⟨_,?_,hr⟩;have hsz:i.size=z.2:=by rw[h2 ha];simp[Program.cellsOf,hi]
  rw[ha]at h1;simp only[Go.part,Sem.run_bind,qez hd,Go.Result.andThen_ok,<-h1,if_true,qbh hi,Sem.run_pure,hsz];congr 2;apply Array.ext';simp
 .refine⟨u,?_,hr⟩;rw[ha]at h1;have hu':us[off]?=some u:=by simpa using hu
  simp[Go.part,qez hd,<-h1,hu']
theorem zms{t:TypeId}{x:Operand}{x':A}{f:Nat}{fs:Array Go.Field}{fd:Go.Field}{z:Bool×Nat}(ho:o.op=.field t x f)(ht:P.underlying t=some (.struct fs))(hf:fs[f]?=some fd)(hz:szT P fd.type=some z)
  (h1:cA x=some x') {cs:List V} (hx:x'.ev s=.agg cs) {v:V} (hv:qrn z.1 z.2 (cs.drop fd.offset)=some v):Does P E a o v E.h:=by
 have r1:=qav hs h1;rw[hx]at r1;unfold rel at r1;obtain⟨us,hu,hl⟩:=r1;obtain⟨u,h2,h3⟩:=zbj hz hl hv;exact Does.same hE (u:=u) (by simp[execOp,ho,hu,Go.Instr.field,Go.run_underlying ht,hf,Go.asAgg,h2]) h3
theorem qsr{t:TypeId}{x:Operand}{x':A}{f:Nat}{fs:Array Go.Field}{fd:Go.Field}(ho:o.op=.fieldAddr t x f)(ht:P.underlying t=some (.struct fs))(hf:fs[f]?=some fd)(hz:P.cellsOf fd.type≠0)
  (h1:cA x=some x') {v:V} (hv:(∃c,x'.ev s=.iptr c/\v=.iptr (c.drop fd.offset))\/(∃i g e q,x'.ev s=.ptr i g e q/\v=.ptr i g e (q+fd.offset))\/∃i q,x'.ev s=.bptr i q/\v=.bptr i (q+fd.offset)):Does P E a o v E.h:=by
 have r1:=qav hs h1;obtain⟨i,hi,hsz⟩:=qct hz;have run:∀b y,a.eval x=.pointer (some ⟨b,y,none⟩)->(execOp a.eval o).run P E.w=.ok (.value (.pointer (some ⟨b,y+fd.offset,none⟩))) E.w:=by
  intro b y hu;have hne:i.size≠0:=by omega
  simp[execOp,ho,hu,Go.Instr.fieldAt,Go.run_underlying ht,hf,Go.Instr.sureAddr,Go.fieldPlace,qbh hi,hne,qcp]
 rcases hv with⟨c,hc,rfl⟩ | ⟨i,g,e,q,hc,rfl⟩ | ⟨i,q,hc,rfl⟩
 .rw[hc]at r1;unfold rel at r1;obtain⟨b,y,hu,h2,h3,h4⟩:=r1;refine Does.same hE (run b y hu) ?_;unfold rel;refine⟨b,_,rfl,h2,?_,qgi _ h4⟩
  -- what is left of pure cells is pure
  have drop:∀(k:Nat) (l:List V),qeq 0 l=true->qeq 0 (l.drop k)=true:=by
   intro k;induction k with
   | zero=>intro l h;simpa using h
   | succ k ih =>
    intro l h;cases l with
    | nil=>rfl
    | cons v vs=>simp only[qeq,jE]at h;simpa using ih vs h.2
  exact drop _ _ h3
 .rw[hc]at r1;unfold rel at r1;obtain⟨h2,h3,b,y,hu,h4⟩:=r1;refine Does.same hE (run b y hu) ?_;unfold rel;refine⟨h2,h3,b,_,rfl,fun o' ho' hg ht=>?_⟩;obtain⟨h5,h6,h7⟩:=h4 o' ho' hg ht;exact⟨h5,h6,by omega⟩
 .rw[hc]at r1;unfold rel at r1;obtain⟨h2,b,y,hu,h4⟩:=r1;refine Does.same hE (run b y hu) ?_;unfold rel;refine⟨h2,b,_,rfl,fun o' ho' ht=>?_⟩;obtain⟨h5,h6⟩:=h4 o' ho' ht;exact⟨h5,by omega⟩
theorem zgm{t e:TypeId}{n:Nat}{x i:Operand}{x' i':A}{z:Bool×Nat}(ho:o.op=.index t x i)(ht:P.underlying t=some (.array n e))(hz:szT P e=some z)(hz2:z.2=P.cellsOf e)(hz3:z.2≠0)
  (h1:cA x=some x') (h2:cA i=some i') {cs:List V} (hx:x'.ev s=.agg cs) {k:Nat} (hi:qqn (i'.ev s)=some k) (hk:k<n) {v:V} (hv:qrn z.1 z.2 (cs.drop (k*z.2))=some v):Does P E a o v E.h:=by
 have r1:=qav hs h1;rw[hx]at r1;unfold rel at r1;obtain⟨us,hu,hl⟩:=r1;obtain⟨q,m,hm,h0,hmk⟩:=qex hi;have r2:=qav hs h2;rw[hm]at r2;unfold rel at r2;obtain⟨u,h3,h4⟩:=zbj hz hl hv;obtain⟨inf,hinf,hsz⟩:=qct (P:=P) (t:=e) (by omega);have hlt:m<(n:Int):=by omega
 refine Does.same hE (u:=u) ?_ h4;have h3':(Go.part e us (m.toNat*inf.size)).run P E.w=.ok u E.w:=by rw[hmk,hsz,<-hz2];exact h3
 simp[execOp,ho,hu,r2,Go.Instr.index,Go.asIntOf,Go.run_underlying ht,h0,hlt,qbh hinf,h3']
theorem zgn{t:TypeId}{x i:Operand}{x' i':A}(ho:o.op=.index t x i)(ht:P.underlying t=some .string)
  (h1:cA x=some x') (h2:cA i=some i') {l:List UInt8} (hx:x'.ev s=.str l) {k:Nat} (hi:qqn (i'.ev s)=some k) {b:UInt8} (hb:l[k]?=some b):Does P E a o (.int .u8 b.toNat) E.h:=by
 have r1:=qav hs h1;rw[hx]at r1;unfold rel at r1;obtain⟨q,m,hm,h0,hmk⟩:=qex hi;have r2:=qav hs h2;rw[hm]at r2;unfold rel at r2;have hlt:=(jG.1 hb).1;have hget:(ByteArray.mk l.toArray)[m.toNat]?=some b:=by rw[hmk,Go.ByteArray.getElem?_lt' _ _ (by simpa[ByteArray.size]using hlt)];have:=(jG.1 hb).2;congr 1
 refine Does.same hE (u:=.int .u8 b.toNat) ?_ (by unfold rel;rfl);simp[execOp,ho,r1,r2,Go.Instr.index,Go.asIntOf,Go.run_underlying ht,h0,hget]
end
theorem q5p{n:Nat}:∀(k:Nat) (l:List V),qeq n l=true->qeq n (l.drop k)=true
 | 0,l,h=>by simpa using h
 | k+1,[],_=>rfl
 | k+1,v :: vs,h=>by simp only[qeq,jE]at h;simpa using q5p k vs h.2
theorem q1m{y:Addr}(h:y.spot=none)(n:Nat):y.add n=⟨y.block,y.off+n,none⟩:=by obtain⟨b,o,sp⟩:=y;simp only at h;subst h;exact qcp b o n
section
variable{P:Program}{E:Env}(hE:Ok P E){s:List V}{a:Act}(hs:qaj E s a.tmps.toList){o:Oper}
include hE hs
theorem qpu{t e:TypeId}{n:Nat}{x i:Operand}{x' i':A}(ho:o.op=.indexAddr t x i)(ht:P.underlying t=some (.array n e))(hz:P.cellsOf e≠0)
  (h1:cA x=some x') (h2:cA i=some i') {k:Nat} (hi:qqn (i'.ev s)=some k) (hk:k<n) {v:V}
  (hv:(∃c,x'.ev s=.iptr c/\v=.iptr (c.drop (k*P.cellsOf e)))\/(∃j g el q,x'.ev s=.ptr j g el q/\v=.ptr j g el (q+k*P.cellsOf e))\/∃j q,x'.ev s=.bptr j q/\v=.bptr j (q+k*P.cellsOf e)):Does P E a o v E.h:=by
 have r1:=qav hs h1;obtain⟨q0,m,hm,h0,hmk⟩:=qex hi;have r2:=qav hs h2;rw[hm]at r2;unfold rel at r2;obtain⟨inf,hinf,hsz⟩:=qct hz;have hlt:m<(n:Int):=by omega
 have run:∀b y,a.eval x=.pointer (some ⟨b,y,none⟩)->(execOp a.eval o).run P E.w=.ok (.value (.pointer (some ⟨b,y+k*P.cellsOf e,none⟩))) E.w:=by intro b y hu;simp only[execOp,ho,hu,r2,Go.Instr.indexAt,Go.asIntOf,Sem.run_bind,Sem.run_pure,Go.Result.andThen_ok,Go.run_underlying ht,Go.Instr.sureAddr,h0,hlt,true_and,if_true,qbh hinf,qcp,hmk,hsz]
 rcases hv with⟨c,hc,rfl⟩ | ⟨j,g,el,q,hc,rfl⟩ | ⟨j,q,hc,rfl⟩
 .rw[hc]at r1;unfold rel at r1;obtain⟨b,y,hu,g2,g3,g4⟩:=r1;refine Does.same hE (run b y hu) ?_;unfold rel;exact⟨b,_,rfl,g2,q5p _ _ g3,qgi _ g4⟩
 .rw[hc]at r1;unfold rel at r1;obtain⟨g2,g3,b,y,hu,g4⟩:=r1;refine Does.same hE (run b y hu) ?_;unfold rel;refine⟨g2,g3,b,_,rfl,fun o' ho' hg ht=>?_⟩;obtain⟨h5,h6,h7⟩:=g4 o' ho' hg ht;exact⟨h5,h6,by omega⟩
 .rw[hc]at r1;unfold rel at r1;obtain⟨g2,b,y,hu,g4⟩:=r1;refine Does.same hE (run b y hu) ?_;unfold rel;refine⟨g2,b,_,rfl,fun o' ho' ht=>?_⟩;obtain⟨h5,h6⟩:=g4 o' ho' ht;exact⟨h5,by omega⟩
omit hE hs in
theorem qpa{t e:TypeId}{x i:Operand}{q:IntKind}{m:Int}(ho:o.op=.indexAddr t x i)(ht:P.underlying t=some (.slice e))(hz:P.cellsOf e≠0)(hi:a.eval i=.int q m)(h0:0<=m)
  {y:Addr} {len cap:Nat} (hx:a.eval x=.slice (some y) len cap) (hm:m<(len:Int)):(execOp a.eval o).run P E.w=.ok (.value (.pointer (some (y.add (m.toNat*P.cellsOf e))))) E.w:=by
 obtain⟨inf,hinf,hsz⟩:=qct hz;simp only[execOp,ho,hx,hi,Go.Instr.indexAt,Go.asIntOf,Sem.run_bind,Sem.run_pure,Go.Result.andThen_ok,Go.run_underlying ht,h0,hm,true_and,if_true,qbh hinf,hsz]
theorem qlg{t e:TypeId}{x i:Operand}{x' i':A}(ho:o.op=.indexAddr t x i)(ht:P.underlying t=some (.slice e))(hz:P.cellsOf e≠0)
  (h1:cA x=some x') (h2:cA i=some i') {k:Nat} (hi:qqn (i'.ev s)=some k) {v:V}
  (hv:(∃els r,x'.ev s=.imm els/\els[k]?=some r/\r.length=P.cellsOf e/\v=.iptr r)\/(∃id g off len,x'.ev s=.sl id g (P.cellsOf e) off len/\k<len/\v=.ptr id g (off+k) 0)\/(∃id off len,x'.ev s=.bsl id off (P.cellsOf e) len/\k<len/\v=.bptr id (off+k*P.cellsOf e))\/(∃cs,x'.ev s=.view false cs/\k<cs.length/\P.cellsOf e=1/\v=.view true (cs.drop k))):Does P E a o v E.h:=by
 have r1:=qav hs h1;obtain⟨q0,m,hm,h0,hmk⟩:=qex hi;have r2:=qav hs h2;rw[hm]at r2;unfold rel at r2;rcases hv with⟨els,r,hc,hr,hl,rfl⟩ | ⟨id,g,off,len,hc,hk,rfl⟩ | ⟨id,off,len,hc,hk,rfl⟩ | ⟨cs,hc,hk,he1,rfl⟩
 rotate_left 3
 .rw[hc]at r1;unfold rel at r1;obtain⟨b,x0,hS,hat,hor⟩:=r1;rcases hor with⟨h5,_⟩ | ⟨_,cap,hu,hcap⟩
  .cases h5
  .refine Does.same hE (qpa ho ht hz r2 h0 hu (by omega)) ?_;rw[qcp,hmk,he1,Nat.mul_one];unfold rel;exact⟨b,_,hS,qgi k hat,.inl ⟨rfl,rfl⟩⟩
 rotate_left 2
 .rw[hc]at r1;unfold rel at r1;obtain⟨g1,b,x0,cap,hu,hcap,h3⟩:=r1;refine Does.same hE (qpa ho ht hz r2 h0 hu (by omega)) ?_;rw[qcp,hmk];unfold rel;refine⟨g1,b,_,rfl,fun o' ho' ht'=>?_⟩;obtain⟨d1,d2⟩:=h3 (by omega) o' ho' ht';exact⟨d1,by omega⟩
 .rw[hc]at r1;unfold rel at r1;obtain⟨ad,cap,hu,hcap,hp,hor⟩:=r1;have hlt:=(jG.1 hr).1;rcases hor with rfl | ⟨b,y,n,rfl,hn,hS,hrows⟩
  .simp at hlt
  .obtain⟨g1,g2⟩:=qcl hrows hr;have hn':n=P.cellsOf e:=by omega
   refine Does.same hE (qpa ho ht hz r2 h0 hu (by omega)) ?_;rw[qcp,hmk,<-hn'];unfold rel;refine⟨b,_,rfl,hS,?_,g2⟩;simp only[qce,jP]at hp;exact qne (by simpa[jP]using hp r (jR hr))
 .rw[hc]at r1;unfold rel at r1;obtain⟨g1,g2,ad,cap,hu,c1,c2,c3,c4⟩:=r1;cases ad with
  | none=>have:=c2 rfl;omega
  | some y =>
   refine Does.same hE (qpa ho ht hz r2 h0 hu (by omega)) ?_;rw[q1m (c3 y rfl (by omega)),hmk];unfold rel;refine⟨g1,g2,y.block,_,rfl,fun o' ho' hg ht'=>?_⟩;obtain⟨d1,d2,d3⟩:=c4 o' ho' hg ht';rcases d3 with⟨_,d4⟩ | ⟨b,C,z,d4,d5,d6,d7⟩
   .omega
   .cases d5;refine⟨C,d4,?_⟩;have:=d7 (.inl (by omega));show z+k*P.cellsOf e=(C.2+(off+k))*qco o'.k+0;rw[<-d2,<-Nat.add_assoc,Nat.add_mul];omega
theorem zaa{x:Operand}{x':A}{t:TypeId}{c:Go.Call}{isStr:Bool}(ho:o.op=.call c)(hc:c.callee=.builtin .len)(ha:c.args.toList=[x])(hat:c.argTypes.toList=[t])
  (ht:(isStr=true/\P.underlying t=some .string)\/(isStr=false/\∃e,P.underlying t=some (.slice e))) (h1:cA x=some x') {n:Nat} (hv:zyr isStr (x'.ev s)=some n):Does P E a o (.int .i64 n) E.h:=by
 have r1:=qav hs h1;have ha':c.args=#[x]:=by rw[<-Array.toList_inj];simpa using ha
 have hat':c.argTypes=#[t]:=by rw[<-Array.toList_inj];simpa using hat
 have run:∀u:Value,(∃b,P.underlying t=some .string/\u=.string b/\b.size=n)\/(∃e ad cap,P.underlying t=some (.slice e)/\u=.slice ad n cap)->a.eval x=u->(execOp a.eval o).run P E.w=.ok (.value (.int .i64 n)) E.w:=by
  rintro u (⟨b,g1,rfl,g2⟩ | ⟨e,ad,cap,g1,rfl⟩) hu
  .simp[execOp,ho,Go.resolve,hc,ha',hat',hu,Go.invoke,Go.builtin,Go.Builtin.len_,Go.run_underlying g1,Go.goInt,g2]
  .simp[execOp,ho,Go.resolve,hc,ha',hat',hu,Go.invoke,Go.builtin,Go.Builtin.len_,Go.run_underlying g1,Go.goInt]
 refine Does.same hE (u:=.int .i64 n) ?_ (by unfold rel;rfl);generalize hx:x'.ev s=p at r1 hv;rcases ht with⟨rfl,hu⟩ | ⟨rfl,e,he⟩
 .cases p<;>simp[zyr]at hv
  case str l =>unfold rel at r1;exact run _ (.inl ⟨_,hu,rfl,by simpa[ByteArray.size]using hv⟩) r1
  case view q cs=>cases q<;>simp at hv
 .cases p<;>simp[zyr]at hv
  case nils =>unfold rel at r1;obtain⟨ad,hu⟩:=r1;subst hv;exact run _ (.inr ⟨e,ad,0,he,rfl⟩) hu
  case imm els =>unfold rel at r1;obtain⟨ad,cap,hu,_⟩:=r1;subst hv;exact run _ (.inr ⟨e,ad,cap,he,rfl⟩) hu
  case sl id g m off len =>unfold rel at r1;obtain⟨_,_,ad,cap,hu,_⟩:=r1;subst hv;exact run _ (.inr ⟨e,ad,cap,he,rfl⟩) hu
  case bsl id off m len =>unfold rel at r1;obtain⟨_,b,x0,cap,hu,_⟩:=r1;subst hv;exact run _ (.inr ⟨e,_,cap,he,rfl⟩) hu
  case view q cs =>
   cases q with
   | true=>simp at hv
   | false =>
    simp at hv;unfold rel at r1;obtain⟨b,x0,_,_,hor⟩:=r1;rcases hor with⟨h5,_⟩ | ⟨_,cap,hu,_⟩
    .cases h5
    .subst hv;exact run _ (.inr ⟨e,_,cap,he,rfl⟩) hu
omit hE in
theorem qgn{y:Option A}{y0:Option Operand}(hy:q1u y0=some y){d m:Nat}(hm:qcq s y d=some m):(y0=none/\m=d)\/∃z q k,y0=some z/\a.eval z=.int q k/\0<=k/\k.toNat=m:=by
 unfold q1u at hy;cases y0 with
 | none=>simp only at hy;cases hy;simp only[qcq]at hm;cases hm;exact .inl ⟨rfl,rfl⟩
 | some z =>
  simp only at hy;cases hz:cA z with
  | none=>rw[hz]at hy;cases hy
  | some z' =>rw[hz]at hy;cases hy;simp only[qcq]at hm;obtain⟨q,k,hk,h0,h1⟩:=qex hm;have r:=qav hs hz;rw[hk]at r;unfold rel at r;exact .inr ⟨z,q,k,rfl,r,h0,h1⟩
theorem zgv{t e:TypeId}{n:Nat}{x:Operand}{x':A}{lo hi:Option Operand}{lo' hi':Option A}(ho:o.op=.slice t x lo hi none)(ht:P.underlying t=some (.array n e))(hz:P.cellsOf e≠0)(h1:cA x=some x')(h2:q1u lo=some lo')(h3:q1u hi=some hi')
  {id p:Nat} (hx:x'.ev s=.bptr id p) {i j:Nat} (hi1:qcq s lo' 0=some i) (hj1:qcq s hi' n=some j) (hle:i<=j) (hjl:j<=n):Does P E a o (.bsl id (p+i*P.cellsOf e) (P.cellsOf e) (j-i)) E.h:=by
 obtain⟨inf,hinf,hsz⟩:=qct hz;have r1:=qav hs h1;rw[hx]at r1;unfold rel at r1;obtain⟨g1,b,y,hu,g2⟩:=r1;have bd:∀(q:IntKind) (k:Int) (y:Nat) (code:Go.BoundsCode),0<=k->k.toNat<=y->(Go.Instr.sliceBound (.int q k) y code).run P E.w=.ok k.toNat E.w:=fun q k y code h0 h1=>Go.run_sliceBound E.w q k y code h0 (by omega);have run:(execOp a.eval o).run P E.w=.ok (.value (.slice (some (if n=i then⟨b,y,none⟩else⟨b,y+i*P.cellsOf e,none⟩)) (j-i) (n-i))) E.w:=by
  rcases qgn hs h2 hi1 with⟨rfl,rfl⟩ | ⟨zl,ql,kl,rfl,hl1,hl2,rfl⟩<;>rcases qgn hs h3 hj1 with⟨rfl,rfl⟩ | ⟨zh,qh,kh,rfl,hh1,hh2,rfl⟩
  .simp[execOp,ho,hu,Go.Instr.sliceAt,Go.Instr.sureAddr,Go.run_underlying ht,Go.Instr.sliceBounds,qbh hinf,hsz,qcp]
  .have b2:=bd qh kh n .sliceAlen hh2 hjl;simp[execOp,ho,hu,Go.Instr.sliceAt,Go.Instr.sureAddr,Go.run_underlying ht,Go.Instr.sliceBounds,qbh hinf,hsz,qcp,hh1,b2]
  .have b1:=bd ql kl j .sliceB hl2 hle;simp[execOp,ho,hu,Go.Instr.sliceAt,Go.Instr.sureAddr,Go.run_underlying ht,Go.Instr.sliceBounds,qbh hinf,hsz,qcp,hl1,b1]
  .have b2:=bd qh kh n .sliceAlen hh2 hjl;have b1:=bd ql kl kh.toNat .sliceB hl2 hle;simp[execOp,ho,hu,Go.Instr.sliceAt,Go.Instr.sureAddr,Go.run_underlying ht,Go.Instr.sliceBounds,qbh hinf,hsz,qcp,hl1,hh1,b1,b2]
 refine Does.same hE run ?_;unfold rel;by_cases hni:n=i
 .rw[if_pos hni];exact⟨g1,b,y,_,rfl,by omega,fun h=>by omega⟩
 .rw[if_neg hni];refine⟨g1,b,_,_,rfl,by omega,fun _ o' ho' ht'=>?_⟩;obtain⟨h5,h6⟩:=g2 o' ho' ht';exact⟨h5,by omega⟩
theorem zgx{t:TypeId}{x:Operand}{x':A}{lo hi:Option Operand}{lo' hi':Option A}(ho:o.op=.slice t x lo hi none)(ht:P.underlying t=some .string)(h1:cA x=some x')(h2:q1u lo=some lo')(h3:q1u hi=some hi')
  {l:List UInt8} (hx:x'.ev s=.str l) {i j:Nat} (hi1:qcq s lo' 0=some i) (hj1:qcq s hi' l.length=some j) (hle:i<=j) (hjl:j<=l.length):Does P E a o (.str ((l.drop i).take (j-i))) E.h:=by
 have r1:=qav hs h1;rw[hx]at r1;unfold rel at r1;have e1:(ByteArray.mk l.toArray).extract i j=⟨((l.drop i).take (j-i)).toArray⟩:=by apply ByteArray.ext;apply Array.ext';simp
 refine Does.same hE (u:=.string ⟨((l.drop i).take (j-i)).toArray⟩) ?_ (by unfold rel;rfl);have sz:(ByteArray.mk l.toArray).size=l.length:=by simp[ByteArray.size]
 have bd:∀(q:IntKind) (k:Int) (y:Nat) (code:Go.BoundsCode),0<=k->k.toNat<=y->(Go.Instr.sliceBound (.int q k) y code).run P E.w=.ok k.toNat E.w:=fun q k y code h0 h1=>Go.run_sliceBound E.w q k y code h0 (by omega);rcases qgn hs h2 hi1 with⟨rfl,rfl⟩ | ⟨zl,ql,kl,rfl,hl1,hl2,rfl⟩<;>rcases qgn hs h3 hj1 with⟨rfl,rfl⟩ | ⟨zh,qh,kh,rfl,hh1,hh2,rfl⟩
 .simp[execOp,ho,r1,Go.Instr.sliceAt,Go.Instr.slice,Go.run_underlying ht,Go.Instr.sliceBounds]
 .have b2:=bd qh kh l.length .sliceAlen hh2 hjl;simp[execOp,ho,r1,Go.Instr.sliceAt,Go.Instr.slice,Go.run_underlying ht,Go.Instr.sliceBounds,sz,hh1,b2];simpa using e1
 .have b1:=bd ql kl l.length .sliceB hl2 hle;simp[execOp,ho,r1,Go.Instr.sliceAt,Go.Instr.slice,Go.run_underlying ht,Go.Instr.sliceBounds,sz,hl1,b1];simpa using e1
 .have b2:=bd qh kh l.length .sliceAlen hh2 hjl;have b1:=bd ql kl kh.toNat .sliceB hl2 hle;simp[execOp,ho,r1,Go.Instr.sliceAt,Go.Instr.slice,Go.run_underlying ht,Go.Instr.sliceBounds,sz,hl1,hh1,b1,b2];simpa using e1
end
section
variable{P:Program}{E:Env}(hE:Ok P E){s:List V}{a:Act}(hs:qaj E s a.tmps.toList){o:Oper}
include hE hs
omit hE in
theorem qpb{t e:TypeId}{x:Operand}{lo hi mx:Option Operand}{lo' hi' mx':Option A}(ho:o.op=.slice t x lo hi mx)(ht:P.underlying t=some (.slice e))(hz:P.cellsOf e≠0)
  (h2:q1u lo=some lo') (h3:q1u hi=some hi') (h4:q1u mx=some mx') {ad:Option Addr} {len cap:Nat} (hx:a.eval x=.slice ad len cap) (hlc:len<=cap)
  {i j m:Nat} (hi1:qcq s lo' 0=some i) (hj1:qcq s hi' len=some j) (hm1:qcq s mx' cap=some m) (hle:i<=j) (hjm:j<=m) (hmc:m<=cap) (hmx:hi=none->mx=none) :
  (execOp a.eval o).run P E.w=.ok (.value (.slice (if m=i then ad else ad.map (·.add (i*P.cellsOf e))) (j-i) (m-i))) E.w:=by
 obtain⟨inf,hinf,hsz⟩:=qct hz;have bd:∀(q:IntKind) (k:Int) (y:Nat) (code:Go.BoundsCode),0<=k->k.toNat<=y->(Go.Instr.sliceBound (.int q k) y code).run P E.w=.ok k.toNat E.w:=fun q k y code h0 h1=>Go.run_sliceBound E.w q k y code h0 (by omega);rcases qgn hs h4 hm1 with⟨rfl,rfl⟩ | ⟨zm,qm,km,rfl,hm2,hm3,rfl⟩
 .rcases qgn hs h2 hi1 with⟨rfl,rfl⟩ | ⟨zl,ql,kl,rfl,hl1,hl2,rfl⟩<;>rcases qgn hs h3 hj1 with⟨rfl,rfl⟩ | ⟨zh,qh,kh,rfl,hh1,hh2,rfl⟩
  .simp[execOp,ho,hx,Go.Instr.sliceAt,Go.Instr.slice,Go.run_underlying ht,Go.Instr.sliceBounds,qbh hinf]
  .have b2:=bd qh kh m .sliceAcap hh2 hjm;simp[execOp,ho,hx,Go.Instr.sliceAt,Go.Instr.slice,Go.run_underlying ht,Go.Instr.sliceBounds,qbh hinf,hh1,b2]
  .have b1:=bd ql kl j .sliceB hl2 hle;simp[execOp,ho,hx,Go.Instr.sliceAt,Go.Instr.slice,Go.run_underlying ht,Go.Instr.sliceBounds,qbh hinf,hl1,b1,hsz]
  .have b2:=bd qh kh m .sliceAcap hh2 hjm;have b1:=bd ql kl kh.toNat .sliceB hl2 hle;simp[execOp,ho,hx,Go.Instr.sliceAt,Go.Instr.slice,Go.run_underlying ht,Go.Instr.sliceBounds,qbh hinf,hl1,b1,hh1,b2,hsz]
 .have b3:=bd qm km cap .slice3Acap hm3 hmc;rcases qgn hs h3 hj1 with⟨rfl,rfl⟩ | ⟨zh,qh,kh,rfl,hh1,hh2,rfl⟩
  .cases hmx rfl
  .have b2:=bd qh kh km.toNat .slice3B hh2 hjm;rcases qgn hs h2 hi1 with⟨rfl,rfl⟩ | ⟨zl,ql,kl,rfl,hl1,hl2,rfl⟩
   .simp[execOp,ho,hx,Go.Instr.sliceAt,Go.Instr.slice,Go.run_underlying ht,Go.Instr.sliceBounds,qbh hinf,hh1,b2,hm2,b3]
   .have b1:=bd ql kl kh.toNat .slice3C hl2 hle;simp[execOp,ho,hx,Go.Instr.sliceAt,Go.Instr.slice,Go.run_underlying ht,Go.Instr.sliceBounds,qbh hinf,hl1,b1,hh1,b2,hm2,b3,hsz]
theorem zgw{t e:TypeId}{x:Operand}{x':A}{lo hi mx:Option Operand}{lo' hi' mx':Option A}(ho:o.op=.slice t x lo hi mx)(ht0:P.underlying t=some (.slice e))(hz:P.cellsOf e≠0)
  (h1:cA x=some x') (h2:q1u lo=some lo') (h3:q1u hi=some hi') (h4:q1u mx=some mx') (hmx:hi=none->mx=none) {v:V} {h':H} (hv:exO (.slcL (P.cellsOf e) x' lo' hi' mx') s E.h=some (v,h')):h'=E.h/\Does P E a o v E.h:=by
 have r1:=qav hs h1;simp only[exO]at hv;generalize hx:x'.ev s=p at r1 hv;have three:∀{ad:Option Addr} {len cap i j:Nat},a.eval x=.slice ad len cap->len<=cap->qcq s lo' 0=some i->qcq s hi' len=some j->i=0->j=0->∀c,mx'=some c->qqn (c.ev s)=some 0->Does P E a o .nils E.h:=by intro ad len cap i j hu hlc e1 e2 rfl rfl c rfl e3;have:=qpb hs ho ht0 hz h2 h3 h4 hu hlc e1 e2 (m:=0) (by simpa[qcq]using e3) (jD _) (jD _) (Nat.zero_le _) hmx;refine Does.same hE this ?_;unfold rel;exact⟨ad,by simp⟩
 cases p<;>simp only at hv<;>try (cases hv;done)
 case imm els =>
  unfold rel at r1;obtain⟨ad,cap,hu,hcap,hp,hor⟩:=r1;cases e1:qcq s lo' 0<;>cases e2:qcq s hi' els.length<;>cases e3:mx'<;>rw[e1,e2]at hv<;>simp only[e3]at hv<;>try (cases hv;done)
  case some.some.none i j =>
   split at hv
   .rename_i hc;cases hv;refine⟨rfl,?_⟩;have:=qpb hs ho ht0 hz h2 h3 h4 hu hcap e1 e2 (m:=cap) (by simp[qcq,e3]) hc.1 (by omega) (jD _) hmx;refine Does.same hE this ?_;have hl:((els.drop i).take (j-i)).length=j-i:=by simp;omega
    unfold rel;rw[hl];refine⟨_,_,rfl,by omega,qii (qow hp),?_⟩;by_cases h0:j-i=0
    .left;simp[h0]
    .right;rcases hor with rfl | ⟨b,y,n,rfl,hn,hS,hr⟩
     .simp at hc;omega
     .refine⟨b,y+i*P.cellsOf e,n,?_,hn,hS,?_⟩
      .rw[if_neg (by omega)];simp[qcp]
      .have hne:n=P.cellsOf e:=by
        cases els with
        | nil=>simp at hc;omega
        | cons r rs =>unfold qak at hr;have:=hc.2.2;simp only[qns,List.all_cons,jE,beq_iff_eq]at this;exact hr.1.symm.trans this.1
       have:=qen (j-i) (qfg i hr);rw[<-hne];exact this
   .cases hv
  case some.some.some i j c =>
   split at hv
   .rename_i hc;cases hv;exact⟨rfl,three hu hcap e1 e2 hc.1 hc.2.1 c e3 hc.2.2⟩
   .cases hv
 case nils =>
  unfold rel at r1;obtain⟨ad,hu⟩:=r1;cases e1:qcq s lo' 0<;>cases e2:qcq s hi' 0<;>cases e3:mx'<;>rw[e1,e2]at hv<;>simp only[e3]at hv<;>try (cases hv;done)
  case some.some.none i j =>
   split at hv
   .rename_i hc;obtain⟨rfl,rfl⟩:=hc;cases hv;refine⟨rfl,?_⟩;have:=qpb hs ho ht0 hz h2 h3 h4 hu (jD _) e1 e2 (m:=0) (by simp[qcq,e3]) (jD _) (jD _) (jD _) hmx;refine Does.same hE this ?_;unfold rel;exact⟨ad,by simp⟩
   .cases hv
  case some.some.some i j c =>
   split at hv
   .rename_i hc;cases hv;exact⟨rfl,three hu (jD _) e1 e2 hc.1 hc.2.1 c e3 hc.2.2⟩
   .cases hv
 case sl id g m off len =>
  unfold rel at r1;obtain⟨g1,g2,ad,cap,hu,c1,c2,c3,c4⟩:=r1;cases e1:qcq s lo' 0<;>cases e2:qcq s hi' len<;>cases e3:mx'<;>rw[e1,e2]at hv<;>simp only[e3]at hv<;>try (cases hv;done)
  case some.some.none i j =>
   split at hv
   .rename_i hc;cases hv;refine⟨rfl,?_⟩;have:=qpb hs ho ht0 hz h2 h3 h4 hu c1 e1 e2 (m:=cap) (by simp[qcq,e3]) hc.1 (by omega) (jD _) hmx;refine Does.same hE this ?_;unfold rel;refine⟨g1,g2,_,_,rfl,by omega,?_,?_,?_⟩
    .intro h;split at h
     .have:=c2 h;omega
     .cases ad with
      | none=>have:=c2 rfl;omega
      | some y=>simp at h
    .intro y h hne;split at h
     .exact c3 y h (by omega)
     .cases ad with
      | none=>simp at h
      | some z=>simp at h;rw[<-h,q1m (c3 z rfl (by omega))]
    .intro o' ho' hg ht';obtain⟨d1,d2,d3⟩:=c4 o' ho' hg ht';refine⟨by omega,d2,?_⟩;rcases d3 with⟨d4,d5⟩ | ⟨b,C,y,d4,rfl,d5,d6⟩
     .exact .inl ⟨d4,by omega⟩
     .right;by_cases hci:cap=i
      .refine⟨b,C,y,d4,by rw[if_pos hci],by omega,fun h=>?_⟩;have hji:j-i=0:=by omega
       have h0:off+i=0:=by rcases h with h | h<;>omega
       have:=d6 (.inr (by omega));rw[this,h0];have:off=0:=by omega
       rw[this]
      .refine⟨b,C,y+i*P.cellsOf e,d4,by rw[if_neg hci];simp[qcp],by omega,fun h=>?_⟩;by_cases hi0:i=0
       .subst hi0;have:=d6 (by rcases h with h | h<;>omega);rw[this];simp
       .have hm:m=P.cellsOf e:=by rcases hc.2.2 with h1 | h1<;>omega
        have:=d6 (.inl (by omega));rw[this,<-Nat.add_assoc,Nat.add_mul (C.2+off),hm]
   .split at hv
    .rename_i hc;obtain⟨_,hij,rfl,hmm,hcc⟩:=hc;cases hv;refine⟨rfl,?_⟩;cases hrw:qhh E.h id g with
     | none=>unfold zar at hcc;rw[hrw]at hcc;cases hcc
     | some els =>
      unfold zar at hcc;rw[hrw]at hcc;have hjl:j<=els.length:=of_decide_eq_true hcc;obtain⟨ob,nn,hob,hgn,hk⟩:=qtn hrw;have ht:qje ob.k=1:=by rcases hk with e | e<;>rw[e]<;>rfl
      have hlk:qmi ob.k=els.length:=by rcases hk with e | e<;>rw[e]<;>rfl
      obtain⟨d1,d2,d3⟩:=c4 ob hob hgn ht;have hro:=hE.obj id ob hob;have hcj:j<=cap:=by
       unfold qem at hro;rcases hk with e | e<;>rw[e]at hro<;>rcases hro.2 with h | ⟨b,C,cs,ty,q1,q2,q3,q4,q5,q6,q7⟩
       .have:els.length=0:=by rw[h.2];rfl
        omega
       .rcases d3 with⟨d4,_⟩ | ⟨b',C',y,d4,_,d5,_⟩
        .rw[q1]at d4;cases d4
        .rw[q1]at d4;cases d4;omega
       .have:els.length=0:=by rw[h.2];rfl
        omega
       .rcases d3 with⟨d4,_⟩ | ⟨b',C',y,d4,_,d5,_⟩
        .rw[q1]at d4;cases d4
        .rw[q1]at d4;cases d4;omega
      have:=qpb hs ho ht0 hz h2 h3 h4 hu c1 e1 e2 (m:=cap) (by simp[qcq,e3]) hij hcj (jD _) hmx;refine Does.same hE this ?_;unfold rel;refine⟨g1,g2,_,_,rfl,by omega,?_,?_,?_⟩
      .intro h;split at h
       .have:=c2 h;omega
       .cases ad with
        | none=>have:=c2 rfl;omega
        | some y=>simp at h
      .intro y h hne;split at h
       .exact c3 y h (by omega)
       .cases ad with
        | none=>simp at h
        | some z=>simp at h;rw[<-h,q1m (c3 z rfl (by omega))]
      .intro o' ho' hg ht';rw[hob]at ho';cases ho';refine⟨by omega,d2,?_⟩;rcases d3 with⟨d4,d5⟩ | ⟨b,C,y,d4,rfl,d5,d6⟩
       .exact .inl ⟨d4,by omega⟩
       .right;have hy:=d6 (.inr rfl);have hy0:y=C.2*m:=by rw[hy];simp
        by_cases hci:cap=i
        .refine⟨b,C,y,d4,by rw[if_pos hci],by omega,fun h=>?_⟩;have h0:i=0:=by rcases h with h | h<;>omega
         rw[hy0,h0];simp
        .refine⟨b,C,y+i*P.cellsOf e,d4,by rw[if_neg hci];simp[qcp],by omega,fun h=>?_⟩;rw[hy0,hmm,Nat.add_mul]
    .cases hv
  case some.some.some i j c =>
   split at hv
   .rename_i hc;cases hv;exact⟨rfl,three hu c1 e1 e2 hc.1 hc.2.1 c e3 hc.2.2⟩
   .split at hv
    .rename_i hc;cases hv;refine⟨rfl,?_⟩;unfold zun at hc;cases hnc:qqn (c.ev s)with
     | none=>rw[hnc]at hc;cases hc.2
     | some k =>rw[hnc]at hc;have hk:j<=k/\k<=len:=of_decide_eq_true hc.2;have:=qpb hs ho ht0 hz h2 h3 h4 hu c1 e1 e2 (m:=k) (by simpa[qcq,e3]using hnc) hc.1 hk.1 (by omega) hmx;exact Does.same hE this (by unfold rel;trivial)
    .cases hv
omit hE hs in
theorem q7t{f:Nat}{t:TypeId}{k:Nat}(hk:qjj P t=some k){x y:V}{u v:Value}(hxu:rel E x u)(hyv:rel E y v)(hkx:qpy k x=true){b:Bool}(h:eqS x y=some b) :
  (Go.Op.equalIn (f+1) t u v).run P E.w=.ok b E.w:=by
 unfold qjj at hk;unfold eqS at h;split at h
 .unfold rel at hxu hyv;subst hxu;subst hyv;cases h;simp only[qpy,beq_iff_eq]at hkx;subst hkx;split at hk<;>cases hk;rename_i e;exact Go.run_equalIn_bool _ _ _ _ _ e
 .unfold rel at hxu hyv;subst hxu;subst hyv;split at h
  .rename_i hkk;subst hkk;cases h;simp only[qpy,beq_iff_eq]at hkx;subst hkx;split at hk<;>cases hk;rename_i e;exact Go.run_equalIn_int _ _ _ _ _ _ _ e
  .cases h
 .unfold rel at hxu hyv;subst hxu;subst hyv;cases h;simp only[qpy,beq_iff_eq]at hkx;subst hkx;split at hk<;>cases hk;rename_i e;rw[Go.run_equalIn_string _ _ _ _ _ e,Go.ByteArray.toList_mk,Go.ByteArray.toList_mk]
 .cases h
omit hE hs in
theorem q5j{t:TypeId}{k:Nat}(hk:qjj P t=some k):∃d,P.underlying t=some d/\qff P t=false:=by unfold qjj at hk;unfold qff;split at hk<;>(try cases hk)<;>rename_i e<;>exact⟨_,e,by rw[e]⟩
omit hE hs in
theorem zgz:∀{k1 k2:List Nat} {xs ys:List V} {b:Bool},eqL (k1++k2) xs ys=some b->∃b1,eqL k1 (xs.take k1.length) (ys.take k1.length)=some b1/\(b1=false->b=false)/\(b1=true->eqL k2 (xs.drop k1.length) (ys.drop k1.length)=some b)
 | [],_,_,_,_,h=>⟨true,by simp[eqL],by simp,fun _=>by simpa using h⟩
 | _ :: _,_,[],_,_,h=>by simp[eqL]at h
 | _ :: _,_,_ :: _,[],_,h=>by simp[eqL]at h
 | k :: k1,k2,x :: xs,y :: ys,b,h=>by
  simp only[List.cons_append,eqL]at h;simp only[List.length_cons,List.take_succ_cons,List.drop_succ_cons,eqL];split at h
  .rename_i hk;rw[if_pos hk];cases e:eqS x y with
   | none=>rw[e]at h;cases h
   | some t =>
    rw[e]at h;cases t with
    | false=>simp only at h;cases h;exact⟨false,rfl,fun _=>rfl,fun h=>by cases h⟩
    | true=>simp only at h;exact zgz h
  .cases h
def zfc(P:Program)(E:Env)(n:Nat):Prop:=∀{t:TypeId} {ks:List Nat} {f:Nat} {xs ys:List V} {us ws:List Value} {b:Bool},qri P n t=some ks->qaj E xs us->qaj E ys ws->eqL ks xs ys=some b ->
 (∃d,P.underlying t=some d)/\(qff P t=true->P.cellsOf t=ks.length/\(∃i,P.info? t=some i)/\(Go.Op.equalIn (f+n+1) t (.agg us.toArray) (.agg ws.toArray)).run P E.w=.ok b E.w) /\
 (qff P t=false->ks.length=1/\∃u w us' ws',us=u :: us'/\ws=w :: ws'/\(Go.Op.equalIn (f+n+1) t u w).run P E.w=.ok b E.w)
omit hE hs in
theorem qzy{n:Nat}{t:TypeId}{k:Nat}(hk:qjj P t=some k){f:Nat}{xs ys:List V}{us ws:List Value}{b:Bool}(hx:qaj E xs us)(hy:qaj E ys ws)(he:eqL [k] xs ys=some b) :
  (∃d,P.underlying t=some d)/\(qff P t=true->P.cellsOf t=[k].length/\(∃i,P.info? t=some i)/\(Go.Op.equalIn (f+n+1) t (.agg us.toArray) (.agg ws.toArray)).run P E.w=.ok b E.w) /\
  (qff P t=false->[k].length=1/\∃u w us' ws',us=u :: us'/\ws=w :: ws'/\(Go.Op.equalIn (f+n+1) t u w).run P E.w=.ok b E.w):=by
 obtain⟨d,hd,hag⟩:=q5j hk;refine⟨⟨d,hd⟩,fun h=>absurd (hag.symm.trans h) Bool.false_ne_true,fun _=>⟨rfl,?_⟩⟩;cases xs with
 | nil=>simp[eqL]at he
 | cons x xs =>
  cases ys with
  | nil=>simp[eqL]at he
  | cons y ys =>
   unfold qaj at hx hy;obtain⟨u,us',rfl,hxu,_⟩:=hx;obtain⟨v,ws',rfl,hyv,_⟩:=hy;refine⟨u,v,us',ws',rfl,rfl,?_⟩;simp only[eqL]at he;split at he
   .rename_i hkx;cases e:eqS x y with
    | none=>rw[e]at he;cases he
    | some c =>
     rw[e]at he;have q:=q7t (f:=f+n) hk hxu hyv hkx e;cases c with
     | false=>cases he;exact q
     | true=>cases xs<;>cases ys<;>simp only[eqL]at he<;>cases he;exact q
   .cases he
omit hE hs in
theorem qzp{n f:Nat}(ih:zfc P E n):∀{fs:List Go.Field} {kss:List (List Nat)} {xs ys:List V} {us ws:List Value} {pre:Nat} {U W:Array Value} {b:Bool},fs.mapM (fun f=>qri P n f.type)=some kss->q0j pre fs kss=true->qaj E xs us->qaj E ys ws ->
  eqL kss.flatten xs ys=some b->U.toList.drop pre=us->W.toList.drop pre=ws->(Go.Op.eqFields (f+n+1) U W fs).run P E.w=.ok b E.w:=by
 intro fs;induction fs with
 | nil =>
  intro kss xs ys us ws pre U W b hks ho hx hy he hU hW;simp at hks;subst hks;cases xs<;>cases ys<;>simp only[List.flatten_nil,eqL]at he<;>try (cases he;done)
  cases he;simp[Go.Op.eqFields]
 | cons q fs ihf =>
  intro kss xs ys us ws pre U W b hks ho hx hy he hU hW;simp only[List.mapM_cons,bind,Option.bind]at hks;cases hk1:qri P n q.type with
  | none=>rw[hk1]at hks;cases hks
  | some ks =>
   rw[hk1]at hks;simp only at hks;cases hk2:fs.mapM (fun f=>qri P n f.type)with
   | none=>rw[hk2]at hks;cases hks
   | some kss' =>
    rw[hk2]at hks;cases hks;simp only[q0j,jE,beq_iff_eq,bne_iff_ne]at ho;obtain⟨⟨hoff,hf2⟩,hofs⟩:=ho;simp only[List.flatten_cons]at he;obtain⟨b1,e1,e2,e3⟩:=zgz he;obtain⟨⟨d,hd⟩,r1,r2⟩:=ih (f:=f) hk1 (qhr ks.length hx) (qhr ks.length hy) e1;have hU':U.toList.drop (pre+ks.length)=us.drop ks.length:=by rw[<-List.drop_drop,hU]
    have hW':W.toList.drop (pre+ks.length)=ws.drop ks.length:=by rw[<-List.drop_drop,hW]
    obtain⟨pu,pw,p1,p2,q1⟩:∃pu pw,(Go.part q.type U q.offset).run P E.w=.ok pu E.w/\(Go.part q.type W q.offset).run P E.w=.ok pw E.w/\(Go.Op.equalIn (f+n+1) q.type pu pw).run P E.w=.ok b1 E.w:=by
     cases hag:qff P q.type with
     | true =>
      obtain⟨r3,⟨i,hi⟩,r4⟩:=r1 hag;have hsz:i.size=ks.length:=by rw[<-r3];simp[Program.cellsOf,hi]
      have cut:∀(X:Array Value) (l:List Value),X.toList.drop pre=l->X.extract pre (pre+ks.length)=(l.take ks.length).toArray:=by intro X l hl;apply Array.ext';simp only[Array.toList_extract,List.extract_eq_take_drop];rw[hl];congr 1;omega
      refine⟨_,_,?_,?_,r4⟩
      .simp[Go.part,qez hd,hag,hoff,qbh hi,hsz,cut U us hU]
      .simp[Go.part,qez hd,hag,hoff,qbh hi,hsz,cut W ws hW]
     | false =>
      obtain⟨r3,u,w,us',ws',hu,hw,r4⟩:=r2 hag;have one:∀(X:Array Value) (l:List Value) (u:Value) (us':List Value),X.toList.drop pre=l->l.take ks.length=u :: us'->X[pre]?=some u:=by
       intro X l u us' hl ht;rw[<-Array.getElem?_toList,<-List.head?_drop,hl];cases l with
       | nil=>simp at ht
       | cons a l=>rw[r3]at ht;simp at ht;simp[ht.1]
      refine⟨u,w,?_,?_,r4⟩
      .simp[Go.part,qez hd,hag,hoff,one U us u us' hU hu]
      .simp[Go.part,qez hd,hag,hoff,one W ws w ws' hW hw]
    simp only[Go.Op.eqFields,ne_eq,hf2,not_false_eq_true,if_true,Sem.run_bind,p1,p2,q1,Go.Result.andThen_ok];cases b1 with
    | false=>rw[e2 rfl];simp
    | true=>simpa using ihf hk2 hofs (qrv ks.length hx) (qrv ks.length hy) (e3 rfl) hU' hW'
omit hE hs in
theorem q5l:∀n,zfc P E n
 | 0=>by rename_i t ks f xs ys us ws b;intro hk hx hy he;simp only[qri,jM]at hk;obtain⟨k,hk,rfl⟩:=hk;exact qzy (n:=0) (f:=f) hk hx hy he
 | n+1=>by
  rename_i t ks f xs ys us ws b;intro hk hx hy he;unfold qri at hk;split at hk
  .rename_i k hk1;cases hk;exact qzy (n:=n+1) (f:=f) hk1 hx hy he
  .split at hk
   .rename_i fs ht;simp only[Option.bind_eq_bind,jB]at hk;obtain⟨kss,hks,hk⟩:=hk;split at hk
    .rename_i hc;cases hk;simp only[jE,Bool.not_eq_true',beq_iff_eq]at hc;obtain⟨⟨⟨hst,hof⟩,hcl⟩,hi⟩:=hc;have hag:qff P t=true:=by unfold qff;rw[ht]
     refine⟨⟨_,ht⟩,fun _=>⟨hcl,Option.isSome_iff_exists.1 hi,?_⟩,fun h=>absurd (hag.symm.trans h) (Ne.symm Bool.false_ne_true)⟩;have hfo:P.fieldsOf t=fs:=by simp[Program.fieldsOf,ht]
     have:=Go.run_equalIn_struct (P:=P) E.w (f+n+1) t us.toArray ws.toArray (by rw[hfo];exact ht) hst;rw[show f+(n+1)+1=f+n+1+1 from rfl,this,hfo];exact qzp (q5l n) hks hof hx hy he (by simp) (by simp)
    .cases hk
   .cases hk
theorem zmq{op:Go.BinOp}{t yt:TypeId}{x y:Operand}{x' y':A}{fs:Array Go.Field}{kss:List (List Nat)}{neg:Bool}(ho:o.op=.binOp op t x y yt)(hop:(neg=false/\op=.eql)\/(neg=true/\op=.neq))(ht:P.underlying t=some (.struct fs))
  (hks:fs.toList.mapM (fun f=>qri P 3 f.type)=some kss) (hst:P.stoodInHeld t=false) (hg:P.eqGuardType P.depth t=false) (hof:q0j 0 fs.toList kss=true)
  (h1:cA x=some x') (h2:cA y=some y') {p q:List V} (hx:x'.ev s=.agg p) (hy:y'.ev s=.agg q) {b:Bool} (hb:eqL kss.flatten p q=some b):Does P E a o (.bool (if neg then !b else b)) E.h:=by
 have r1:=qav hs h1;have r2:=qav hs h2;rw[hx]at r1;rw[hy]at r2;unfold rel at r1 r2;obtain⟨us,hu,hul⟩:=r1;obtain⟨ws,hw,hwl⟩:=r2;have hfo:P.fieldsOf t=fs:=by simp[Program.fieldsOf,ht]
 have key:(Go.Op.equal t (.agg us) (.agg ws)).run P E.w=.ok b E.w:=by unfold Go.Op.equal;have:=Go.run_equalIn_struct (P:=P) E.w 9999 t us ws (by rw[hfo];exact ht) hst;rw[show Go.Op.maxDepth=9999+1 from rfl,this,hfo];exact qzp (n:=3) (f:=9995) (pre:=0) (q5l 3) hks hof hul hwl hb (by simp) (by simp)
 have hgd:(Go.eqGuard op t x y (.agg us) (.agg ws)).run P E.w=.ok () E.w:=by unfold Go.eqGuard;rcases hop with⟨_,rfl⟩ | ⟨_,rfl⟩<;>simp[hg]
 refine Does.same hE (u:=.bool (if neg then !b else b)) ?_ (by unfold rel;rfl);rcases hop with⟨rfl,rfl⟩ | ⟨rfl,rfl⟩
 .simp[execOp,ho,hu,hw,hgd,Go.binOp,key]
 .simp[execOp,ho,hu,hw,hgd,Go.binOp,key]
end
end Go.Am
