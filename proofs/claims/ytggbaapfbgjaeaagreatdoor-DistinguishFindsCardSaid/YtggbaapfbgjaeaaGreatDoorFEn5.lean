/- The arguments. -/
import Derived.Test.YtggbaapfbgjaeaaGreatDoorFEn4
import Derived.Test.YtggbaapfbgjaeaaGreatDoorFEn6
import Derived.Deep.Slices
import Derived.Carry
import Derived.WideShapes
set_option linter.all false
set_option maxHeartbeats 4000000
namespace Go.Am
open Go (World Value Addr Obj Program Act Operand Oper Op Sem Result Next undef execOp TypeId TypeDesc Ending CallsIn RoundIn Fence Exit Deferred)
variable{md:Nat}
theorem znv{p:Nat->Prop}(h:∃j,p j):∃m,p m/\∀k,p k->m<=k:=by
 obtain⟨j,hj⟩:=h;induction j using Nat.strongRecOn with
 | _ j ih =>
  by_cases h2:∃k,p k/\k<j
  .obtain⟨k,hk,hlt⟩:=h2;exact ih k hlt hk
  .exact⟨j,hj,fun k hk=>Nat.le_of_not_lt fun hlt=>h2 ⟨k,hk,hlt⟩⟩
open Classical in
noncomputable def mu(I:Nat->Act->World->Prop)(a:Act)(w:World):Nat:=if h:∃j,I j a w then(znv h).choose else 0
theorem zjf{I:Nat->Act->World->Prop}{a:Act}{w:World}(h:∃j,I j a w):I (mu I a w) a w/\∀k,I k a w->mu I a w<=k:=by unfold mu;rw[dif_pos h];exact(znv h).choose_spec
theorem q9d{F:Fence}{n:Nat}{P:Program}{Qp:Exit->Act->World->Prop}{c:Go.Code}{a:Act}{w:World}(I:Nat->Act->World->Prop){j0:Nat}(h0:I j0 a w)
  (round:∀j a w,I j a w->c.wpIn F n P (Exit.then (fun a' w'=>∃i,i<j/\I i a' w') Qp) a w):(Go.Code.loop c).wpIn F n P Qp a w:=by
 refine Go.wpIn_loop (fun a w=>∃j,I j a w) (mu I) ⟨j0,h0⟩ fun a w hI=>?_;refine Go.wpIn_mono (round _ a w (zjf hI).1) fun e a' w' h=>?_;cases e<;>try exact h
 obtain⟨i,hi,hI'⟩:=h;exact⟨⟨i,hI'⟩,Nat.lt_of_le_of_lt ((zjf ⟨i,hI'⟩).2 i hI') hi⟩
theorem qxt{P:Program}{E:Env}{a:Act}{s:List V}(hE:Ok P E)(hs:qaj E s a.tmps.toList)(x:X):q7e P E a { x:=x,st:=⟨s,E.h⟩ } (zxy x) a E.w :=
 ⟨E,[],hE,Ext.refl E,rfl,rfl,hs,rfl,rfl,List.nodup_nil,fun r hr=>by cases hr⟩
theorem zlp:∀(h:H) (vs:List V),qhn h vs=qcb h vs:=by
 intro h vs;induction vs generalizing h with
 | nil=>rfl
 | cons v vs ih =>
  by_cases hv:v=.nils
  .subst hv;simp only[qhn,qcb,ih]
  .have h1:qhn h (v :: vs)=(v :: (qhn h vs).1,(qhn h vs).2):=by cases v<;>first | rfl | exact absurd rfl hv
   have h2:qcb h (v :: vs)=(v :: (qcb h vs).1,(qcb h vs).2):=by cases v<;>first | rfl | exact absurd rfl hv
   rw[h1,h2,ih]
theorem q9h{P:Program}{E:Env}(hE:Ok P E){s:List V}{us:List Value}(hs:qaj E s us):∃E',Ok P E'/\Ext E E'/\E'.w=E.w/\qdh ⟨s,E.h⟩=⟨(qcb E.h s).1,E'.h⟩/\qaj E' (qcb E.h s).1 us:=by obtain⟨E',a1,a2,a3,_,a5,a6,_⟩:=qob hE hs;exact⟨E',a1,a2,a3,by simp only[qdh,zlp,a5],a6⟩
theorem q8j{E E1 E2:Env}{M:List Nat}(h:E2.w=E1.w)(k:qle E E1 M):qle E E2 M:=⟨k.1,fun r hr=>by rw[h];exact k.2 r hr⟩
theorem qsp(m:Nat)(c:C):zfv m c=.loop c\/(∃k,zfv m c=.loopK k c)\/∃ks,zfv m c=.loopF ks c:=by
 unfold zfv;split
 .exact .inr (.inl ⟨_,rfl⟩)
 .split
  .split
   .exact .inl rfl
   .exact .inr (.inr ⟨_,rfl⟩)
  .exact .inl rfl
def zqv(P:Program)(sf:Q->Option R)(W:Nat->C->C):Prop:=∀{md:Nat} (c:Go.Code) (ro:Option Nat) (E:Env) (s:List V) (a:Act) (res:R),Ok P E->qps E ro->qaj E s a.tmps.toList->sf (.code (W E.h.length (qcj md P c)) ⟨s,E.h⟩)=some res->(Go.Code.loop c).wpIn (F0 ro) 0 P (q7e P E a res) a E.w
theorem zhx{P:Program}{pg:Prg}{n:Nat}(hC:qmn P (evN pg n)){W:Nat->C->C}{cut:Nat->St->St}(hW:∀i nx c st,evN pg (i+1) (.code (W nx c) st)=match evN pg i (.code c st)with
   | some r=>(match r.x with
    | .normal=>evN pg i (.code (W nx c) (cut nx r.st))
    | _=>some r)
   | none=>none)
  (hcut:∀{E:Env},Ok P E->∀(n:Nat) {s:List V} {us:List Value},qaj E s us->∃E' s',Ok P E'/\(∀E0,Ext E0 E->E0.h.length<=n->Ext E0 E')/\E'.w=E.w/\cut n ⟨s,E.h⟩=⟨s',E'.h⟩/\qaj E' s' us):zqv P (evN pg n) W:=by
 intro md c ro E s a res hE hR hs h;refine q9d (j0:=n) (fun j a' w'=>j<=n/\∃E1 s1 M,Ok P E1/\Ext E E1/\E1.w=w'/\qaj E1 s1 a'.tmps.toList/\a'.defers=M.map q0c++a.defers/\qle E E1 M/\evN pg j (.code (W E.h.length (qcj md P c)) ⟨s1,E1.h⟩)=some res)
  ⟨jD _,E,s,[],hE,Ext.refl E,rfl,hs,rfl,⟨List.nodup_nil,fun r hr=>by cases hr⟩,h⟩ ?_
 rintro j a' w' ⟨hj,E1,s1,M,k1,k2,rfl,k4,k5,k6,k7⟩;cases j with
 | zero=>simp[evN]at k7
 | succ i =>
  rw[hW]at k7;cases e:evN pg i (.code (qcj md P c) ⟨s1,E1.h⟩)with
  | none=>rw[e]at k7;cases k7
  | some r =>
   rw[e]at k7;simp only at k7;have hw:=hC c ro E1 s1 a' r k1 (qht k2 hR) k4 (qim pg (show i<=n by omega) _ _ e);refine Go.wpIn_mono hw ?_;rintro ex a2 w2 hp;have hp2:=qov k1 k2 k5 k6 hp;obtain⟨E2,M2,m1,m2,rfl,m4,m5,rfl,m7,m8⟩:=hp2;cases hx:r.x with
   | normal =>rw[hx]at k7;simp only at k7;obtain⟨E3,s3,c1,c2,c3,c4,c5⟩:=hcut m1 E.h.length m5;refine⟨i,by omega,by omega,E3,s3,M2,c1,c2 _ m2 (jD _),c3,c5,m7,q8j c3 m8,?_⟩;rw[<-c4,m4];exact k7
   | exit id =>rw[hx]at k7;simp only[jC]at k7;subst k7;exact⟨E2,M2,m1,m2,rfl,m4,m5,by rw[hx],m7,m8⟩
   | ret =>rw[hx]at k7;simp only[jC]at k7;subst k7;exact⟨E2,M2,m1,m2,rfl,m4,m5,by rw[hx],m7,m8⟩
theorem z2z{P:Program}{pg:Prg}{n:Nat}(hC:qmn P (evN pg n)):zqv P (evN pg n) .going :=
 zhx hC (cut:=qvg) (fun _ _ _ _=>rfl) fun {E} hE n {s us} hs=>by obtain⟨E',c1,c2,c3,c4,c5⟩:=q7p hE n;exact⟨E',_,c1,c2,c3,by simp only[qvg,c4],c5 _ _ hs⟩
theorem zyi{P:Program}{pg:Prg}{n:Nat}(hC:qmn P (evN pg n))(k:Nat):zqv P (evN pg n) (fun nx c=>.goingK nx k c) :=
 zhx hC (W:=fun nx c=>.goingK nx k c) (cut:=fun nx st=>zps nx k st) (fun _ _ _ _=>rfl) fun {_} hE n {_ _} hs=>zsd hE n k hs
theorem zhv{E:Env}{s:List V}{us:List Value}(h:qaj E s us)(k:Nat){u:Value}(hu:us[k]?=some u):rel E (qah s k) u:=by have:=qlt k h;rw[List.getD_eq_getElem?_getD,hu]at this;exact this
theorem zak{E E':Env}{n:Nat}{s0:List V}{us:List Value}:∀{ks:List Nat} {s:List V},(∀k∈ks,(qah s0 k).low n=false->∀u,us[k]?=some u->rel E' (qfq E.h (qah s0 k)) u)->qaj E' s us->qaj E' (zsp n E.h s0 ks s) us
 | [],s,_,h=>h
 | k :: ks,s,hk,h=>by
  show qaj E' (zsp n E.h s0 ks _) us;refine zak (fun k' h'=>hk k' (by simp[h'])) ?_;split
  .exact h
  .rename_i hl;exact qxz h fun u _ hu=>hk k (by simp) (by simpa using hl) u hu
theorem zse{P:Program}{E:Env}(hE:Ok P E)(n:Nat)(ks:List Nat){s:List V}{us:List Value}(hs:qaj E s us) :
  ∃E' s',Ok P E'/\(∀E0,Ext E0 E->E0.h.length<=n->Ext E0 E')/\E'.w=E.w/\qjh n ks ⟨s,E.h⟩=⟨s',E'.h⟩/\qaj E' s' us:=by
 obtain⟨E1,b1,b2,b3,b4,b5,b6⟩:=qwt hE ((ks.map (qah s)).filter fun v=>!v.low n);obtain⟨E',c1,c2,c3,c4,c5⟩:=q7p b1 n;have h1:qaj E1 (zsp n E.h s ks s) us:=zak (fun k hk hl u hu=>by
  refine q6f hE b2 b4 (zhv hs k hu) (b6 _ ?_);exact List.mem_filter.2 ⟨List.mem_map.2 ⟨k,hk,rfl⟩,by simp[hl]⟩) (qba hE b2.toExt0 _ _ hs)
 refine⟨E',_,c1,fun E0 x h=>c2 E0 (x.trans b2) h,c3.trans b4,?_,c5 _ _ h1⟩;simp only[qjh,qvg,<-b3,c4]
theorem zyh{P:Program}{pg:Prg}{n:Nat}(hC:qmn P (evN pg n))(ks:List Nat):zqv P (evN pg n) (fun nx c=>.goingF nx ks c) :=
 zhx hC (W:=fun nx c=>.goingF nx ks c) (cut:=fun nx st=>qjh nx ks st) (fun _ _ _ _=>rfl) fun {_} hE n {_ _} hs=>zse hE n ks hs
def zey(P:Program)(pg:Prg):Prop:=∀{md:Nat} (sf:Q->Option R) (ro:Option Nat) (id:Nat) (ops:Array Oper) (E:Env) (s:List V) (a:Act) (res:R),SelfOk P sf->Ok P E->qaj E s a.tmps.toList->qci pg sf (.code (zwh md P ops true) ⟨s,E.h⟩)=some res ->
 (Go.Code.region id ops true).wpIn (F0 ro) 0 P (q7e P E a res) a E.w
theorem qtv{pg:Prg}{sf:Q->Option R}{st:St}{res:R}(h:qci pg sf (.code qnw st)=some res):False:=by simp[qnw,qci,exL,exI,qcc,exO]at h
theorem zcl{P:Program}{x:Go.Code}{st:St}{p q:C}(h:qsm (qcj md P x) st=some (p,q)):∃c x1 x2 c',x=.cond c x1 x2/\cA c=some c'/\p=qcj md P x1/\q=qcj md P x2/\c'.ev st.s=.ub:=by
 cases x<;>simp only[qcj]at h<;>try (simp only[qnw,qsm]at h;cases h;done)
 case loop c=>rcases qsp md (qcj md P c)with e | ⟨k,e⟩ | ⟨k,e⟩<;>rw[e]at h<;>cases h
 case region id ops d =>
  unfold zwh at h;cases d
  .simp only[Bool.false_eq_true,if_false,qsm]at h;cases h
  .simp only[if_true]at h;split at h<;>(simp only[qsm]at h;cases h)
 case cond c x1 x2 =>
  cases hc:cA c with
  | none=>rw[hc]at h;simp only[qnw,qsm]at h;cases h
  | some c' =>
   rw[hc]at h;simp only[qsm]at h;split at h
   .rename_i hub;cases h;exact⟨c,x1,x2,c',rfl,hc,rfl,rfl,hub⟩
   .cases h
 case rangeFunc f ps as bd =>
  cases hc:cA f with
  | none=>rw[hc]at h;simp only[qnw,qsm]at h;cases h
  | some c'=>rw[hc]at h;simp only[qsm]at h;cases h
theorem qyo{P:Program}{sf:Q->Option R}(hC:qmn P sf)(x y:Go.Code){ro:Option Nat}{E:Env}{s:List V}{a:Act}{r:R}(hE:Ok P E)(hR:qps E ro)(hs:qaj E s a.tmps.toList)
  (h:q3y sf (qcj md P x) (qcj md P y) ⟨s,E.h⟩=some r) {Qp:Exit->Act->World->Prop} (hQ:∀ex a' w',q7e P E a r ex a' w'->Qp ex a' w'):x.wpIn (F0 ro) 0 P (Exit.then (fun a' w'=>y.wpIn (F0 ro) 0 P Qp a' w') Qp) a E.w:=by
 unfold q3y at h;cases e:sf (.code (qcj md P x) ⟨s,E.h⟩)with
 | none=>rw[e]at h;cases h
 | some r1 =>
  rw[e]at h;simp only at h;refine Go.wpIn_mono (hC x ro E s a r1 hE hR hs e) ?_;intro ex a1 w1 hp;have hp0:=hp;obtain⟨E1,M1,k1,k2,rfl,k4,k5,rfl,k7,k8⟩:=hp;cases hx:r1.x with
  | normal =>
   rw[hx]at h;simp only at h;have h2:sf (.code (qcj md P y) ⟨r1.st.s,E1.h⟩)=some r:=by rw[k4];exact h
   exact Go.wpIn_mono (hC y ro E1 r1.st.s a1 r k1 (qht k2 hR) k5 h2) fun ex a2 w2 hp2=>hQ _ _ _ (qov k1 k2 k7 k8 hp2)
  | exit id =>rw[hx]at h hp0;simp only[jC]at h;subst h;exact hQ _ _ _ hp0
  | ret =>rw[hx]at h hp0;simp only[jC]at h;subst h;exact hQ _ _ _ hp0
theorem q4c{P:Program}:∀{s t:List V} {E:Env} {us:List Value},Ok P E->qaj E s us->∃E',Ok P E'/\Ext E E'/\E'.w=E.w/\E'.h=(qfc s t E.h).2/\qaj E' (qfc s t E.h).1 us
 | [],t,E,us,hE,hs=>by refine⟨E,hE,Ext.refl E,rfl,?_,?_⟩<;>simp only[qfc]<;>first | rfl | exact hs
 | v :: s,[],E,us,hE,hs=>by
  have e:qfc (v :: s) [] E.h=(v :: s,E.h):=by cases v<;>rfl
  rw[e];exact⟨E,hE,Ext.refl E,rfl,rfl,hs⟩
 | v :: s,t0 :: t,E,us,hE,hs=>by
  unfold qaj at hs;obtain⟨u,us',rfl,h1,h2⟩:=hs;have rest:∃E',Ok P E'/\Ext E E'/\E'.w=E.w/\E'.h=(qfc s t E.h).2/\qaj E' (v :: (qfc s t E.h).1) (u :: us'):=by obtain⟨E',k1,k2,k3,k4,k5⟩:=q4c (t:=t) hE h2;exact⟨E',k1,k2,k3,k4,by unfold qaj;exact⟨u,us',rfl,qda hE k2.toExt0 _ _ h1,k5⟩⟩
  by_cases hcase:∃i g n o l,v=.nils/\t0=.sl i g n o l/\g=0/\o=0/\l=0/\i=E.h.length
  .obtain⟨i,g,n,o,l,rfl,rfl,rfl,rfl,rfl,rfl⟩:=hcase;have e:qfc (.nils :: s) (.sl E.h.length 0 n 0 0 :: t) E.h=(.sl E.h.length 0 n 0 0 :: s,E.h++[⟨0,.arr n []⟩]):=by simp[qfc]
   rw[e];unfold rel at h1;obtain⟨ad,rfl⟩:=h1;obtain⟨k1,k2⟩:=qhe hE (Grow.refl E.w) ⟨0,.arr n []⟩ none (fun b C h=>by cases h) (fun _=>by
    unfold qem;exact⟨rfl,.inl ⟨by simp,rfl⟩⟩)
   refine⟨_,k1,k2,rfl,rfl,?_⟩;unfold qaj;refine⟨_,_,rfl,?_,qba hE k2.toExt0 _ _ h2⟩;unfold rel;refine⟨by simp,by simp,ad,0,rfl,jD _,fun _=>rfl,fun _ _ h=>absurd rfl h,fun o ho _ _=>?_⟩;simp at ho;subst ho;exact⟨by simp[qmi],by simp[qco],.inl ⟨by simp,rfl⟩⟩
  .have e:qfc (v :: s) (t0 :: t) E.h=(v :: (qfc s t E.h).1,(qfc s t E.h).2):=by
    cases v<;>try rfl
    cases t0<;>try rfl
    rename_i i g n o l;simp only[qfc];rw[if_neg];rintro⟨h1,h2,h3,h4⟩;exact hcase ⟨i,g,n,o,l,rfl,rfl,h1,h2,h3,h4⟩
   rw[e];exact rest
theorem qrh{E:Env}:∀{s t:List V} {us:List Value},s.length=t.length->(qaj E s us\/qaj E t us)->qaj E (zdl s t) us
 | [],[],us,_,h=>by rcases h with h | h<;>exact h
 | [],_ :: _,_,hl,_=>by simp at hl
 | _ :: _,[],_,hl,_=>by simp at hl
 | a :: s,b :: t,us,hl,h=>by
  simp only[zdl];rcases h with h | h
  .unfold qaj at h ⊢;obtain⟨u,us',rfl,h1,h2⟩:=h;refine⟨u,us',rfl,?_,qrh (by simpa using hl) (.inl h2)⟩;split
   .exact h1
   .unfold rel;trivial
  .unfold qaj at h ⊢;obtain⟨u,us',rfl,h1,h2⟩:=h;refine⟨u,us',rfl,?_,qrh (by simpa using hl) (.inr h2)⟩;split
   .rename_i hb;rw[q9l hb];exact h1
   .unfold rel;trivial
theorem qzx{r q res:R}(h:zdm r q=some res):r.x=q.x/\(qfc r.st.s q.st.s r.st.h).1.length=q.st.s.length/\(qfc r.st.s q.st.s r.st.h).2=q.st.h/\res={ x:=r.x,st:=⟨zdl (qfc r.st.s q.st.s r.st.h).1 q.st.s,q.st.h⟩ }:=by
 unfold zdm at h;split at h
 .rename_i hc;cases h;exact⟨hc.1,hc.2.1,q5d hc.2.2,rfl⟩
 .cases h
theorem zik{P:Program}{E:Env}{a:Act}{r q res:R}(h:zdm r q=some res){ex:Exit}{a':Act}{w':World}(hp:q7e P E a r ex a' w'):q7e P E a res ex a' w':=by obtain⟨h1,h2,h3,rfl⟩:=qzx h;obtain⟨E1,M1,k1,k2,rfl,k4,k5,rfl,k7,k8⟩:=hp;obtain⟨E2,m1,m2,m3,m4,m5⟩:=q4c (t:=q.st.s) k1 k5;rw[k4]at m4 m5;have hM:qle E E2 M1:=q5r k1 m2 k8;exact⟨E2,M1,m1,k2.trans m2,m3,by rw[m4];exact h3,qrh h2 (.inl m5),rfl,k7,hM⟩
theorem zdn{P:Program}{E:Env}{a:Act}{r q res:R}(h:zdm r q=some res){ex:Exit}{a':Act}{w':World}(hp:q7e P E a q ex a' w'):q7e P E a res ex a' w':=by obtain⟨h1,h2,h3,rfl⟩:=qzx h;obtain⟨E1,M1,k1,k2,rfl,k4,k5,rfl,k7,k8⟩:=hp;exact⟨E1,M1,k1,k2,rfl,k4,qrh h2 (.inr k5),by rw[h1],k7,k8⟩
theorem q8w{P:Program}{x:Go.Code}{p c:C}(h:qjd (qcj md P x)=some (p,c)):∃p0 c0,x=.seq p0 c0/\p=qcj md P p0/\c=qcj md P c0:=by
 cases x<;>simp only[qcj]at h<;>try (simp only[qnw,qjd]at h;cases h;done)
 case loop c=>rcases qsp md (qcj md P c)with e | ⟨k,e⟩ | ⟨k,e⟩<;>rw[e]at h<;>cases h
 case region id ops d =>
  unfold zwh at h;cases d
  .simp only[Bool.false_eq_true,if_false,qjd]at h;cases h
  .simp only[if_true]at h;split at h<;>(simp only[qjd]at h;cases h)
 case cond c x1 x2 =>
  cases hc:cA c with
  | none=>rw[hc]at h;simp only[qnw,qjd]at h;cases h
  | some c'=>rw[hc]at h;simp only[qjd]at h;cases h
 case rangeFunc f ps as bd =>
  cases hc:cA f with
  | none=>rw[hc]at h;simp only[qnw,qjd]at h;cases h
  | some c'=>rw[hc]at h;simp only[qjd]at h;cases h
 case seq a b =>
  refine⟨a,b,rfl,?_⟩;generalize qcj md P a=A at h;generalize qcj md P b=B at h;cases B<;>simp only[qjd]at h<;>try (cases h;done)
  cases h;exact⟨rfl,rfl⟩
theorem q1a{P:Program}{sf:Q->Option R}(hC:qmn P sf)(x y:Go.Code){ro:Option Nat}{E:Env}{s:List V}{a:Act}{res:R}(hE:Ok P E)(hR:qps E ro)(hs:qaj E s a.tmps.toList)
  (h:zbq sf (qcj md P x) (qcj md P y) ⟨s,E.h⟩=some res) {Qp:Exit->Act->World->Prop} (hQ:∀ex a' w',q7e P E a res ex a' w'->Qp ex a' w'):x.wpIn (F0 ro) 0 P (Exit.then (fun a' w'=>y.wpIn (F0 ro) 0 P Qp a' w') Qp) a E.w:=by
 unfold zbq at h;cases ha:qsm (qcj md P x) ⟨s,E.h⟩with
 | none =>rw[ha]at h;exact qyo hC x y hE hR hs h hQ
 | some xy =>
  rw[ha]at h;obtain⟨p,q⟩:=xy;obtain⟨c,x1,x2,c',rfl,hc,rfl,rfl,hub⟩:=zcl ha;simp only at h;cases e1:q3y sf (qcj md P x1) (qcj md P y) ⟨s,E.h⟩with
  | none=>rw[e1]at h;cases h
  | some r =>
   cases e2:q3y sf (qcj md P x2) (qcj md P y) ⟨s,E.h⟩with
   | none=>rw[e1,e2]at h;cases h
   | some q =>
    rw[e1,e2]at h;simp only at h;have hr:=qav hs hc;rw[hub]at hr;unfold rel at hr;obtain⟨b,hb⟩:=hr;refine Go.wpIn_cond hb ?_;cases b with
    | true=>exact qyo hC x1 y hE hR hs e1 (fun _ _ _ hp=>hQ _ _ _ (zik h hp))
    | false=>exact qyo hC x2 y hE hR hs e2 (fun _ _ _ hp=>hQ _ _ _ (zdn h hp))
theorem zgd{P:Program}{pg:Prg}{sf:Q->Option R}(hD:zey P pg)(hS:SelfOk P sf)(hC:qmn P sf)(hG:zqv P sf .going)(hGK:∀k,zqv P sf fun nx c=>.goingK nx k c)(hGF:∀ks,zqv P sf fun nx c=>.goingF nx ks c):qmn P (qci pg sf):=by
 intro md c ro E s a res hE hR hs h;cases c<;>simp only[qcj]at h<;>try exact(qtv h).elim
 case skip =>simp only[qci,jC]at h;subst h;exact Go.wpIn_skip (qxt hE hs .normal)
 case region id ops draw =>
  cases draw with
  | true=>exact hD sf ro id ops E s a res hS hE hs h
  | false =>
   simp only[zwh,Bool.false_eq_true,if_false,qci]at h;rw[zee]at h;split at h
   .rename_i st' he;cases h;refine Go.wpIn_region (zhd hS ro _ (fun i hi=>List.mem_range.1 hi) hE hs he fun E' a' c1 c2 c3 c4 c5=>?_);exact⟨E',[],c1,c2,rfl,c3,c4,rfl,by simpa using c5,List.nodup_nil,fun r hr=>by cases hr⟩
   .cases h
 case seq x y =>
  simp only[qci]at h;cases hsp:qjd (qcj md P x)with
  | none =>rw[hsp]at h;exact Go.wpIn_seq (q1a hC x y hE hR hs h (fun _ _ _ hp=>hp))
  | some pc =>
   obtain⟨p,c⟩:=pc;rw[hsp]at h;obtain⟨p0,c0,rfl,rfl,rfl⟩:=q8w hsp;simp only at h;cases e:sf (.code (qcj md P p0) ⟨s,E.h⟩)with
   | none=>rw[e]at h;cases h
   | some r =>
    rw[e]at h;simp only at h;refine Go.wpIn_seq (Go.wpIn_seq (Go.wpIn_mono (hC p0 ro E s a r hE hR hs e) ?_));intro ex a1 w1 hp;have hp0:=hp;obtain⟨E1,M1,k1,k2,rfl,k4,k5,rfl,k7,k8⟩:=hp;cases hx:r.x with
    | normal =>
     rw[hx]at h;simp only at h;have h2:zbq sf (qcj md P c0) (qcj md P y) ⟨r.st.s,E1.h⟩=some res:=by rw[k4];exact h
     exact q1a hC c0 y k1 (qht k2 hR) k5 h2 (fun ex a2 w2 hp2=>qov k1 k2 k7 k8 hp2)
    | exit id =>rw[hx]at h hp0;simp only[jC]at h;subst h;exact hp0
    | ret =>rw[hx]at h hp0;simp only[jC]at h;subst h;exact hp0
 case cond c x y =>
  cases hc:cA c with
  | none=>rw[hc]at h;exact(qtv h).elim
  | some c' =>
   rw[hc]at h;simp only[qci]at h;split at h
   .rename_i t ht;have hr:=qav hs hc;rw[ht]at hr;unfold rel at hr;refine Go.wpIn_cond hr ?_;cases t with
    | true=>exact hC x ro E s a res hE hR hs h
    | false=>exact hC y ro E s a res hE hR hs h
   .cases h
 case block id c =>
  simp only[qci]at h;cases e:sf (.code (qcj md P c) ⟨s,E.h⟩)with
  | none=>rw[e]at h;cases h
  | some r =>
   rw[e]at h;simp only at h;refine Go.wpIn_block (Go.wpIn_mono (hC c ro E s a r hE hR hs e) ?_);intro ex a1 w1 hp;obtain⟨E1,M1,k1,k2,rfl,k4,k5,rfl,k7,k8⟩:=hp;split at h
   .rename_i hx;cases h;rw[hx];simp only[zxy,Exit.inBlock,if_true];exact⟨E1,M1,k1,k2,rfl,k4,k5,rfl,k7,k8⟩
   .rename_i hx;cases h;cases hxx:res.x with
    | normal=>exact⟨E1,M1,k1,k2,rfl,k4,k5,by rw[hxx],k7,k8⟩
    | ret=>exact⟨E1,M1,k1,k2,rfl,k4,k5,by rw[hxx],k7,k8⟩
    | exit id' =>have hne:id'≠id:=fun h=>hx (by rw[hxx,h]);simp only[zxy,Exit.inBlock,if_neg hne];exact⟨E1,M1,k1,k2,rfl,k4,k5,by rw[hxx];rfl,k7,k8⟩
 case loop c =>
  obtain⟨E1,a1,a2,a3,a4,a5⟩:=q9h hE hs;have hw:(Go.Code.loop c).wpIn (F0 ro) 0 P (q7e P E1 a res) a E1.w:=by
   rcases qsp md (qcj md P c)with e | ⟨k,e⟩ | ⟨ks,e⟩<;>rw[e]at h<;>simp only[qci]at h<;>rw[a4]at h
   .exact hG c ro E1 _ a res a1 (qht a2 hR) a5 h
   .exact hGK k c ro E1 _ a res a1 (qht a2 hR) a5 h
   .exact hGF ks c ro E1 _ a res a1 (qht a2 hR) a5 h
  rw[a3]at hw;exact Go.wpIn_mono hw fun ex a' w' hp=>qov a1 a2 (M1:=[]) rfl ⟨List.nodup_nil,fun r hr=>by cases hr⟩ hp
 case exit id =>simp only[qci,jC]at h;subst h;exact Go.wpIn_exit (qxt hE hs (.exit id))
 case ret =>simp only[qci,jC]at h;subst h;exact Go.wpIn_ret (qxt hE hs .ret)
 case rangeFunc f ps assign body =>
  cases hc:cA f with
  | none=>rw[hc]at h;exact(qtv h).elim
  | some f' =>
   rw[hc]at h;simp only[qci]at h;obtain⟨E1,a1,a2,a3,a4,a5⟩:=q9h hE hs;rw[a4]at h;simp only at h;split at h
   .rename_i fid first caps hfv
    -- the record is laid
    have lay:∀fn:Nat,∃(l:Nat) (mark:List Deferred) (w1:World) (L:Go.Loop) (M:List Nat),(Go.Instr.enterLoop fn a.tmps ps assign body ro).run P E.w=.ok (l,mark) w1/\Grow E.w w1/\E.w.heap.size<=l/\w1.heap[l]?=some (.loop L) /\
      L.state=.ready/\L.pending=none/\L.tmps=a.tmps/\L.params=ps/\L.assign=assign/\L.body=body/\mark=M.map q0c/\M.Nodup/\(∀r∈M,E.w.heap.size<=r/\r≠l/\w1.heap[r]?=some (.deferred (some []))):=by
     intro fn;cases ro with
     | none =>
      refine⟨E.w.heap.size+1,_,(E.w.alloc (.deferred (some []))).alloc (.loop { state:=.ready,pending:=none,fn,tmps:=a.tmps,params:=ps,assign,body,defers:=E.w.heap.size }),{ state:=.ready,pending:=none,fn,tmps:=a.tmps,params:=ps,assign,body,defers:=E.w.heap.size },[E.w.heap.size],?_,(Grow.alloc _ _).trans (Grow.alloc _ _),by omega,?_,rfl,rfl,rfl,rfl,rfl,rfl,rfl,by simp,?_⟩
      .simp[Go.Instr.enterLoop,q0c]
      .have:=Go.heap_alloc_new (E.w.alloc (.deferred (some []))) (.loop { state:=.ready,pending:=none,fn,tmps:=a.tmps,params:=ps,assign,body,defers:=E.w.heap.size });simpa using this
      .intro r hr;simp at hr;subst hr;refine⟨jD _,by omega,?_⟩;rw[Go.heap_alloc_old _ _ _ (by simp)];exact Go.heap_alloc_new _ _
     | some b =>
      obtain⟨id,D,o,h1,h2,h3⟩:=hR b rfl;have hro:=hE.obj id o h2;unfold qem at hro;cases hk:o.k<;>rw[hk]at hro h3<;>try (simp[qje]at h3;done)
      obtain⟨b',D',L0,q1,q2,q3,_⟩:=hro;rw[h1]at q1;cases q1;refine⟨E.w.heap.size,[],E.w.alloc (.loop { state:=.ready,pending:=none,fn,tmps:=a.tmps,params:=ps,assign,body,defers:=L0.defers }),{ state:=.ready,pending:=none,fn,tmps:=a.tmps,params:=ps,assign,body,defers:=L0.defers },[],?_,Grow.alloc _ _,jD _,Go.heap_alloc_new _ _,rfl,rfl,rfl,rfl,rfl,rfl,rfl,List.nodup_nil,fun r hr=>by cases hr⟩;simp[Go.Instr.enterLoop,Go.Instr.getLoop,Go.getObj,Sem.run,q3,Go.Result.andThen]
    refine Go.wpIn_rangeFunc fun fn _=>?_;obtain⟨l,mark,w1,L,M,l1,l2,l3,l4,l5,l6,l7,l8,l9,l10,l11,l12,l13⟩:=lay fn;have l2':Grow E1.w w1:=by rw[a3];exact l2
    obtain⟨p1,p2⟩:=qhe a1 l2' ⟨0,.loop (qcb E.h s).1 ps.toList (qcj md P assign) (qcj md P body) none⟩ (some (l,0,0)) (by intro b D hb;cases hb;exact⟨by rw[a3];exact l3,qec l4⟩) (fun y=>by
     unfold qem;refine⟨l,(0,0),L,by simp,fun h=>by have:=a1.S _ h;rw[a3]at this;omega,l4,?_,by rw[l8],⟨md,by rw[l9],by rw[l10]⟩,l5,l6⟩;rw[l7];exact qba a1 y.toExt0 _ _ a5)
    generalize hE2:(⟨fun i=>if i=E1.h.length then some (l,0,0)else E1.b i,E1.S,E1.h++[⟨0,.loop (qcb E.h s).1 ps.toList (qcj md P assign) (qcj md P body) none⟩],w1⟩:Env)=E2 at p1 p2;have e2w:E2.w=w1:=by rw[<-hE2]
    have e2h:E2.h=E1.h++[⟨0,.loop (qcb E.h s).1 ps.toList (qcj md P assign) (qcj md P body) none⟩]:=by rw[<-hE2]
    have e2b:E2.b E1.h.length=some (l,0,0):=by rw[<-hE2];simp
    -- the function
    have hf:=qav (qba a1 p2.toExt0 _ _ a5) hc;rw[hfv]at hf;unfold rel at hf;obtain⟨a',c',hu,hf1,hf2⟩:=hf;have hy:rel E2 (.yld E1.h.length) (.func (.yield l) #[] #[]):=by unfold rel;exact⟨by rw[e2h];simp,l,rfl,fun o _ _=>⟨(0,0),e2b⟩⟩
    have hargs:qaj E2 (first++[.yld E1.h.length]++caps) ((a'++#[Value.func (.yield l) #[] #[]])++c').toList:=by
     have hy1:qaj E2 [.yld E1.h.length] [Value.func (.yield l) #[] #[]]:=by unfold qaj;exact⟨_,_,rfl,hy,by unfold qaj;rfl⟩
     simpa using qck (qck hf1 hy1) hf2
    cases e:sf (.call (.fn fid first caps) [.yld E1.h.length] (E1.h++[⟨0,.loop (qcb E.h s).1 ps.toList (qcj md P assign) (qcj md P body) none⟩]))with
    | none=>rw[e]at h;cases h
    | some r =>
     rw[e]at h;simp only at h;have hu:a.eval f=.func (.func (qls fid)) a' c':=by
      have hlt:fid<1000000:=by
       rcases hS.kind _ _ _ _ e with⟨_,_,_,e1,h⟩ | ⟨_,e1⟩
       .cases e1;exact h
       .cases e1
      rcases hu with hu | hu
      .exact hu.2
      .exact absurd hu.1 (by omega)
     rw[<-e2h]at e;obtain⟨⟨fnn,q1,q2,q3⟩,q4⟩:=hS.fn fid first caps [.yld E1.h.length] E2 r _ p1 hargs e
     have hbne:fnn.body≠none:=by intro hb;rw[hb]at q3;cases q3
     refine⟨l,mark,w1,{ target:=.fn (.func (qls fid)) c',args:=a'++#[Value.func (.yield l) #[] #[]] },w1,qls fid,(a'++#[Value.func (.yield l) #[] #[]])++c',w1,l1,?_,fun _ _=>trivial,?_,fun h=>by simp[F0,Fence.wide]at h,?_⟩
     .show(Go.Deferred.ofValue (a.eval f) _).run P w1=_;rw[hu];simp[Go.Deferred.ofValue,Act.eval]
     .simp[Go.invoke,Go.callFunc,q1,q2,hbne]
     .rw[e2w]at q4;refine Go.CallsIn.mono (F:=F0 ro) q4 ?_;rintro en w3 ⟨E3,u3,rfl,c1,c2,rfl,c4,c5⟩;have hll:E1.h.length<E2.h.length:=by rw[e2h];simp
      split at h
      .rename_i g0 sl0 ps0 as0 bd0 p0 hob;have hob3:E3.h[E1.h.length]?=some ⟨g0,.loop sl0 ps0 as0 bd0 p0⟩:=by rw[c4];exact hob
       have hb3:=zix c2 hll hob3 rfl e2b;have hro:=c1.obj _ _ hob3;unfold qem at hro;obtain⟨b3,D3,L3,t1,t2,t3,t4,t5,t6,t8⟩:=hro;rw[hb3]at t1;cases t1;obtain⟨E4,d1,d2,d3,d4,d5⟩:=q2p (p':=some .normal) (L':={ L3 with state:=.exhausted }) c1 hob3 hb3 t3 t2 t4 t5 t6 trivial;have X:Ext E (qkm E1.h.length E4):=qoj (((a2.trans p2).trans c2).trans d2) a2.len;have X1:Ext E1 (qkm E1.h.length E4):=qoj ((p2.trans c2).trans d2) (jD _);have hcut:(qkm E1.h.length E4).h=qde E1.h.length (r.st.h.set E1.h.length ⟨g0,.loop sl0 ps0 as0 bd0 (some .normal)⟩):=by rw[qsq,d3,c4]
       have hm:qle E (qkm E1.h.length E4) M:=by
        refine⟨l12,fun rr hrr=>⟨(l13 rr hrr).1,?_⟩⟩;have h1:=(l13 rr hrr).2.2;rw[<-e2w]at h1;have h3:E3.w.heap[rr]?=some (.deferred (some [])):=by rw[c2.keep rr (qec h1) (q2q p1 h1)];exact h1
        rw[qmt];rw[d2.keep rr (qec h3) (q2q c1 h3)];exact h3
       have hend:∀jump,L3.pending=jump->L3.state ≠ .busy->(Go.Instr.endLoop l).run P E3.w=.ok jump E4.w:=by intro jump hj hb;rw[d4];simp[Go.Instr.endLoop,Go.Instr.getLoop,Go.getObj,Go.setObj,Sem.run,Go.Result.andThen,t3,hb,hj]
       have post:∀x,q7e P E a { x:=x,st:=⟨(qcb E.h s).1,qde E1.h.length (r.st.h.set E1.h.length ⟨g0,.loop sl0 ps0 as0 bd0 (some .normal)⟩)⟩ } (zxy x) { a with defers:=mark++a.defers } E4.w:=fun x =>⟨qkm E1.h.length E4,M,qwe d1 _,X,qmt _ _,hcut,qba a1 X1.toExt0 _ _ a5,rfl,by rw[l11],hm⟩
       cases p0 with
       | none =>simp only[jC]at h;subst h;exact⟨none,E4.w,hend none t8.2 (by rw[t8.1];simp),post .normal⟩
       | some x =>
        cases x with
        | normal=>simp only at h;cases h
        | exit id =>simp only[jC]at h;subst h;exact⟨some (.exit id),E4.w,hend _ t8.2 (by rw[t8.1];simp),Go.wpIn_exit (post (.exit id))⟩
        | ret =>simp only[jC]at h;subst h;exact⟨some .ret,E4.w,hend _ t8.2 (by rw[t8.1];simp),Go.wpIn_ret (post .ret)⟩
      .cases h
   .cases h
theorem zil{P:Program}{pg:Prg}{sf:Q->Option R}(hpg:Made P pg):∀f args h res,qci pg sf (.call f args h)=some res->(∃a b c,f=.fn a b c/\a<1000000)\/∃l,f=.yld l:=by
 intro f args h res he;cases f<;>first
  | (exact .inr ⟨_,rfl⟩)
  | (simp[qci]at he;done)
  | skip
 rename_i f a b;refine .inl ⟨_,_,_,rfl,?_⟩;simp only[qci]at he;cases e:pg f with
 | none=>rw[e]at he;cases he
 | some g =>
  rcases hpg f g e with⟨fn,_,_,_,h1,h2⟩ | ⟨_,hlt,_⟩ | ⟨_,hlt,_⟩
  rotate_left
  .omega
  .omega
  unfold zwg at h2;split at h2
  .cases h2
  .have:=(Array.getElem?_eq_some_iff.1 h1).1;unfold qls at this;split at this<;>omega
theorem zpu{P:Program}{pg:Prg}(hD:zey P pg)(hpg:Made P pg):∀n,SelfOk P (evN pg n)/\qmn P (evN pg n)
 | 0=>⟨⟨fun _ _ _ _ _ _ _ _ _ h=>by simp[evN]at h,fun _ _ _ _ _ _ _ h=>by simp[evN]at h,fun _ _ _ _ h=>by simp[evN]at h⟩,fun _ _ _ _ _ _ _ _ _ h=>by simp[evN]at h⟩
 | n+1=>by obtain⟨hS,hC⟩:=zpu hD hpg n;exact⟨⟨zsq hpg (fun k st r h=>by cases n with | zero=>simp[evN]at h | succ n=>exact h) hC,zpi hC,zil hpg⟩,zgd hD hS hC (z2z hC) (zyi hC) (zyh hC)⟩
def q1l(n:Nat)(pre:Nat->List Nat):List Nat->List Nat->Prop
 | D,[]=>∀i,i<n->i∈D
 | D,i :: r=>i<n/\i∉D/\(∀j∈pre i,j∈D)/\q1l n pre (i :: D) r
theorem zmb{m:Go.Region.Mode}{e:Go.Edge}(h:q9m e=true):Go.Region.binds m e=true:=by
 unfold q9m at h;unfold Go.Region.binds;split at h<;>first | (cases h;done) | skip
 split<;>first | rfl | simp_all
def left(n:Nat)(D:List Nat):List Nat:=(List.range n).filter fun i=>!D.contains i
theorem zin{n i:Nat}{D:List Nat}(hi:i<n)(hD:i∉D):(left n (i :: D)).length+1=(left n D).length:=by
 have hnd:(left n D).Nodup:=List.Pairwise.filter _ List.nodup_range;have hm:i∈left n D:=by simp[left,hi,hD]
 have he:left n (i :: D)=(left n D).erase i:=by
  rw[hnd.erase_eq_filter];simp only[left,List.filter_filter];apply List.filter_congr;intro x _;by_cases hx:x=i
  .subst hx;simp
  .simp[hx]
 rw[he,List.length_erase_of_mem hm];have:=List.length_pos_of_mem hm;omega
theorem zyq{p:Nat->Prop}(r:Nat->Nat)(h:∃i,p i):∃i,p i/\∀j,p j->r i<=r j:=by obtain⟨i,hi⟩:=h;obtain⟨k,⟨i0,h1,h2⟩,h3⟩:=znv (p:=fun k=>∃i,p i/\r i=k) ⟨_,i,hi,rfl⟩;exact⟨i0,h1,fun j hj=>by rw[h2];exact h3 _ ⟨j,hj,rfl⟩⟩
theorem zaq{m:Go.Region.Mode}{ops:Array Oper}(r:Nat->Nat)(hlt:∀i,i<ops.size->∀e∈(ops.getD i default).after.toList,e.on<ops.size/\(Go.Region.binds m e=true->r e.on<r i)):∀(fuel t:Nat) (listed:Array Bool) (acc:List Nat),listed.size=ops.size->(∀i,i<ops.size->(listed.getD i true=true<->i∈acc))->(left ops.size acc).length=fuel ->
  ∃rest,Go.Region.linearise.go m ops fuel t listed acc=acc.reverse++rest/\q1l ops.size (qxu ops) acc rest
 | 0,t,listed,acc,hsz,hl,hf=>by
  refine⟨[],by simp[Go.Region.linearise.go],?_⟩;unfold q1l;intro i hi;have h0:left ops.size acc=[]:=List.length_eq_zero_iff.1 hf;by_cases h:i∈acc
  .exact h
  .have:i∈left ops.size acc:=by simp[left,hi,h]
   rw[h0]at this;cases this
 | fuel+1,t,listed,acc,hsz,hl,hf=>by
  have hne:∃i,i<ops.size/\i∉acc:=by
   have:left ops.size acc≠[]:=by intro h;rw[h]at hf;simp at hf
   obtain⟨i,hi⟩:=List.exists_mem_of_ne_nil _ this;simp[left]at hi;exact⟨i,hi.1,by simpa using hi.2⟩
  obtain⟨i0,⟨h1,h2⟩,h3⟩:=zyq r hne;have ready:∀i,i<ops.size->i∉acc->(∀e∈(ops.getD i default).after.toList,Go.Region.binds m e=true->e.on∈acc)->i∈(List.range ops.size).filter fun i =>
    !listed.getD i true&&((ops[i]?).map (·.after.all fun e=>!Go.Region.binds m e||listed.getD e.on false)).getD false:=by
   intro i hi hacc hp;have hget:ops[i]?=some (ops.getD i default):=by simp[Array.getD,hi]
   rw[List.mem_filter];refine⟨List.mem_range.2 hi,?_⟩;have hli:listed.getD i true=false:=by
    cases h:listed.getD i true with
    | false=>rfl
    | true=>exact absurd ((hl i hi).1 h) hacc
   simp only[hli,hget,Option.map_some,Option.getD_some,Bool.not_false,Bool.true_and,Array.all_eq_true'];intro e he;by_cases hb:Go.Region.binds m e=true
   .have hin:=hp e (by simpa using he) hb;have hlt':e.on<ops.size:=(hlt i hi e (by simpa using he)).1;have h4:=(hl e.on hlt').2 hin;have h5:listed.getD e.on false=listed.getD e.on true:=by simp[Array.getD,hsz,hlt']
    simp[h5,h4]
   .simp[hb]
  have hr0:=ready i0 h1 h2 (fun e he hb=>by
   obtain⟨hlt0,hlt1⟩:=hlt i0 h1 e he;have hlt1:=hlt1 hb;by_cases hin:e.on∈acc
   .exact hin
   .have:=h3 e.on ⟨hlt0,hin⟩;omega)
  simp only[Go.Region.linearise.go];generalize hrs:((List.range ops.size).filter fun i=>!listed.getD i true&&((ops[i]?).map (·.after.all fun e=>!Go.Region.binds m e||listed.getD e.on false)).getD false)=rs at hr0;have hpos:0<rs.length:=List.length_pos_of_mem hr0;have hmod:=Nat.mod_lt t hpos;rw[jA hmod];simp only;have hmem:rs[t % rs.length]∈rs:=jH hmod;generalize rs[t % rs.length]=i at hmem;rw[<-hrs,List.mem_filter]at hmem;obtain⟨m1,m2⟩:=hmem;have hi:=List.mem_range.1 m1;have hget:ops[i]?=some (ops.getD i default):=by simp[Array.getD,hi]
  simp only[hget,Option.map_some,Option.getD_some,jE,Bool.not_eq_true',Array.all_eq_true']at m2;have hacc:i∉acc:=fun h=>by have:=(hl i hi).2 h;rw[m2.1]at this;cases this
  obtain⟨rest,g1,g2⟩:=zaq r hlt fuel (t / rs.length) (listed.setIfInBounds i true) (i :: acc) (by simpa using hsz) (fun j hj=>by
   by_cases hij:j=i
   .subst hij;simp[Array.getD,hsz,hj]
   .have:(listed.setIfInBounds i true).getD j true=listed.getD j true:=by
     simp only[Array.getD,Array.size_setIfInBounds];split
     .simp only[Array.getInternal_eq_getElem];rw[Array.getElem_setIfInBounds_ne (by omega) (Ne.symm hij)]
     .rfl
    rw[this,hl j hj];simp[hij]) (by have:=zin hi hacc;omega)
  refine⟨i :: rest,by rw[g1];simp,?_⟩;unfold q1l;refine⟨hi,hacc,fun j hj=>?_,g2⟩;unfold qxu at hj;obtain⟨e,he,rfl⟩:=List.mem_map.1 hj;obtain⟨he1,he2⟩:=List.mem_filter.1 he;have h4:=m2.2 e (by simpa using he1);simp only[zmb he2,Bool.not_true,Bool.false_or]at h4;have hlt':e.on<ops.size:=(hlt i hi e he1).1;have h5:listed.getD e.on false=listed.getD e.on true:=by simp[Array.getD,hsz,hlt']
  exact(hl e.on hlt').1 (by rw[<-h5];exact h4)
theorem qze{ops:Array Oper}(hlt:∀m:Go.Region.Mode,∃r:Nat->Nat,∀i,i<ops.size->∀e∈(ops.getD i default).after.toList,e.on<ops.size/\(Go.Region.binds m e=true->r e.on<r i))(mixed:Bool)(t:Nat):q1l ops.size (qxu ops) [] (Go.Region.schedule mixed ops t):=by
 have key:∀m t,q1l ops.size (qxu ops) [] (Go.Region.linearise m ops t):=by intro m t;obtain⟨r,hr⟩:=hlt m;obtain⟨rest,h1,h2⟩:=zaq (m:=m) r hr ops.size t (Array.replicate ops.size false) [] (by simp) (fun i hi=>by simp[Array.getD,hi]) (by unfold left;rw[List.filter_eq_self.2 (by simp)];simp);unfold Go.Region.linearise;rw[h1];exact h2
 unfold Go.Region.schedule;split
 .exact key _ _
 .exact key _ _
theorem evc{x:A}{s s':List V}(h:∀d∈qej x,qah s d=qah s' d):x.ev s=x.ev s':=by
 cases x with
 | t n=>exact h n (by simp[qej])
 | c v=>rfl
 | m l n=>simp only[A.ev];rw[h n (by simp[qej])]
theorem zbd{x:Option A}{s s':List V}{d:Nat}(h:∀e∈x.toList.flatMap qej,qah s e=qah s' e):qcq s x d=qcq s' x d:=by
 cases x with
 | none=>rfl
 | some x=>simp only[qcq];rw[evc (x:=x) fun e he=>h e (by simpa using he)]
theorem z4t{l:List A}{s s':List V}(h:∀d∈l.flatMap qej,qah s d=qah s' d):l.map (A.ev s)=l.map (A.ev s'):=by apply List.map_congr_left;intro x hx;exact evc fun d hd=>h d (List.mem_flatMap.2 ⟨x,hx,hd⟩)
theorem zhe{s s':List V}{h:H}:∀(o:O),(∀d∈qax o,qah s d=qah s' d)->exO o s h=exO o s' h
 | .mv x,H=>by have e_x:=evc (x:=x) (s:=s) (s':=s') fun d hd=>H d (by simp[qax,hd]);simp only[exO,e_x]
 | .pick x y z,H=>by have e_x:=evc (x:=x) (s:=s) (s':=s') fun d hd=>H d (by simp[qax,hd]);have e_y:=evc (x:=y) (s:=s) (s':=s') fun d hd=>H d (by simp[qax,hd]);have e_z:=evc (x:=z) (s:=s) (s':=s') fun d hd=>H d (by simp[qax,hd]);simp only[exO,e_x,e_y,e_z]
 | .alloc zero,H=>by simp only[exO]
 | .box x,H=>by have e_x:=evc (x:=x) (s:=s) (s':=s') fun d hd=>H d (by simp[qax,hd]);simp only[exO,e_x]
 | .load agg n x,H=>by have e_x:=evc (x:=x) (s:=s) (s':=s') fun d hd=>H d (by simp[qax,hd]);simp only[exO,e_x]
 | .store n x y,H=>by have e_x:=evc (x:=x) (s:=s) (s':=s') fun d hd=>H d (by simp[qax,hd]);have e_y:=evc (x:=y) (s:=s) (s':=s') fun d hd=>H d (by simp[qax,hd]);simp only[exO,e_x,e_y]
 | .nilck x,H=>by have e_x:=evc (x:=x) (s:=s) (s':=s') fun d hd=>H d (by simp[qax,hd]);simp only[exO,e_x]
 | .bin b op x y,H=>by have e_x:=evc (x:=x) (s:=s) (s':=s') fun d hd=>H d (by simp[qax,hd]);have e_y:=evc (x:=y) (s:=s) (s':=s') fun d hd=>H d (by simp[qax,hd]);simp only[exO,e_x,e_y]
 | .eqa neg ks x y,H=>by have e_x:=evc (x:=x) (s:=s) (s':=s') fun d hd=>H d (by simp[qax,hd]);have e_y:=evc (x:=y) (s:=s) (s':=s') fun d hd=>H d (by simp[qax,hd]);simp only[exO,e_x,e_y]
 | .un op x,H=>by have e_x:=evc (x:=x) (s:=s) (s':=s') fun d hd=>H d (by simp[qax,hd]);simp only[exO,e_x]
 | .conv c x,H=>by have e_x:=evc (x:=x) (s:=s) (s':=s') fun d hd=>H d (by simp[qax,hd]);simp only[exO,e_x]
 | .mkmap,H=>by simp only[exO]
 | .mkslice n bytes zero x y,H=>by have e_x:=evc (x:=x) (s:=s) (s':=s') fun d hd=>H d (by simp[qax,hd]);have e_y:=evc (x:=y) (s:=s) (s':=s') fun d hd=>H d (by simp[qax,hd]);simp only[exO,e_x,e_y]
 | .faddr off x,H=>by have e_x:=evc (x:=x) (s:=s) (s':=s') fun d hd=>H d (by simp[qax,hd]);simp only[exO,e_x]
 | .fld agg off n x,H=>by have e_x:=evc (x:=x) (s:=s) (s':=s') fun d hd=>H d (by simp[qax,hd]);simp only[exO,e_x]
 | .iaddrA len n x y,H=>by have e_x:=evc (x:=x) (s:=s) (s':=s') fun d hd=>H d (by simp[qax,hd]);have e_y:=evc (x:=y) (s:=s) (s':=s') fun d hd=>H d (by simp[qax,hd]);simp only[exO,e_x,e_y]
 | .iaddrL n x y,H=>by have e_x:=evc (x:=x) (s:=s) (s':=s') fun d hd=>H d (by simp[qax,hd]);have e_y:=evc (x:=y) (s:=s) (s':=s') fun d hd=>H d (by simp[qax,hd]);simp only[exO,e_x,e_y]
 | .idxA agg len n x y,H=>by have e_x:=evc (x:=x) (s:=s) (s':=s') fun d hd=>H d (by simp[qax,hd]);have e_y:=evc (x:=y) (s:=s) (s':=s') fun d hd=>H d (by simp[qax,hd]);simp only[exO,e_x,e_y]
 | .idxS x y,H=>by have e_x:=evc (x:=x) (s:=s) (s':=s') fun d hd=>H d (by simp[qax,hd]);have e_y:=evc (x:=y) (s:=s) (s':=s') fun d hd=>H d (by simp[qax,hd]);simp only[exO,e_x,e_y]
 | .look kk zero ok x y,H=>by have e_x:=evc (x:=x) (s:=s) (s':=s') fun d hd=>H d (by simp[qax,hd]);have e_y:=evc (x:=y) (s:=s) (s':=s') fun d hd=>H d (by simp[qax,hd]);simp only[exO,e_x,e_y]
 | .upd kk x y z,H=>by have e_x:=evc (x:=x) (s:=s) (s':=s') fun d hd=>H d (by simp[qax,hd]);have e_y:=evc (x:=y) (s:=s) (s':=s') fun d hd=>H d (by simp[qax,hd]);have e_z:=evc (x:=z) (s:=s) (s':=s') fun d hd=>H d (by simp[qax,hd]);simp only[exO,e_x,e_y,e_z]
 | .appF n bytes x y,H=>by have e_x:=evc (x:=x) (s:=s) (s':=s') fun d hd=>H d (by simp[qax,hd]);have e_y:=evc (x:=y) (s:=s) (s':=s') fun d hd=>H d (by simp[qax,hd]);simp only[exO,e_x,e_y]
 | .isnilP neg x,H=>by have e_x:=evc (x:=x) (s:=s) (s':=s') fun d hd=>H d (by simp[qax,hd]);simp only[exO,e_x]
 | .own n zero len ps,H=>by
  have ev1:∀p∈ps,p.2.ev s=p.2.ev s':=fun p hp=>evc (x:=p.2) fun d hd=>H d (List.mem_flatMap.2 ⟨p,hp,hd⟩);have e2:(ps.map fun p=>(p.1,qfq h (p.2.ev s)))=ps.map fun p=>(p.1,qfq h (p.2.ev s')):=List.map_congr_left fun p hp=>by rw[ev1 p hp]
  have e3:(ps.map fun p=>p.2.ev s)=ps.map fun p=>p.2.ev s':=List.map_congr_left fun p hp=>by rw[ev1 p hp]
  simp only[exO,e2,e3]
 | .isnil neg x,H=>by have e_x:=evc (x:=x) (s:=s) (s':=s') fun d hd=>H d (by simp[qax,hd]);simp only[exO,e_x]
 | .rng x,H=>by have e_x:=evc (x:=x) (s:=s) (s':=s') fun d hd=>H d (by simp[qax,hd]);simp only[exO,e_x]
 | .nxt x,H=>by have e_x:=evc (x:=x) (s:=s) (s':=s') fun d hd=>H d (by simp[qax,hd]);simp only[exO,e_x]
 | .ext i x,H=>by have e_x:=evc (x:=x) (s:=s) (s':=s') fun d hd=>H d (by simp[qax,hd]);simp only[exO,e_x]
 | .len b x,H=>by have e_x:=evc (x:=x) (s:=s) (s':=s') fun d hd=>H d (by simp[qax,hd]);simp only[exO,e_x]
 | .lenm x,H=>by have e_x:=evc (x:=x) (s:=s) (s':=s') fun d hd=>H d (by simp[qax,hd]);simp only[exO,e_x]
 | .cap x,H=>by have e_x:=evc (x:=x) (s:=s) (s':=s') fun d hd=>H d (by simp[qax,hd]);simp only[exO,e_x]
 | .app n bytes x y,H=>by have e_x:=evc (x:=x) (s:=s) (s':=s') fun d hd=>H d (by simp[qax,hd]);have e_y:=evc (x:=y) (s:=s) (s':=s') fun d hd=>H d (by simp[qax,hd]);simp only[exO,e_x,e_y]
 | .appz n bytes zero x y,H=>by have e_x:=evc (x:=x) (s:=s) (s':=s') fun d hd=>H d (by simp[qax,hd]);have e_y:=evc (x:=y) (s:=s) (s':=s') fun d hd=>H d (by simp[qax,hd]);simp only[exO,e_x,e_y]
 | .clr n zero x,H=>by have e_x:=evc (x:=x) (s:=s) (s':=s') fun d hd=>H d (by simp[qax,hd]);simp only[exO,e_x]
 | .mx mn x y,H=>by have e_x:=evc (x:=x) (s:=s) (s':=s') fun d hd=>H d (by simp[qax,hd]);have e_y:=evc (x:=y) (s:=s) (s':=s') fun d hd=>H d (by simp[qax,hd]);simp only[exO,e_x,e_y]
 | .call f as,H=>by simp only[exO]
 | .stuck,H=>by simp only[exO]
 | .slcA len n x lo hi,H=>by
  have e_x:=evc (x:=x) (s:=s) (s':=s') fun d hd=>H d (by simp[qax,hd]);have e_l:∀d,qcq s lo d=qcq s' lo d:=fun d=>by
   cases lo with
   | none=>rfl
   | some y=>simp only[qcq];rw[evc (x:=y) (s:=s) (s':=s') fun d hd=>H d (by simp[qax,hd])]
  have e_h:∀d,qcq s hi d=qcq s' hi d:=fun d=>by
   cases hi with
   | none=>rfl
   | some y=>simp only[qcq];rw[evc (x:=y) (s:=s) (s':=s') fun d hd=>H d (by simp[qax,hd])]
  simp only[exO,e_x,e_l,e_h]
 | .build zero ps,H=>by
  have e:(ps.map fun p=>(p.1,p.2.1,p.2.2.ev s))=ps.map fun p=>(p.1,p.2.1,p.2.2.ev s'):=by apply List.map_congr_left;intro p hp;rw[evc (x:=p.2.2) fun d hd=>H d (List.mem_flatMap.2 ⟨p,hp,hd⟩)]
  simp only[exO,e]
 | .lit n zero len ps,H=>by
  have ev1:∀p∈ps,p.2.ev s=p.2.ev s':=fun p hp=>evc (x:=p.2) fun d hd=>H d (List.mem_flatMap.2 ⟨p,hp,hd⟩);have e:(ps.map fun p=>(p.1,p.2.ev s))=ps.map fun p=>(p.1,p.2.ev s'):=List.map_congr_left fun p hp=>by rw[ev1 p hp]
  simp only[exO,e]
 | .bslice fz n zero len ps,H=>by
  have ev1:∀p∈ps,p.2.ev s=p.2.ev s':=fun p hp=>evc (x:=p.2) fun d hd=>H d (List.mem_flatMap.2 ⟨p,hp,hd⟩);have e:(ps.map fun p=>(p.1,p.2.ev s))=ps.map fun p=>(p.1,p.2.ev s'):=List.map_congr_left fun p hp=>by rw[ev1 p hp]
  have e2:(ps.map fun p=>(p.1,qfq h (p.2.ev s)))=ps.map fun p=>(p.1,qfq h (p.2.ev s')):=List.map_congr_left fun p hp=>by rw[ev1 p hp]
  have e3:(ps.map fun p=>p.2.ev s)=ps.map fun p=>p.2.ev s':=List.map_congr_left fun p hp=>by rw[ev1 p hp]
  have e4:(ps.map fun p=>(p.1*n,n,p.2.ev s))=ps.map fun p=>(p.1*n,n,p.2.ev s'):=List.map_congr_left fun p hp=>by rw[ev1 p hp]
  simp only[exO,e,e2,e3,e4]
 | .mkfn f as bs,H=>by have e1:=z4t (l:=as) (s:=s) (s':=s') fun d hd=>H d (by simp only[qax,jQ];exact .inl hd);have e2:=z4t (l:=bs) (s:=s) (s':=s') fun d hd=>H d (by simp only[qax,jQ];exact .inr hd);simp only[exO,e1,e2]
 | .slcS x lo hi,H=>by have e_x:=evc (x:=x) (s:=s) (s':=s') fun d hd=>H d (by simp[qax,hd]);have e1:∀d,qcq s lo d=qcq s' lo d:=fun d=>zbd fun e he=>H e (by simp only[qax,List.flatMap_append,jQ];exact .inr (.inl he));have e2:∀d,qcq s hi d=qcq s' hi d:=fun d=>zbd fun e he=>H e (by simp only[qax,List.flatMap_append,jQ];exact .inr (.inr he));simp only[exO,e_x,e1,e2]
 | .slcL n x lo hi mx,H=>by
  have e_x:=evc (x:=x) (s:=s) (s':=s') fun d hd=>H d (by simp[qax,hd]);have e1:∀d,qcq s lo d=qcq s' lo d:=fun d=>zbd fun e he=>H e (by simp only[qax,List.flatMap_append,jQ];exact .inr (.inl (.inl he)));have e2:∀d,qcq s hi d=qcq s' hi d:=fun d=>zbd fun e he=>H e (by simp only[qax,List.flatMap_append,jQ];exact .inr (.inl (.inr he)));cases mx with
  | none =>simp only[exO,e_x,e1,e2];cases A.ev s' x<;>simp only<;>(try rfl)<;>(generalize qcq s' lo 0=p;generalize qcq s' hi _=q;cases p<;>cases q<;>rfl)
  | some m =>have e_m:=evc (x:=m) (s:=s) (s':=s') fun d hd=>H d (by simp only[qax,List.flatMap_append,jQ];exact .inr (.inr (by simpa using hd)));simp only[exO,e_x,e1,e2];cases A.ev s' x<;>simp only<;>(try rfl)<;>(generalize qcq s' lo 0=p;generalize qcq s' hi _=q;cases p<;>cases q<;>simp only[e_m])
theorem q3q{s s':List V}{i:I}(H:∀d∈qmf i,qah s d=qah s' d):qcc s i=qcc s' i:=by
 unfold qcc;cases hg:i.g with
 | none=>rfl
 | some p =>obtain⟨j,b⟩:=p;simp only;rw[H j (by simp[qmf,hg])]
def q3m(P:Prg)(self:Q->Option R)(i:I)(s:List V)(h:H):Option (V×H) :=
 match qcc s i with
 | some true=>(match i.o with
   | .call f args=>qmh P self (f.ev s) (args.map (A.ev s)) h
   | o=>exO o s h)
 | some false=>some (.tup [],h)
 | none=>none
theorem zhb{P:Prg}{self:Q->Option R}{i:I}{s:List V}{h:H}:exI P self i ⟨s,h⟩=(q3m P self i s h).map fun p=>⟨q3x s i.dst p.1,p.2⟩:=by
 unfold exI q3m;cases hw:qcc s i with
 | none=>rfl
 | some t =>
  cases t with
  | false=>rfl
  | true =>
   simp only;cases i.o<;>simp only<;>first
    | (generalize exO _ s h=x;cases x<;>rfl)
    | (generalize qmh P self _ _ h=x;cases x<;>rfl)
theorem q1g{P:Prg}{self:Q->Option R}{i:I}{s s':List V}{h:H}(H:∀d∈qmf i,qah s d=qah s' d):q3m P self i s h=q3m P self i s' h:=by
 have hO:∀d∈qax i.o,qah s d=qah s' d:=fun d hd=>H d (by simp[qmf,hd]);unfold q3m;rw[q3q H];cases qcc s' i with
 | none=>rfl
 | some t =>
  cases t with
  | false=>rfl
  | true =>
   simp only;cases ho:i.o<;>simp only<;>try (rw[<-ho];exact zhe _ hO)
   rename_i f args;rw[ho]at hO;rw[evc (x:=f) fun d hd=>hO d (by simp[qax,hd]),z4t (l:=args) fun d hd=>hO d (by simp only[qax,jQ];exact .inr hd)]
open Go (World Value Addr Obj Program Act Operand Oper Op)
theorem qlj:∀{s:List V} {d e:Nat} {v:V},e≠d->qah (qet s d v) e=qah s e
 | [],_,_,_,_=>rfl
 | x :: xs,0,0,_,h=>absurd rfl h
 | x :: xs,0,e+1,_,_=>rfl
 | x :: xs,d+1,0,_,_=>rfl
 | x :: xs,d+1,e+1,v,h=>by show qah (qet xs d v) e=qah xs e;exact qlj (by omega)
theorem qpx:∀{s:List V} {d:Nat} {v:V},d<s.length->qah (qet s d v) d=v
 | [],_,_,h=>by simp at h
 | x :: xs,0,_,_=>rfl
 | x :: xs,d+1,v,h=>by show qah (qet xs d v) d=v;exact qpx (by simpa using h)
theorem qxf:∀{s:List V} {d:Nat} {v:V},(qet s d v).length=s.length
 | [],_,_=>rfl
 | x :: xs,0,_=>rfl
 | x :: xs,d+1,v=>by show(qet xs d v).length+1=xs.length+1;rw[qxf]
theorem qxe{s:List V}{d:Option Nat}{v:V}:(q3x s d v).length=s.length:=by
 cases d with
 | none=>rfl
 | some d=>exact qxf
theorem qjs:∀{s:List V} {d:Nat},s.length<=d->qah s d=.undef
 | [],_,_=>rfl
 | x :: xs,0,h=>by simp at h
 | x :: xs,d+1,h=>qjs (s:=xs) (by simpa using h)
theorem qvk:∀{s t:List V},s.length=t.length->(∀d,d<s.length->qah s d=qah t d)->s=t
 | [],[],_,_=>rfl
 | [],y :: ys,h,_=>by simp at h
 | x :: xs,[],h,_=>by simp at h
 | x :: xs,y :: ys,h,hd=>by have h0:x=y:=hd 0 (by simp);have h1:xs=ys:=qvk (by simpa using h) fun d hlt=>hd (d+1) (by simpa using hlt);rw[h0,h1]
theorem q5a:∀(s:List V) (d:Nat),qah s d=s.getD d .undef
 | [],_=>by simp[qah]
 | x :: xs,0=>by simp[qah]
 | x :: xs,d+1=>by rw[show qah (x :: xs) (d+1)=qah xs d from rfl,q5a xs d];simp
theorem zdf{k d:Nat}{f:Nat->V}(h:d<k):qah ((List.range k).map f) d=f d:=by rw[q5a];simp[h]
section
variable(ops:Array Oper)(is:List I)(anc:List (List Nat))
def itI(i:Nat):I:=is.getD i default
structure Facts:Prop where
 edge:∀m:Go.Region.Mode,∃r:Nat->Nat,∀i,i<ops.size->∀e∈(ops.getD i default).after.toList,e.on<ops.size/\(Go.Region.binds m e=true->r e.on<r i)
 pre:∀i,i<is.length->∀j∈qxu ops i,j<i
 anc_lt:∀i,i<is.length->∀j∈anc.getD i [],j<i
 anc_pre:∀i,i<is.length->∀j∈anc.getD i [],j∈qxu ops i\/∃e∈qxu ops i,j∈anc.getD e []
 dst:∀i,i<is.length->∀j,j<is.length->i≠j->∀d,(itI is i).dst=some d->(itI is j).dst≠some d
 reads:∀i,i<is.length->∀d∈qmf (itI is i),∀j,j<is.length->(itI is j).dst=some d->i≠j/\(j∈anc.getD i []\/(i∈anc.getD j []/\isA is j=false))
 hard:∀i,i<is.length->∀j,j<is.length->i<j->effOf (itI is i).o=.hard->effOf (itI is j).o=.hard->i∈anc.getD j []
 late:∀i,i<is.length->effOf (itI is i).o=.alloc\/effOf (itI is i).o=.mk->(itI is i).g=none/\(∃d,(itI is i).dst=some d)/\isA is i=true
 soft:∀i,i<is.length->isA is i=true->effOf (itI is i).o ≠ .hard
 ahead:∀i,i<is.length->isA is i=true->effOf (itI is i).o ≠ .alloc->∀j∈anc.getD i [],isA is j=true
 ldt:∀i,i<is.length->ldT (itI is i).o=true
 mks:∀i,i<is.length->effOf (itI is i).o=.mk->∀j,j<is.length->effOf (itI is j).o=.hard->i∈anc.getD j []
variable{ops is anc}
theorem zvb(h:zka ops=true)(m:Go.Region.Mode):∃r:Nat->Nat,∀i,i<ops.size->∀e∈(ops.getD i default).after.toList,e.on<ops.size/\(Go.Region.binds m e=true->r e.on<r i):=by
 unfold zka at h;simp only[Bool.or_eq_true,jE,jP,List.mem_range,jW,Bool.not_eq_true']at h;rcases h with h | ⟨h1,h2⟩
 .exact⟨id,fun i hi e he=>⟨Nat.lt_trans (h i hi e he) hi,fun _=>h i hi e he⟩⟩
 .refine⟨fun i=>(Go.Region.linearise m ops 0).idxOf i,fun i hi e he=>⟨h1 i hi e he,fun hb=>?_⟩⟩;have:=h2 m (by cases m<;>simp) i hi e he;rcases this with h | h
  .rw[hb]at h;cases h
  .exact h
theorem znb(h:zjn ops is anc=true):Facts ops is anc:=by
 unfold zjn at h;rw[jE]at h;obtain⟨hrk,h⟩:=h;simp only[jP,List.mem_range,jE,jW,Bool.or_eq_true,List.any_eq_true,beq_iff_eq,Bool.not_eq_true',List.contains_iff_mem,beq_eq_false_iff_ne,bne_iff_ne,Bool.and_eq_false_imp]at h;refine⟨zvb hrk,fun i hi=>?_,fun i hi j hj=>?_,fun i hi j hj=>?_,fun i hi j hj hij d hd=>?_,fun i hi d hd j hj hjd=>?_,fun i hi j hj hij h1 h2=>?_,fun i hi ha=>?_,fun i hi ha=>?_,fun i hi ha hna j hj=>?_,fun i hi=>(h i hi).2,fun i hi hm j hj hjh=>?_⟩
 .exact(h i hi).1.1.1.1.1.1.1.1
 .exact((h i hi).1.1.1.1.1.1.1.2 j hj).1
 .exact((h i hi).1.1.1.1.1.1.1.2 j hj).2
 .rcases (h i hi).1.1.1.1.1.1.2 j hj with(h1 | h1) | h1
  .exact absurd h1 hij
  .intro h2;exact h1 (by rw[show(is.getD i default).dst=some d from hd,show(is.getD j default).dst=some d from h2])
  .rw[show(is.getD i default).dst=some d from hd]at h1;cases h1
 .rcases (h i hi).1.1.1.1.1.2 d hd j hj with h1 | ⟨h1,h2⟩
  .exact absurd hjd h1
  .refine⟨h1,?_⟩;rcases h2 with h2 | ⟨h2,h3⟩
   .exact .inl h2
   .exact .inr ⟨h2,h3⟩
 .rcases (h i hi).1.1.1.1.2 j hj with h3 | h3
  .exact absurd h2 (h3 ⟨hij,h1⟩)
  .exact h3
 .rcases (h i hi).1.1.1.2 with h1 | ⟨⟨h1,h2⟩,h3⟩
  .exfalso;rcases ha with ha | ha
   .rw[show effOf (is.getD i default).o=.alloc from ha]at h1;simp at h1
   .rw[show effOf (is.getD i default).o=.mk from ha]at h1;simp at h1
  .refine⟨h1,?_,h3⟩;cases hd:(is.getD i default).dst with
   | none=>rw[hd]at h2;exact absurd rfl h2
   | some d=>exact⟨d,hd⟩
 .rcases (h i hi).1.1.2.1 with h1 | h1
  .rw[ha]at h1;cases h1
  .exact h1
 .rcases (h i hi).1.1.2.2 with(h1 | h1) | h1
  .rw[ha]at h1;cases h1
  .exact absurd h1 hna
  .exact h1 j hj
 .rcases (h i hi).1.2 with h1 | h1
  .exact absurd hm h1
  .rcases h1 j hj with h2 | h2
   .exact absurd hjh h2
   .exact h2
def qbt(is:List I):Nat:=((List.range is.length).filter (isA is)).length
def qbw(is:List I)(i:Nat):Nat:=(qbi is).idxOf i
theorem qos:qbi is=(List.range is.length).filter (isA is)++(List.range is.length).filter (fun i=>!isA is i):=rfl
theorem qxq{i:Nat}:i∈qbi is<->i<is.length:=by rw[qos];simp only[jQ,List.mem_filter,List.mem_range,Bool.not_eq_true'];cases isA is i<;>simp
theorem q8n:(qbi is).Nodup:=by rw[qos,List.nodup_append];refine⟨List.Pairwise.filter _ List.nodup_range,List.Pairwise.filter _ List.nodup_range,fun a ha b hb h=>?_⟩;simp only[List.mem_filter,Bool.not_eq_true']at ha hb;rw[h,hb.2]at ha;cases ha.2
theorem qdk:(qbi is).length=is.length:=by rw[qos,jF,<-List.countP_eq_length_filter,<-List.countP_eq_length_filter];have:=List.length_eq_countP_add_countP (isA is) (l:=List.range is.length);simp only[List.length_range]at this;have e:List.countP (fun i=>!isA is i) (List.range is.length)=List.countP (fun a=>decide (¬isA is a=true)) (List.range is.length):=List.countP_congr (by intro x _;simp);rw[e];exact this.symm
theorem qro{i:Nat}(h:i<is.length):qbw is i<is.length:=by unfold qbw;rw[<-qdk (is:=is)];exact List.idxOf_lt_length_of_mem (qxq.2 h)
theorem qkk{i:Nat}(h:i<is.length):(qbi is)[qbw is i]?=some i:=by have hm:=qxq.2 h;show(qbi is)[(qbi is).idxOf i]?=some i;rw[jA (List.idxOf_lt_length_of_mem hm),List.getElem_idxOf]
theorem qlk{p i:Nat}(h:(qbi is)[p]?=some i):qbw is i=p/\i<is.length:=by have hi:i<is.length:=qxq.1 (jR h);refine⟨?_,hi⟩;have h1:=qkk hi;have hp:p<(qbi is).length:=(jG.1 h).1;exact((List.getElem?_inj hp q8n).1 (h.trans h1.symm)).symm
theorem qkw{i:Nat}(hi:i<is.length)(ha:isA is i=true):qbw is i<qbt is:=by
 have hm:i∈(List.range is.length).filter (isA is):=by simp[hi,ha]
 unfold qbw;rw[qos,List.idxOf_append,if_pos hm];exact List.idxOf_lt_length_of_mem hm
theorem qiu{i:Nat}(ha:isA is i=false):qbw is i=((List.range is.length).filter (fun i=>!isA is i)).idxOf i+qbt is:=by
 have hm:i∉(List.range is.length).filter (isA is):=by simp[ha]
 unfold qbw;rw[qos,List.idxOf_append,if_neg hm];rfl
theorem qrp{i j:Nat}(hi:i<is.length)(hj:j<is.length)(ha:isA is i=false)(hb:isA is j=false)(h:i<j):qbw is i<qbw is j:=by
 rw[qiu ha,qiu hb];have hs:((List.range is.length).filter (fun i=>!isA is i)).Pairwise (· < ·):=List.Pairwise.filter _ List.pairwise_lt_range;generalize hl:(List.range is.length).filter (fun i=>!isA is i)=l at hs;have h1:i∈l:=by rw[<-hl];simp[hi,ha]
 have h2:j∈l:=by rw[<-hl];simp[hj,hb]
 have g1:=List.idxOf_lt_length_of_mem h1;have g2:=List.idxOf_lt_length_of_mem h2;rcases Nat.lt_trichotomy (l.idxOf i) (l.idxOf j)with h3 | h3 | h3
 .omega
 .have e1:l[l.idxOf i]=i:=List.getElem_idxOf g1;have e2:l[l.idxOf j]=j:=List.getElem_idxOf g2;have:i=j:=by rw[<-e1,<-e2];congr 1
  omega
 .have:=List.pairwise_iff_getElem.1 hs _ _ g2 g1 h3;rw[List.getElem_idxOf g1,List.getElem_idxOf g2]at this;omega
theorem zjw{i j:Nat}(hi:i<is.length)(hj:j<is.length)(ha:isA is i=true)(hb:isA is j=true)(h:i<j):qbw is i<qbw is j:=by
 have hmi:i∈(List.range is.length).filter (isA is):=by simp[hi,ha]
 have hmj:j∈(List.range is.length).filter (isA is):=by simp[hj,hb]
 unfold qbw;rw[qos,List.idxOf_append,List.idxOf_append,if_pos hmi,if_pos hmj];have hs:((List.range is.length).filter (isA is)).Pairwise (· < ·):=List.Pairwise.filter _ List.pairwise_lt_range;generalize hl:(List.range is.length).filter (isA is)=l at hs;rw[hl]at hmi hmj;have g1:=List.idxOf_lt_length_of_mem hmi;have g2:=List.idxOf_lt_length_of_mem hmj;rcases Nat.lt_trichotomy (l.idxOf i) (l.idxOf j)with h3 | h3 | h3
 .exact h3
 .have e1:l[l.idxOf i]=i:=List.getElem_idxOf g1;have e2:l[l.idxOf j]=j:=List.getElem_idxOf g2;have:i=j:=by rw[<-e1,<-e2];congr 1
  omega
 .have:=List.pairwise_iff_getElem.1 hs _ _ g2 g1 h3;rw[List.getElem_idxOf g1,List.getElem_idxOf g2]at this;omega
theorem qqs:qbt is<=is.length:=by unfold qbt;have:=List.length_filter_le (isA is) (List.range is.length);simpa using this
theorem q0m{i j:Nat}(hi:i<is.length)(hj:j<is.length)(hb:isA is j=false)(h:i<j):qbw is i<qbw is j:=by
 cases ha:isA is i with
 | false=>exact qrp hi hj ha hb h
 | true=>have:=qkw hi ha;rw[qiu hb];omega
end
theorem q8p{ops:Array Oper}{is:List I}{anc:List (List Nat)}(hF:Facts ops is anc){i j:Nat}(hi:i<is.length)(hj:j∈anc.getD i [])(hna:effOf (itI is i).o ≠ .alloc):qbw is j<qbw is i:=by
 have hlt:=hF.anc_lt i hi j hj;cases ha:isA is i with
 | false=>exact q0m (by omega) hi ha hlt
 | true=>exact zjw (by omega) hi (hF.ahead i hi ha hna j hj) ha hlt
theorem qit{ops:Array Oper}{is:List I}{anc:List (List Nat)}(hF:Facts ops is anc){i:Nat}(hi:i<is.length)(h:effOf (itI is i).o=.hard):isA is i=false:=by
 cases ha:isA is i with
 | false=>rfl
 | true=>exact absurd h (hF.soft i hi ha)
theorem zhg{P:Prg}{sf:Q->Option R}:∀{is:List I} {st:St} {tr:List St},exT P sf is st=some tr->tr.length=is.length+1/\tr[0]?=some st/\∀p i,is[p]?=some i->∃a b,tr[p]?=some a/\tr[p+1]?=some b/\exI P sf i a=some b
 | [],st,tr,h=>by simp only[exT,jC]at h;subst h;exact⟨rfl,rfl,fun p i h=>by simp at h⟩
 | j :: is,st,tr,h=>by
  simp only[exT]at h;cases e:exI P sf j st with
  | none=>rw[e]at h;cases h
  | some st1 =>
   rw[e]at h;simp only[jM]at h;obtain⟨tr1,h1,rfl⟩:=h;obtain⟨k1,k2,k3⟩:=zhg h1;refine⟨by simp[k1],rfl,fun p i hp=>?_⟩;cases p with
   | zero =>simp at hp;subst hp;exact⟨st,st1,rfl,by simpa using k2,e⟩
   | succ p =>obtain⟨a,b,q1,q2,q3⟩:=k3 p i (by simpa using hp);exact⟨a,b,by simpa using q1,by simpa using q2,q3⟩
theorem zna{o:O}{s:List V}{h h':H}{v:V}(he:effOf o=.none\/effOf o=.load)(hx:exO o s h=some (v,h')):h'=h:=by
 cases o
 case bslice fz n zero len parts =>
  cases fz with
  | true=>simp[effOf]at he
  | false =>
   simp only[exO,Bool.false_eq_true,if_false]at hx
   repeat' (first | (cases hx;rfl) | (cases hx;done) | split at hx)
 all_goals first
  | (rcases he with he | he<;>cases he;done)
  | (simp only[exO]at hx
     repeat' (first | (cases hx;rfl) | (cases hx;done) | split at hx))
theorem q4m{ops:List I}{tr:List St}:∀{chk:List (Nat×Nat)},qag ops tr chk=true->∀{l e:Nat} {i:I} {st a b:St} {agg:Bool} {n:Nat} {x:A},(l,e)∈chk->ops[l]?=some i->tr[l]?=some st->tr[e]?=some a->tr[e+1]?=some b ->
  qcc st.s i=some true->i.o=.load agg n x->∃u,qhc st.h agg n (x.ev st.s)=some u/\qhc a.h agg n (x.ev st.s)=some u/\qhc b.h agg n (x.ev st.s)=some u
 | [],_,l,e,i,st,a,b,agg,n,x,hm,_,_,_,_,_,_=>by cases hm
 | (l',e') :: r,h,l,e,i,st,a,b,agg,n,x,hm,h1,h2,h3,h4,h5,h6=>by
  simp only[qag,jE]at h;rcases List.mem_cons.1 hm with hm | hm
  .cases hm;have h:=h.1;simp only[h1,h2,h3,h4,h5,h6]at h;split at h
   .rename_i u v w e1 e2 e3;simp only[jE]at h;have q1:=q9l h.1;have q2:=q9l h.2;subst q1 q2;exact⟨_,e1,e2,e3⟩
   .cases h
  .exact q4m h.2 hm h1 h2 h3 h4 h5 h6
theorem zmz{o:O}{s:List V}{h h1:H}{v:V}(he:effOf o=.none)(hx:exO o s h=some (v,h1))(h':H):exO o s h'=some (v,h'):=by
 cases o
 case lit n zero len parts =>
  simp only[exO]at hx ⊢;split at hx
  .split at hx
   .rename_i e hp;cases hx;rw[if_pos hp]
   .cases hx
  .cases hx
 case bslice fz n zero len parts =>
  cases fz with
  | true=>simp[effOf]at he
  | false =>
   simp only[exO,Bool.false_eq_true,if_false]at hx ⊢;split at hx
   .rename_i h0;rw[if_pos h0];split at hx
    .rename_i h2;cases hx;rw[if_pos h2]
    .cases hx
   .rename_i h0;rw[if_neg h0];split at hx
    .split at hx
     .rename_i h2;cases hx;rw[if_pos h2]
     .cases hx
    .split at hx
     .rename_i h2;rw[if_pos h2];split at hx
      .cases hx;rfl
      .cases hx
     .cases hx
 case slcL n x lo hi mx =>
  have hb:(lo.isSome&&hi.isSome)=false:=by
   cases hq:(lo.isSome&&hi.isSome)with
   | false=>rfl
   | true=>simp[effOf,hq]at he
  simp only[exO,hb,Bool.false_eq_true,false_and,if_false]at hx ⊢
  repeat' (first | (cases hx;rfl) | (cases hx;done) | split at hx)
  all_goals (cases hx;simp_all)
 case mx mn x y =>
  simp only[exO]at hx ⊢;cases e1:x.ev s<;>rw[e1]at hx<;>(try simp only at hx)<;>try (cases hx;done)
  cases e2:y.ev s<;>rw[e2]at hx<;>(try simp only at hx)<;>try (cases hx;done)
  simp only;split at hx
  .rename_i hk;cases hx;rw[if_pos hk]
  .cases hx
 all_goals first
  | (cases he;done)
  | (simp only[exO]at hx ⊢
     repeat' (first | (cases hx;rfl) | (cases hx;done) | split at hx)
     all_goals (cases hx;simp_all))
theorem qld{P:Prg}{sf:Q->Option R}{i:I}{s:List V}{h h':H}{v:V}(he:effOf i.o=.none\/effOf i.o=.load)(hx:q3m P sf i s h=some (v,h')):h'=h:=by
 unfold q3m at hx;split at hx
 .cases ho:i.o<;>rw[ho]at hx he<;>first
   | (exact zna he hx)
   | (rcases he with he | he<;>cases he)
 .cases hx;rfl
 .cases hx
theorem zkr{P:Prg}{sf:Q->Option R}{i:I}{s:List V}{h h1:H}{v:V}(he:effOf i.o=.none)(hx:q3m P sf i s h=some (v,h1))(h':H):q3m P sf i s h'=some (v,h'):=by
 unfold q3m at hx ⊢;split at hx
 .cases ho:i.o<;>rw[ho]at hx he<;>first
   | (exact zmz he hx h')
   | (cases he)
 .cases hx;rfl
 .cases hx
structure Trace(P:Prg)(sf:Q->Option R)(is:List I)(s0:List V)(h0:H)(T:Nat->St):Prop where
 zero:T 0=⟨s0,h0⟩
 step:∀p i,(qbi is)[p]?=some i->exI P sf (itI is i) (T p)=some (T (p+1))
section
variable{P:Prg}{sf:Q->Option R}{ops:Array Oper}{is:List I}{anc:List (List Nat)}{s0:List V}{h0:H}{T:Nat->St}(hT:Trace P sf is s0 h0 T)(hF:Facts ops is anc)
include hT
theorem qlz{p i:Nat}(h:(qbi is)[p]?=some i):∃v,q3m P sf (itI is i) (T p).s (T p).h=some (v,(T (p+1)).h)/\(T (p+1)).s=q3x (T p).s (itI is i).dst v:=by
 have h1:=hT.step p i h;rw[show T p=⟨(T p).s,(T p).h⟩from rfl,zhb]at h1;simp only[jM]at h1;obtain⟨⟨v,h'⟩,h2,h3⟩:=h1;refine⟨v,?_,?_⟩
 .rw[h2,<-h3]
 .rw[<-h3]
theorem qsh:∀{p:Nat},p<=is.length->(T p).s.length=s0.length
 | 0,_=>by rw[hT.zero]
 | p+1,hp=>by
  have hlt:p<(qbi is).length:=by rw[qdk];omega
  obtain⟨v,_,h2⟩:=qlz hT (jA hlt);rw[h2,qxe,qsh (by omega)]
theorem qpd{d:Nat}:∀{p:Nat},p<=is.length->(∀j,j<is.length->(itI is j).dst=some d->p<=qbw is j)->qah (T p).s d=qah s0 d
 | 0,_,_=>by rw[hT.zero]
 | p+1,hp,h=>by
  have hlt:p<(qbi is).length:=by rw[qdk];omega
  have hg:=jA hlt;obtain⟨v,_,h2⟩:=qlz hT hg;obtain⟨g1,g2⟩:=qlk hg;rw[h2,<-qpd (d:=d) (p:=p) (by omega) (fun j hj hd=>by have:=h j hj hd;omega)];cases hd:(itI is (qbi is)[p]).dst with
  | none=>rfl
  | some e =>refine qlj fun he=>?_;subst he;have:=h _ g2 hd;omega
include hF
theorem qyr{d j:Nat}(hj:j<is.length)(hd:(itI is j).dst=some d):∀{k p:Nat},p+k=is.length->qbw is j<p->qah (T p).s d=qah (T is.length).s d
 | 0,p,hp,_=>by rw[show p=is.length by omega]
 | k+1,p,hp,h=>by
  rw[<-qyr hj hd (k:=k) (p:=p+1) (by omega) (by omega)];have hlt:p<(qbi is).length:=by rw[qdk];omega
  have hg:=jA hlt;obtain⟨v,_,h2⟩:=qlz hT hg;obtain⟨g1,g2⟩:=qlk hg;rw[h2];cases he:(itI is (qbi is)[p]).dst with
  | none=>rfl
  | some e =>
   refine(qlj fun hde=>?_).symm;subst hde;have hne:j≠(qbi is)[p]:=fun h3=>by rw[<-h3]at g1;omega
   exact hF.dst j hj _ g2 hne d hd he
end
def slD(is:List I)(s0:List V)(T:Nat->St)(D:List Nat):List V:=(List.range s0.length).map fun d=>if D.any (fun j=>(itI is j).dst==some d)then qah (T is.length).s d else qah s0 d
theorem qts{P:Prg}{sf:Q->Option R}{is:List I}{s0:List V}{h0:H}{T:Nat->St}(hT:Trace P sf is s0 h0 T)(D:List Nat)(d:Nat):qah (slD is s0 T D) d=if D.any (fun j=>(itI is j).dst==some d)then qah (T is.length).s d else qah s0 d:=by
 by_cases hd:d<s0.length
 .exact zdf hd
 .rw[qjs (s:=slD is s0 T D) (by simp[slD];omega),qjs (s:=(T is.length).s) (by rw[qsh hT (jD _)];omega),qjs (s:=s0) (by omega)];simp
section
variable{P:Prg}{sf:Q->Option R}{ops:Array Oper}{is:List I}{anc:List (List Nat)}{s0:List V}{h0:H}{T:Nat->St}(hT:Trace P sf is s0 h0 T)(hF:Facts ops is anc)
include hT hF
theorem qxw{D:List Nat}(hD:∀j∈D,j<is.length)(hcl:∀j∈D,∀k∈anc.getD j [],k∈D){i:Nat}(hi:i<is.length)(hiD:i∉D)(hpre:∀j∈anc.getD i [],j∈D):∀d∈qmf (itI is i),qah (slD is s0 T D) d=qah (T (qbw is i)).s d:=by
 intro d hd;rw[qts hT];have hna:effOf (itI is i).o ≠ .alloc:=by
  intro he;have hg:=(hF.late i hi (.inl he)).1;have:qmf (itI is i)=[]:=by unfold qmf;rw[hg];cases ho:(itI is i).o<;>rw[ho]at he<;>first | rfl | (cases he;done) | (simp only[effOf]at he;split at he<;>cases he)
  rw[this]at hd;cases hd
 by_cases hex:∃j,j<is.length/\(itI is j).dst=some d
 .obtain⟨j,hj,hjd⟩:=hex;obtain⟨hij,h⟩:=hF.reads i hi d hd j hj hjd;rcases h with h | ⟨h,hja⟩
  .have hjD:=hpre j h;rw[if_pos (List.any_eq_true.2 ⟨j,hjD,by simp[hjd]⟩)];have hlt:=q8p hF hi h hna;have hp:=qro (is:=is) hi;exact(qyr hT hF hj hjd (k:=is.length-qbw is i) (by omega) hlt).symm
  .have hjD:j∉D:=fun hjD=>hiD (hcl j hjD i h);rw[if_neg ?_]
   .have hlt:=q0m hi hj hja (hF.anc_lt j hj i h);refine(qpd hT (Nat.le_of_lt (qro hi)) fun k hk hkd=>?_).symm;by_cases hkj:k=j
    .subst hkj;omega
    .exact absurd hjd (hF.dst k hk j hj hkj d hkd)
   .intro hany;obtain⟨k,hkD,hkd⟩:=List.any_eq_true.1 hany;have hkd':(itI is k).dst=some d:=by simpa using hkd
    by_cases hkj:k=j
    .subst hkj;exact hjD hkD
    .exact hF.dst k (hD k hkD) j hj hkj d hkd' hjd
 .rw[if_neg ?_]
  .exact(qpd hT (Nat.le_of_lt (qro hi)) fun k hk hkd=>absurd ⟨k,hk,hkd⟩ hex).symm
  .intro hany;obtain⟨k,hkD,hkd⟩:=List.any_eq_true.1 hany;exact hex ⟨k,hD k hkD,by simpa using hkd⟩
theorem q3f{D:List Nat}{i:Nat}(hi:i<is.length){v:V}(hv:(T (qbw is i+1)).s=q3x (T (qbw is i)).s (itI is i).dst v):slD is s0 T (i :: D)=q3x (slD is s0 T D) (itI is i).dst v:=by
 refine qvk (by rw[qxe];simp[slD]) fun e he=>?_;have hl:e<s0.length:=by simpa[slD]using he
 rw[qts hT];cases hd:(itI is i).dst with
 | none =>simp only[q3x];rw[qts hT];simp[hd]
 | some d =>
  simp only[q3x];by_cases hed:e=d
  .subst hed;rw[qpx (by simpa[slD]using hl),if_pos (by simp[hd])];have hp:=qro (is:=is) hi;rw[<-qyr hT hF hi hd (k:=is.length-(qbw is i+1)) (p:=qbw is i+1) (by omega) (by omega),hv,hd];exact qpx (by rw[qsh hT (by omega)];exact hl)
  .rw[qlj hed,qts hT];have:((itI is i).dst==some e)=false:=by rw[hd];simp;exact fun h=>hed h.symm
   simp only[List.any_cons,this,Bool.false_or]
end
variable{md:Nat}
theorem zfw{u:Value}{v:V}(h:cV1 u=some v):v.low 0=true:=by
 unfold cV1 at h;split at h<;>try (cases h;done)
 all_goals first
  | (cases h;rfl)
  | (split at h
     .cases h;rfl
     .cases h)
theorem q9o:∀{us:List Value} {l:List V},us.mapM cV1=some l->qeq 0 l=true
 | [],l,h=>by simp at h;subst h;rfl
 | u :: us,l,h=>by
  simp only[List.mapM_cons,bind,Option.bind]at h;cases h1:cV1 u with
  | none=>rw[h1]at h;cases h
  | some v =>
   rw[h1]at h;simp only at h;cases h2:us.mapM cV1 with
   | none=>rw[h2]at h;cases h
   | some vs =>rw[h2]at h;cases h;simp only[qeq,jE];exact⟨zfw h1,q9o h2⟩
theorem q3t{P:Program}{t:TypeId}{zs:List V}(h:zeroCells P t=some zs):qeq 0 zs=true:=by
 unfold zeroCells qsi at h;simp only[jM,jB]at h;obtain⟨v,⟨u,_,h1⟩,rfl⟩:=h;unfold cV at h1;split at h1
 .simp only[jM]at h1;obtain⟨l,h2,rfl⟩:=h1;exact q9o h2
 .have h2:=zfw h1;have h3:v.cells=[v]:=by
   unfold cV1 at h1;split at h1<;>try (cases h1;done)
   all_goals first
    | (cases h1;rfl)
    | (split at h1
       .cases h1;rfl
       .cases h1)
  rw[h3];simp only[qeq,h2,Bool.and_true]
theorem qvz:∀{vs:List V} {h:H},qeq h.length vs=true->qeq (qcb h vs).2.length (qcb h vs).1=true
 | [],h,_=>rfl
 | v :: vs,h,hl=>by
  simp only[qeq,jE]at hl;by_cases hv:v=.nils
  .subst hv;have h1:=qvz (vs:=vs) (h:=h++[⟨0,.arr 0 []⟩]) (qcw (by simp) _ hl.2);obtain⟨t,ht⟩:=qhp vs (h++[⟨0,.arr 0 []⟩]);simp only[qcb,qeq,jE];refine⟨?_,h1⟩;simp only[V.low,jW,ht];simp
  .have hb:qcb h (v :: vs)=(v :: (qcb h vs).1,(qcb h vs).2):=by cases v<;>first | rfl | exact absurd rfl hv
   have h1:=qvz (vs:=vs) (h:=h) hl.2;obtain⟨t,ht⟩:=qhp vs h;rw[hb];simp only[qeq,jE];exact⟨qer (by rw[ht];simp) _ hl.1,h1⟩
structure Bx(P:Program)(E:Env)(o:Oper)(id:Nat)(cells:List V)(us:List Value)(ty:TypeId):Prop where
 obj:E.h[id]?=some ⟨0,.box cells⟩
 unb:E.b id=none
 low:qeq id cells=true
 rel:qaj E cells us
 run:∀(a:Act) (w:World),(execOp a.eval o).run P w=.ok (.value (.pointer (some ⟨w.heap.size,0,none⟩))) (w.alloc (.cells us.toArray ty))
theorem Bx.ext{P:Program}{E E':Env}(hE:Ok P E)(x:Ext E E'){o:Oper}{id:Nat}{cells:List V}{us:List Value}{ty:TypeId}(h:Bx P E o id cells us ty):Bx P E' o id cells us ty:=by obtain⟨h1,h2⟩:=x.free id 0 cells h.obj h.unb h.low;exact⟨h1,h2,h.low,qba hE x.toExt0 _ _ h.rel,h.run⟩
theorem zck{P:Program}{E:Env}(hE:Ok P E){o:Oper}{zs:List V}(hc:cOp md P o=some (.alloc zs)):∃E' us ty,Ok P E'/\Ext E E'/\E'.w=E.w/\E'.h=(qir E.h zs).2/\(qir E.h zs).1=.bptr (qcb E.h zs).2.length 0/\Bx P E' o (qcb E.h zs).2.length (qcb E.h zs).1 us ty:=by
 obtain⟨e,hop,hz⟩:=zfj hc;obtain⟨i,z,hi,hz0,hzr⟩:=qgc (E:=E) hz;obtain⟨E1,a1,a2,a3,a4,a5,a6,_⟩:=qob hE hzr;obtain⟨k1,k2⟩:=qhe a1 (Grow.refl E1.w) ⟨0,.box (qcb E.h zs).1⟩ none (fun b C h=>by cases h) (fun _=>by
  unfold qem;exact .inl (by simp))
 refine⟨_,z.cells.toList,e,k1,a2.trans k2,a3,by simp[qir,a5],rfl,?_⟩;refine⟨by simp[a5],by simp[a5],qvz (qcw (Nat.zero_le _) _ (q3t hz)),qba a1 k2.toExt0 _ _ a6,fun a w=>?_⟩;simp[execOp,hop,Go.Instr.alloc,Go.zeroValue,qlw hi,hz0,Go.newVar,Go.newRow]
theorem qoc:∀(vs:List V) (h h':H),h.length=h'.length->(qcb h vs).1=(qcb h' vs).1/\∃t,(qcb h vs).2=h++t/\(qcb h' vs).2=h'++t
 | [],h,h',_=>⟨rfl,[],by simp[qcb],by simp[qcb]⟩
 | v :: vs,h,h',e=>by
  by_cases hv:v=.nils
  .subst hv;obtain⟨h1,t,h2,h3⟩:=qoc vs (h++[⟨0,.arr 0 []⟩]) (h'++[⟨0,.arr 0 []⟩]) (by simp[e]);simp only[qcb];exact⟨by rw[h1,e],⟨0,.arr 0 []⟩ :: t,by rw[h2];simp,by rw[h3];simp⟩
  .obtain⟨h1,t,h2,h3⟩:=qoc vs h h' e;have b1:∀h,qcb h (v :: vs)=(v :: (qcb h vs).1,(qcb h vs).2):=fun h=>by cases v<;>first | rfl | exact absurd rfl hv
   rw[b1,b1];exact⟨by rw[h1],t,h2,h3⟩
theorem q0d(zs:List V)(h h':H)(e:h.length=h'.length):(qir h zs).1=(qir h' zs).1/\∃t,(qir h zs).2=h++t/\(qir h' zs).2=h'++t:=by obtain⟨h1,t,h2,h3⟩:=qoc zs h h' e;unfold qir;exact⟨by simp only[h2,h3];simp[e],t++[⟨0,.box (qcb h zs).1⟩],by simp[h2],by simp[h3,h1]⟩
def qiq(is:List I)(T:Nat->St)(D:List Nat)(id:Nat):Bool:=(List.range is.length).any fun i=>effOf (itI is i).o == .mk && !D.contains i&&(T (qbw is i)).h.length==id
def hol(is:List I)(T:Nat->St)(D:List Nat)(h:H):H:=h.mapIdx fun id o=>if qiq is T D id=true then⟨0,.arr 0 []⟩else o
theorem qfw{is:List I}{T:Nat->St}{D:List Nat}{id:Nat}:qiq is T D id=true<->∃i,i<is.length/\effOf (itI is i).o=.mk/\i∉D/\(T (qbw is i)).h.length=id:=by unfold qiq;simp only[List.any_eq_true,List.mem_range,jE,beq_iff_eq,Bool.not_eq_true',List.contains_eq_mem,decide_eq_false_iff_not];exact⟨fun⟨i,h1,⟨h2,h3⟩,h4⟩=>⟨i,h1,h2,h3,h4⟩,fun⟨i,h1,h2,h3,h4⟩=>⟨i,h1,⟨h2,h3⟩,h4⟩⟩
@[simp] theorem q2k(is:List I)(T:Nat->St)(D:List Nat)(h:H):(hol is T D h).length=h.length:=by simp[hol]
theorem qip(is:List I)(T:Nat->St)(D:List Nat)(h:H)(id:Nat):(hol is T D h)[id]?=(h[id]?).map fun o=>if qiq is T D id=true then⟨0,.arr 0 []⟩else o:=by unfold hol;rw[List.getElem?_mapIdx]
theorem zpz{is:List I}{T:Nat->St}{D:List Nat}{h:H}(hn:∀id,id<h.length->qiq is T D id=false):hol is T D h=h:=by
 apply List.ext_getElem?;intro id;rw[qip];by_cases hid:id<h.length
 .rw[jA hid];simp[hn id hid]
 .rw[jY (by omega)];rfl
theorem zta{is:List I}{T:Nat->St}{D:List Nat}{h t:H}(hn:∀id,h.length<=id->id<h.length+t.length->qiq is T D id=false):hol is T D (h++t)=hol is T D h++t:=by
 apply List.ext_getElem?;intro id;rw[qip];by_cases hid:id<h.length
 .rw[jI hid,jI (by simpa using hid),qip]
 .rw[jJ (by omega),jJ (by simp;omega),q2k];by_cases hid2:id<h.length+t.length
  .simp[hn id (by omega) hid2]
  .rw[jY (by omega)];rfl
theorem ztb{is:List I}{T:Nat->St}{D:List Nat}{h:H}{o:Ob}(hn:qiq is T D h.length=true):hol is T D (h++[o])=hol is T D h++[⟨0,.arr 0 []⟩]:=by
 apply List.ext_getElem?;intro id;rw[qip];by_cases hid:id<h.length
 .rw[jI hid,jI (by simpa using hid),qip]
 .rw[jJ (by omega),jJ (by simp;omega),q2k];by_cases hid2:id=h.length
  .subst hid2;simp[hn]
  .rw[jY (by simp;omega),jY (by simp;omega)];rfl
section
variable{P:Program}{pg:Prg}{sf:Q->Option R}{ops:Array Oper}{anc:List (List Nat)}{s0:List V}{T:Nat->St}{E0:Env}(hE0:Ok P E0)(hT:Trace pg sf (ops.toList.map (cI md P ops)) s0 E0.h T)(hF:Facts ops (ops.toList.map (cI md P ops)) anc)
include hE0 hT hF
omit hE0 hT hF in
theorem qxp{p i:Nat}(hp:p<qbt (ops.toList.map (cI md P ops)))(h:(qbi (ops.toList.map (cI md P ops)))[p]?=some i):isA (ops.toList.map (cI md P ops)) i=true:=by
 obtain⟨h1,h2⟩:=qlk h;cases ha:isA (ops.toList.map (cI md P ops)) i with
 | true=>rfl
 | false=>rw[qiu ha]at h1;omega
omit hE0 hT hF in
theorem z3b{i:Nat}(hi:i<ops.size):itI (ops.toList.map (cI md P ops)) i=cI md P ops (ops.getD i default):=by simp[itI,Array.getD,hi]
omit hE0 in
theorem qsx{p i:Nat}(hp:p<qbt (ops.toList.map (cI md P ops)))(h:(qbi (ops.toList.map (cI md P ops)))[p]?=some i):∃t,(T (p+1)).h=(T p).h++t/\(effOf (itI (ops.toList.map (cI md P ops)) i).o=.mk->∃n zero l,(T (p+1)).h=(T p).h++[⟨1,.arr n (List.replicate l zero)⟩]/\(T (p+1)).s=q3x (T p).s (itI (ops.toList.map (cI md P ops)) i).dst (.sl (T p).h.length 1 n 0 l)):=by
 have ha:=qxp hp h;obtain⟨g1,g2⟩:=qlk h;obtain⟨v,hv1,hv2⟩:=qlz hT h;cases he:effOf (itI (ops.toList.map (cI md P ops)) i).o with
 | none=>exact⟨[],by rw[qld (.inl he) hv1];simp,fun h=>by cases h⟩
 | load=>exact⟨[],by rw[qld (.inr he) hv1];simp,fun h=>by cases h⟩
 | hard=>exact absurd he (hF.soft i g2 ha)
 | alloc =>
  have hgn:=(hF.late i g2 (.inl he)).1;have ho:∃zs,(itI (ops.toList.map (cI md P ops)) i).o=.alloc zs:=by cases hoo:(itI (ops.toList.map (cI md P ops)) i).o<;>rw[hoo]at he<;>first | (exact⟨_,rfl⟩) | (cases he;done) | (simp only[effOf]at he;split at he<;>cases he)
  obtain⟨zs,ho⟩:=ho;have hvv:(T (p+1)).h=(qir (T p).h zs).2:=by
   unfold q3m at hv1;have hw:qcc (T p).s (itI (ops.toList.map (cI md P ops)) i)=some true:=by simp[qcc,hgn]
   rw[hw]at hv1;simp only[ho,exO,jC]at hv1;rw[hv1]
  obtain⟨_,t,ht,_⟩:=q0d zs (T p).h (T p).h rfl;exact⟨t,by rw[hvv,ht],fun h=>by cases h⟩
 | mk =>
  have hgn:=(hF.late i g2 (.inr he)).1;have ho:∃n b z x y,(itI (ops.toList.map (cI md P ops)) i).o=.mkslice n b z x y:=by cases hoo:(itI (ops.toList.map (cI md P ops)) i).o<;>rw[hoo]at he<;>first | (exact⟨_,_,_,_,_,rfl⟩) | (cases he;done) | (simp only[effOf]at he;split at he<;>cases he)
  obtain⟨n,b,z,x,y,ho⟩:=ho;unfold q3m at hv1;have hw:qcc (T p).s (itI (ops.toList.map (cI md P ops)) i)=some true:=by simp[qcc,hgn]
  rw[hw]at hv1;simp only[ho,exO]at hv1;split at hv1
  .rename_i l c _ _;split at hv1
   .simp only[jC,Prod.mk.injEq]at hv1;refine⟨[⟨1,.arr n (List.replicate l z)⟩],hv1.2.symm,fun _=>⟨n,z,l,hv1.2.symm,by rw[hv2,<-hv1.1]⟩⟩
   .cases hv1
  .cases hv1
omit hE0 in
theorem q2e{p:Nat}:∀{q:Nat},p<=q->q<=qbt (ops.toList.map (cI md P ops))->∃t,(T q).h=(T p).h++t
 | 0,h,_=>⟨[],by rw[show p=0 by omega];simp⟩
 | q+1,h,hq=>by
  by_cases hpq:p=q+1
  .exact⟨[],by rw[hpq];simp⟩
  .obtain⟨t,ht⟩:=q2e (p:=p) (q:=q) (by omega) (by omega);have hlt:q<(qbi (ops.toList.map (cI md P ops))).length:=by
    have:=qqs (is:=ops.toList.map (cI md P ops));rw[qdk];omega
   obtain⟨t',ht',_⟩:=qsx hT hF (p:=q) (by omega) (jA hlt);exact⟨t++t',by rw[ht',ht,List.append_assoc]⟩
omit hE0 in
theorem qwp{p q:Nat}(h:p<=q)(hq:q<=qbt (ops.toList.map (cI md P ops))):(T p).h.length<=(T q).h.length:=by obtain⟨t,ht⟩:=q2e hT hF h hq;rw[ht,jF];omega
omit hE0 in
theorem zul{i:Nat}(hi:i<(ops.toList.map (cI md P ops)).length)(he:effOf (itI (ops.toList.map (cI md P ops)) i).o=.mk):qbw (ops.toList.map (cI md P ops)) i<qbt (ops.toList.map (cI md P ops))/\∃n zero l,(T (qbw (ops.toList.map (cI md P ops)) i+1)).h=(T (qbw (ops.toList.map (cI md P ops)) i)).h++[⟨1,.arr n (List.replicate l zero)⟩]/\(T (qbw (ops.toList.map (cI md P ops)) i+1)).s=q3x (T (qbw (ops.toList.map (cI md P ops)) i)).s (itI (ops.toList.map (cI md P ops)) i).dst (.sl (T (qbw (ops.toList.map (cI md P ops)) i)).h.length 1 n 0 l):=by have hp:=qkw hi (hF.late i hi (.inr he)).2.2;obtain⟨t,_,hm⟩:=qsx hT hF hp (qkk hi);exact⟨hp,hm he⟩
omit hE0 in
theorem q8e{D:List Nat}{p i id:Nat}(hp:p<qbt (ops.toList.map (cI md P ops)))(h:(qbi (ops.toList.map (cI md P ops)))[p]?=some i)(h1:(T p).h.length<=id)(h2:id<(T (p+1)).h.length):qiq (ops.toList.map (cI md P ops)) T D id=true<->effOf (itI (ops.toList.map (cI md P ops)) i).o=.mk/\i∉D/\(T p).h.length=id:=by
 obtain⟨g1,g2⟩:=qlk h;rw[qfw];constructor
 .rintro⟨j,hj,he,hjD,hl⟩;obtain⟨hpj,n,z,l,hm,_⟩:=zul hT hF hj he;have hlen:(T (qbw (ops.toList.map (cI md P ops)) j+1)).h.length=(T (qbw (ops.toList.map (cI md P ops)) j)).h.length+1:=by rw[hm];simp
  rcases Nat.lt_trichotomy (qbw (ops.toList.map (cI md P ops)) j) p with h3 | h3 | h3
  .have:=qwp hT hF (p:=qbw (ops.toList.map (cI md P ops)) j+1) (q:=p) (by omega) (by omega);omega
  .have h4:=qkk hj;rw[h3,h]at h4;cases h4;rw[h3]at hl;exact⟨he,hjD,hl⟩
  .have:=qwp hT hF (p:=p+1) (q:=qbw (ops.toList.map (cI md P ops)) j) (by omega) (by omega);omega
 .rintro⟨he,hiD,hl⟩;exact⟨i,g2,he,hiD,by rw[g1];exact hl⟩
omit hE0 in
theorem zid{D:List Nat}{id:Nat}(h:id<(T 0).h.length):qiq (ops.toList.map (cI md P ops)) T D id=false:=by
 cases hb:qiq (ops.toList.map (cI md P ops)) T D id with
 | false=>rfl
 | true =>obtain⟨j,hj,he,_,hl⟩:=qfw.1 hb;obtain⟨hpj,_⟩:=zul hT hF hj he;have:=qwp hT hF (p:=0) (q:=qbw (ops.toList.map (cI md P ops)) j) (by omega) (by omega);omega
theorem zqo:∀p,p<=qbt (ops.toList.map (cI md P ops))->∃Es,Ok P Es/\Ext E0 Es/\Es.w=E0.w/\Es.h=hol (ops.toList.map (cI md P ops)) T [] (T p).h /\
  ∀q i,q<p->(qbi (ops.toList.map (cI md P ops)))[q]?=some i->effOf (itI (ops.toList.map (cI md P ops)) i).o=.alloc->∃id cells us ty,E0.h.length<=id/\(T q).h.length<=id/\id<(T (q+1)).h.length/\(T (q+1)).s=q3x (T q).s (itI (ops.toList.map (cI md P ops)) i).dst (.bptr id 0)/\Bx P Es (ops.getD i default) id cells us ty
 | 0,_=>⟨E0,hE0,Ext.refl E0,rfl,by rw[zpz fun id hid=>zid hT hF hid,hT.zero],fun q i hq=>by omega⟩
 | p+1,hp=>by
  obtain⟨Es,k1,k2,k3,k4,k5⟩:=zqo p (by omega);have hlt:p<(qbi (ops.toList.map (cI md P ops))).length:=by have:=qqs (is:=ops.toList.map (cI md P ops));rw[qdk];omega
  have hg:=jA hlt;generalize (qbi (ops.toList.map (cI md P ops)))[p]=i at hg;have ha:=qxp (by omega) hg;obtain⟨g1,g2⟩:=qlk hg;have hi:i<ops.size:=by simpa using g2
  obtain⟨t0,ht0,hmk⟩:=qsx hT hF (p:=p) (by omega) hg;have hrange:=fun id=>q8e (D:=[]) hT hF (p:=p) (i:=i) (id:=id) (by omega) hg;have hlp:Es.h.length=(T p).h.length:=by rw[k4,q2k]
  have same:(T (p+1)).h=(T p).h->effOf (itI (ops.toList.map (cI md P ops)) i).o ≠ .alloc->∃Es,Ok P Es/\Ext E0 Es/\Es.w=E0.w/\Es.h=hol (ops.toList.map (cI md P ops)) T [] (T (p+1)).h/\∀q i,q<p+1->(qbi (ops.toList.map (cI md P ops)))[q]?=some i->effOf (itI (ops.toList.map (cI md P ops)) i).o=.alloc->∃id cells us ty,E0.h.length<=id/\(T q).h.length<=id/\id<(T (q+1)).h.length/\(T (q+1)).s=q3x (T q).s (itI (ops.toList.map (cI md P ops)) i).dst (.bptr id 0)/\Bx P Es (ops.getD i default) id cells us ty:=by
   intro hs hna;refine⟨Es,k1,k2,k3,by rw[hs];exact k4,fun q j hq hj hje=>?_⟩;by_cases hqp:q=p
   .subst hqp;rw[hg]at hj;cases hj;exact absurd hje hna
   .exact k5 q j (by omega) hj hje
  obtain⟨v,hv1,hv2⟩:=qlz hT hg;cases he:effOf (itI (ops.toList.map (cI md P ops)) i).o with
  | none=>exact same (qld (.inl he) hv1) (by rw[he];simp)
  | load=>exact same (qld (.inr he) hv1) (by rw[he];simp)
  | hard=>exact absurd he (hF.soft i g2 ha)
  | mk =>
   obtain⟨n,z,l,hm1,hm2⟩:=hmk he;obtain⟨m1,m2⟩:=qhe k1 (Grow.refl Es.w) ⟨0,.arr 0 []⟩ none (fun b C h=>by cases h) (fun _=>by
    unfold qem;exact⟨rfl,.inl ⟨by simp,rfl⟩⟩)
   refine⟨_,m1,k2.trans m2,k3,?_,fun q j hq hj hje=>?_⟩
   .rw[hm1,ztb ((hrange _ (jD _) (by rw[hm1];simp)).2 ⟨he,by simp,rfl⟩),<-k4]
   .by_cases hqp:q=p
    .subst hqp;rw[hg]at hj;cases hj;rw[he]at hje;cases hje
    .obtain⟨id,cells,us',ty',n1,n2,n3,n4,n5⟩:=k5 q j (by omega) hj hje;exact⟨id,cells,us',ty',n1,n2,n3,n4,n5.ext k1 m2⟩
  | alloc =>
   have hgn:=(hF.late i g2 (.inl he)).1;have ho:∃zs,(itI (ops.toList.map (cI md P ops)) i).o=.alloc zs:=by cases hoo:(itI (ops.toList.map (cI md P ops)) i).o<;>rw[hoo]at he<;>first | (exact⟨_,rfl⟩) | (cases he;done) | (simp only[effOf]at he;split at he<;>cases he)
   obtain⟨zs,ho⟩:=ho;have hc:cOp (zqc md ops (ops.getD i default)) P (ops.getD i default)=some (.alloc zs):=by
    rw[z3b hi]at ho;unfold cI at ho;split at ho
    .simp only at ho;cases hcc:cOp (zqc md ops (ops.getD i default)) P (ops.getD i default)with
     | none=>rw[hcc]at ho;cases ho
     | some y=>rw[hcc]at ho;simp at ho;rw[ho]
    .split at ho
     .simp only at ho;cases hcc:cOp (zqc md ops (ops.getD i default)) P (ops.getD i default)with
      | none=>rw[hcc]at ho;cases ho
      | some y=>rw[hcc]at ho;simp at ho;rw[ho]
     .cases ho
   have hvv:v=(qir (T p).h zs).1/\(T (p+1)).h=(qir (T p).h zs).2:=by
    unfold q3m at hv1;have hw:qcc (T p).s (itI (ops.toList.map (cI md P ops)) i)=some true:=by simp[qcc,hgn]
    rw[hw]at hv1;simp only[ho,exO,jC]at hv1;rw[hv1];exact⟨rfl,rfl⟩
   obtain⟨E',us,ty,m1,m2,m3,m4,m5,m6⟩:=zck k1 hc;obtain⟨q1,t1,q2,q3⟩:=q0d zs Es.h (T p).h hlp;obtain⟨_,t2,q4,q5⟩:=qoc zs Es.h (T p).h hlp;refine⟨E',m1,k2.trans m2,m3.trans k3,?_,fun q j hq hj hje=>?_⟩
   .rw[m4,hvv.2,q2,q3,zta fun id h1 h2=>?_,<-k4];cases hb:qiq (ops.toList.map (cI md P ops)) T [] id with
    | false=>rfl
    | true =>have:=(hrange id h1 (by rw[hvv.2,q3,jF];exact h2)).1 hb;rw[he]at this;cases this.1
   .by_cases hqp:q=p
    .subst hqp;rw[hg]at hj;cases hj;refine⟨_,_,us,ty,?_,?_,?_,by rw[hv2,hvv.1,<-q1,m5],m6⟩
     .rw[q4];simp;have:=k2.len;omega
     .rw[q4];simp[hlp]
     .rw[hvv.2];simp[qir,q4,q5,hlp]
    .obtain⟨id,cells,us',ty',n1,n2,n3,n4,n5⟩:=k5 q j (by omega) hj hje;exact⟨id,cells,us',ty',n1,n2,n3,n4,n5.ext k1 m2⟩
end
def qmo(E:Env)(id:Nat)(us:List Value)(ty:TypeId):Env:=⟨fun i=>if i=id then some (E.w.heap.size,us.length,0)else E.b i,E.S,E.h,E.w.alloc (.cells us.toArray ty)⟩
theorem qwa{P:Program}{E:Env}(_hE:Ok P E){o:Oper}{id:Nat}{cells:List V}{us:List Value}{ty:TypeId}(hb:Bx P E o id cells us ty):Ext0 E (qmo E id us ty):=by
 have hg:=Grow.alloc E.w (.cells us.toArray ty);refine⟨fun _ h=>h,hg.size,fun b hlt _=>hg.keep b hlt,fun b hlt hm=>?_,jD _,fun _ _=>jD _,fun i o' _ ho' _=>⟨o',ho',rfl,rfl,jD _,fun y hy=>?_,fun ht=>?_⟩,hg.os,hg.output,fun _ o' _ h=>⟨o',h,rfl⟩⟩
 .obtain⟨i,o',C,h1,h2,h3⟩:=hm;by_cases hi:i=id
  .simp only[qmo,if_pos hi,jC,Prod.mk.injEq]at h2;omega
  .exact⟨i,o',C,h1,by simpa[qmo,hi]using h2,h3⟩
 .have hi:i≠id:=fun h=>by subst h;rw[hb.unb]at hy;cases hy
  simp only[qmo,if_neg hi];exact hy
 .have hi:i≠id:=fun h=>by
   subst h;have h2:E.h[i]?=some o':=ho';rw[hb.obj]at h2;cases h2;simp[qje]at ht
  simp only[qmo,if_neg hi]
theorem zma{P:Program}{E0 E:Env}(hE:Ok P E)(x:Ext E0 E){o:Oper}{id:Nat}{cells:List V}{us:List Value}{ty:TypeId}(hb:Bx P E o id cells us ty)(hid:E0.h.length<=id):Ext E0 (qmo E id us ty):=by
 have y:=qwa hE hb;have hbl:∀i,i<E0.h.length->(qmo E id us ty).b i=E.b i:=fun i hi=>if_neg (by omega);refine⟨⟨x.S,Nat.le_trans x.size y.size,fun b hlt hm=>(y.keep b (jS hlt x.size) (fun h=>hm (x.muts b hlt h))).trans (x.keep b hlt hm),fun b hlt hm=>x.muts b hlt (y.muts b (jS hlt x.size) hm),x.len,x.gen,fun i o' hi ho' hc=>?_,y.os.trans x.os,y.output.trans x.output,x.tags⟩,x.back,fun i g cs h1 h2 h3=>?_⟩
 .obtain⟨o1,q1,q2,q3,q4,q5,q6⟩:=x.obj i o' hi ho' hc;exact⟨o1,q1,q2,q3,q4,fun z hz=>by rw[hbl i hi];exact q5 z hz,fun ht=>by rw[hbl i hi];exact q6 ht⟩
 .obtain⟨q1,q2⟩:=x.free i g cs h1 h2 h3;exact⟨q1,by rw[hbl i (qbe h1)];exact q2⟩
theorem zrt{P:Program}{E:Env}(hE:Ok P E){o:Oper}{id:Nat}{cells:List V}{us:List Value}{ty:TypeId}(hb:Bx P E o id cells us ty):Ok P (qmo E id us ty):=by
 have y:=qwa hE hb;have hg:=Grow.alloc E.w (.cells us.toArray ty);refine⟨fun i ob ho=>?_,fun i j o1 o2 b C C' h1 h2 f1 f2 b1 b2=>?_,fun b h=>jS (hE.S b h) hg.size⟩
 .by_cases hi:i=id
  .subst hi;have h2:E.h[i]?=some ob:=ho;rw[hb.obj]at h2;cases h2;unfold qem;right;have hnew:(E.w.alloc (.cells us.toArray ty)).heap[E.w.heap.size]?=some (.cells us.toArray ty (0,0)):=Go.heap_alloc_new _ _;refine⟨E.w.heap.size,(us.length,0),us.toArray,ty,by simp[qmo],fun h=>by have:=hE.S _ h;omega,hnew,?_,?_⟩
   .have:=qau hb.rel;simp[this]
   .refine qgp (us:=us) (fun j u hj=>?_) (qba hE y _ _ hb.rel);show(E.w.alloc (.cells us.toArray ty)).cell? ⟨E.w.heap.size,0+j,none⟩=some u;rw[qdv hnew];simpa using hj
  .have hr:=hE.obj i ob ho;refine q0q hE y hr (by simp[qmo,hi]) fun b C hbd=>⟨hg.keep b (hE.bound ho hbd),fun hf=>hE.notS ho hf hbd⟩
 .by_cases hi:i=id<;>by_cases hj:j=id
  .rw[hi,hj]
  .simp only[qmo,if_pos hi,if_neg hj,jC,Prod.mk.injEq]at b1 b2;have:=hE.bound h2 b2;omega
  .simp only[qmo,if_neg hi,if_pos hj,jC,Prod.mk.injEq]at b1 b2;have:=hE.bound h1 b1;omega
  .simp only[qmo,if_neg hi,if_neg hj]at b1 b2;exact hE.inj i j o1 o2 b C C' h1 h2 f1 f2 b1 b2
theorem zhc{P:Prg}{sf:Q->Option R}:∀{is:List I} {st st':St},exL P sf is st=some st'->∃tr,exT P sf is st=some tr/\tr.getLast?=some st'
 | [],st,st',h=>by simp only[exL,jC]at h;subst h;exact⟨[st],rfl,rfl⟩
 | i :: is,st,st',h=>by
  simp only[exL]at h;cases e:exI P sf i st with
  | none=>rw[e]at h;cases h
  | some st1 =>rw[e]at h;obtain⟨tr,h1,h2⟩:=zhc h;refine⟨st :: tr,by simp only[exT,e,h1,Option.map_some],?_⟩;rw[List.getLast?_cons,h2];rfl
variable{md:Nat}
theorem zhj{P:Program}{E:Env}(hE:Ok P E){s:List V}{a:Act}(hs:qaj E s a.tmps.toList){o:Oper}{n b:Nat}{z:List V}{x y:A}(hc:cOp md P o=some (.mkslice n b z x y)){h0 h1:H}{v:V}(hv:exO (.mkslice n b z x y) s h0=some (v,h1)){id:Nat}(hid:E.h[id]?=some ⟨0,.arr 0 []⟩) :
  ∃E' u l,Ok P E'/\Ext E E'/\v=.sl h0.length 1 n 0 l/\h1=h0++[⟨1,.arr n (List.replicate l z)⟩]/\E'.h=E.h.set id ⟨1,.arr n (List.replicate l z)⟩/\(execOp a.eval o).run P E.w=.ok (.value u) E'.w/\rel E' (.sl id 1 n 0 l) u:=by
 obtain⟨t,e,l,c,zs,ho,ht,hz,hn0,hzl,h1',h2,rfl,rfl,rfl⟩:=zzm hc;obtain⟨i,z,hi,hz0,hzr⟩:=qgc (E:=E) hz;have hisz:i.size=P.cellsOf e:=by simp[Program.cellsOf,hi]
 have hib:i.bytes=P.bytesOf e:=by simp[Program.bytesOf,hi]
 simp only[exO]at hv;cases hl:qqn (x.ev s)with
 | none=>rw[hl]at hv;cases hv
 | some m =>
  cases hcc:qqn (y.ev s)with
  | none=>rw[hl,hcc]at hv;cases hv
  | some k =>
   rw[hl,hcc]at hv;simp only at hv;split at hv
   .rename_i hcond;obtain⟨hmk,hkb,hpz,hk62⟩:=hcond;cases hv;obtain⟨ql,il,e1,e2,e3⟩:=qex hl;obtain⟨qc,ic,f1,f2,f3⟩:=qex hcc;have r1:=qav hs h1';have r2:=qav hs h2;rw[e1]at r1;rw[f1]at r2;unfold rel at r1 r2;have hrun:=Go.run_make (P:=P) E.w t e i z ht hi hz0 ql qc il ic e2 (by omega) (by
     have:((k*i.bytes:Nat):Int)<=281474976710656:=by rw[hib];omega
     rw[Int.natCast_mul]at this;rw[Int.mul_comm];have hk:ic=(k:Int):=by omega
     rw[hk];exact this) (by omega)
    have hrl:∀q∈List.replicate m (zs.map (qan [])),q.length=P.cellsOf e:=fun q hq=>by rw[List.eq_of_mem_replicate hq];simpa using hzl
    have hzm:=qhy (E:=E) (len:=k) (n:=P.cellsOf e) (zs:=zs.map (qan [])) (z:=z.cells) (qdl hzr) (by simpa using hzl) (by omega);have htake:qaj E (List.replicate m (zs.map (qan []))).flatten ((Go.madeCells z.cells (k*P.cellsOf e)).toList.take (m*P.cellsOf e)):=by
     have h3:=qhr (m*P.cellsOf e) hzm;rw[qmy];have:(List.replicate k (zs.map (qan []))).flatten.take (m*P.cellsOf e)=(List.replicate m (zs.map (qan []))).flatten:=by rw[show k=m+(k-m)by omega,<-List.replicate_append_replicate,jZ,List.take_append_of_le_length (by rw[qas hrl];simp),kB (by rw[qas hrl];simp)]
     rw[this]at h3;exact h3
    have hg:=Grow.alloc E.w (.cells (Go.madeCells z.cells (k*P.cellsOf e)) e);have hnew:(E.w.alloc (.cells (Go.madeCells z.cells (k*P.cellsOf e)) e)).heap[E.w.heap.size]?=some (.cells (Go.madeCells z.cells (k*P.cellsOf e)) e (0,0)):=Go.heap_alloc_new _ _;obtain⟨E',k1,k2,k3,k4,k5⟩:=q4i hE hid (els':=List.replicate m (zs.map (qan []))) hg.size (fun j hj _=>hg.keep j hj) hg.os hg.output (b:=E.w.heap.size) (C:=k) (.inr ⟨jD _,qec hnew⟩) hnew (by omega) hrl (qnf hpz)
     (by rw[Go.size_madeCells]) (by simpa using hmk) (by simpa using htake) (l:=m) (by simp)
    refine⟨E',_,m,k1,k2,rfl,rfl,k3,?_,k5⟩;rw[k4];rw[hisz]at hrun;simp[execOp,ho,r1,r2,hrun,e3,f3]
   .cases hv
section
variable{P:Prg}{sf:Q->Option R}{ops:Array Oper}{is:List I}{anc:List (List Nat)}{s0:List V}{h0:H}{T:Nat->St}(hT:Trace P sf is s0 h0 T)(hF:Facts ops is anc)
include hT hF
theorem zva{q:Nat}(hm:qbt is<=q)(hq:q<is.length)(hn:∀k,k<is.length->qbw is k=q->effOf (itI is k).o ≠ .hard):(T (q+1)).h=(T q).h:=by
 have hlt:q<(qbi is).length:=by rw[qdk];exact hq
 have hg:=jA hlt;obtain⟨g1,g2⟩:=qlk hg;obtain⟨v,h1,_⟩:=qlz hT hg;have hnf:isA is (qbi is)[q]=false:=by
  cases ha:isA is (qbi is)[q]with
  | false=>rfl
  | true=>have:=qkw g2 ha;omega
 have hnh:=hn _ g2 g1;have:effOf (itI is (qbi is)[q]).o=.none\/effOf (itI is (qbi is)[q]).o=.load:=by
  cases he:effOf (itI is (qbi is)[q]).o with
  | none=>exact .inl rfl
  | load=>exact .inr rfl
  | alloc=>rw[(hF.late _ g2 (.inl he)).2.2]at hnf;cases hnf
  | mk=>rw[(hF.late _ g2 (.inr he)).2.2]at hnf;cases hnf
  | hard=>exact absurd he hnh
 exact qld this h1
theorem zbl{q:Nat}(hm:qbt is<=q):∀{k:Nat},q+k<=is.length->(∀e,e<is.length->q<=qbw is e->qbw is e<q+k->effOf (itI is e).o ≠ .hard)->(T (q+k)).h=(T q).h
 | 0,_,_=>rfl
 | k+1,hk,hn=>by rw[show q+(k+1)=(q+k)+1 by omega,zva hT hF (by omega) (by omega) (fun e he hp=>hn e he (by omega) (by omega))];exact zbl hm (by omega) fun e he h1 h2=>hn e he h1 (by omega)
omit hT in
theorem zzw{D:List Nat}(hcl:∀j∈D,∀k∈anc.getD j [],k∈D):∃p,qbt is<=p/\p<=is.length/\∀k,k<is.length->effOf (itI is k).o=.hard->(k∈D<->qbw is k<p):=by
 have hex:∃p,qbt is<=p/\p<=is.length/\∀k,k<is.length->effOf (itI is k).o=.hard->k∈D->qbw is k<p:=⟨is.length,qqs,jD _,fun k hk _ _=>qro hk⟩
 obtain⟨p,⟨h1,h2,h3⟩,h4⟩:=znv hex;refine⟨p,h1,h2,fun k hk hh=>⟨h3 k hk hh,fun hlt=>?_⟩⟩;by_cases hkD:k∈D
 .exact hkD
 .exfalso
  -- the last hard one that is done lies behind k
  by_cases hp:p=qbt is
  .have:=qiu (is:=is) (i:=k) (qit hF hk hh);omega
  .have hn:¬(qbt is<=p-1/\p-1<=is.length/\∀k,k<is.length->effOf (itI is k).o=.hard->k∈D->qbw is k<p-1):=fun h=>by
    have:=h4 _ h;omega
   have:∃e,e<is.length/\effOf (itI is e).o=.hard/\e∈D/\p-1<=qbw is e:=by
    by_cases hx:∃e,e<is.length/\effOf (itI is e).o=.hard/\e∈D/\p-1<=qbw is e
    .exact hx
    .exact absurd ⟨by omega,by omega,fun k hk hh hkD=>Nat.lt_of_not_le fun hle=>hx ⟨k,hk,hh,hkD,hle⟩⟩ hn
   obtain⟨e,e1,e2,e3,e4⟩:=this;have hae:=qit hF e1 e2;have hak:=qit hF hk hh;have hke:k≠e:=fun h=>hkD (h ▸ e3);rcases Nat.lt_trichotomy k e with h5 | h5 | h5
   .exact hkD (hcl e e3 k (hF.hard k hk e e1 h5 hh e2))
   .exact hke h5
   .have:=qrp e1 hk hae hak h5;omega
omit hT hF in
theorem zny{h t:H}{agg:Bool}{n:Nat}{x u:V}(hx:qhc h agg n x=some u):qhc (h++t) agg n x=some u:=by
 have hg:∀id o,h[id]?=some o->(h++t)[id]?=some o:=fun id o ho=>by rw[jI (qbe ho)];exact ho
 unfold qhc at hx ⊢;split at hx
 .exact hx
 .exact hx
 .rename_i id gen el off;unfold q7i at hx ⊢;cases e:h[id]? with
  | none=>rw[e]at hx;simp at hx
  | some o=>rw[hg _ _ e];rw[e]at hx;exact hx
 .rename_i id off;unfold q1p at hx ⊢;cases e:h[id]? with
  | none=>rw[e]at hx;simp at hx
  | some o=>rw[hg _ _ e];rw[e]at hx;exact hx
 .cases hx
theorem zit{tr:List St}(hTt:∀p,p<=is.length->tr[p]?=some (T p))(hchk:qag ((qbi is).map fun i=>is.getD i default) tr (zcr is anc)=true)(hpre':∀p q,p<=q->q<=qbt is->∃t,(T q).h=(T p).h++t){D:List Nat}(hcl:∀j∈D,∀k∈anc.getD j [],k∈D)
  {i:Nat} (hi:i<is.length) (hiD:i∉D) (hpre:∀j∈anc.getD i [],j∈D) {agg:Bool} {n:Nat} {x:A} (ho:(itI is i).o=.load agg n x) (hw:qcc (T (qbw is i)).s (itI is i)=some true)
  {u:V} (hu:qhc (T (qbw is i)).h agg n (x.ev (T (qbw is i)).s)=some u)
  {p':Nat} (hp1:qbt is<=p') (hp2:p'<=is.length) (hp3:∀k,k<is.length->effOf (itI is k).o=.hard->(k∈D<->qbw is k<p')) :
  qhc (T p').h agg n (x.ev (T (qbw is i)).s)=some u:=by
 have hei:effOf (itI is i).o=.load:=by rw[ho];rfl
 have hp:=qro (is:=is) hi;have hna:effOf (itI is i).o ≠ .alloc:=by rw[hei];simp
 have chk:∀e,e<is.length->effOf (itI is e).o=.hard->e∉anc.getD i []->i∉anc.getD e []->qhc (T (qbw is e)).h agg n (x.ev (T (qbw is i)).s)=qhc (T (qbw is i)).h agg n (x.ev (T (qbw is i)).s)/\qhc (T (qbw is e+1)).h agg n (x.ev (T (qbw is i)).s)=qhc (T (qbw is i)).h agg n (x.ev (T (qbw is i)).s):=by
  intro e he hh h1 h2;have hm:(qbw is i,qbw is e)∈zcr is anc:=by
   unfold zcr;rw[List.mem_flatMap];refine⟨i,List.mem_range.2 hi,?_⟩;have:(effOf (is.getD i default).o == .load)=true:=by simp only[beq_iff_eq];exact hei
   rw[if_pos this,List.mem_map];refine⟨e,?_,rfl⟩;rw[List.mem_filter];refine⟨List.mem_range.2 he,?_⟩;have hb:(effOf (is.getD e default).o == .hard)=true:=by simp only[beq_iff_eq];exact hh
   simp only[hb,Bool.true_and,jE,Bool.not_eq_true',List.contains_eq_mem,decide_eq_false_iff_not];exact⟨h1,h2⟩
  have hpe:=qro (is:=is) he;have hgi:((qbi is).map fun i=>is.getD i default)[qbw is i]?=some (itI is i):=by rw[List.getElem?_map,qkk hi];rfl
  obtain⟨u,u1,u2,u3⟩:=q4m hchk hm hgi (hTt _ (by omega)) (hTt _ (by omega)) (hTt _ (by omega)) hw ho;rw[u1,u2,u3];exact⟨rfl,rfl⟩
 -- where the load stands,or all that is ahead is there
 obtain⟨q0,hq0,hq1,hbase,hq2⟩:∃q0,qbw is i<=q0/\qbt is<=q0/\qhc (T q0).h agg n (x.ev (T (qbw is i)).s)=some u/\(q0=qbw is i\/q0=qbt is):=by
  rcases Nat.lt_or_ge (qbw is i) (qbt is)with h | h
  .obtain⟨t,ht⟩:=hpre' (qbw is i) (qbt is) (by omega) (jD _);exact⟨qbt is,by omega,jD _,by rw[ht];exact zny hu,.inr rfl⟩
  .exact⟨qbw is i,jD _,h,hu,.inl rfl⟩
 rcases Nat.lt_or_ge p' q0 with hle | hle
 .-- the memory stands ahead
  have hqi:q0=qbw is i:=by
   rcases hq2 with h | h
   .exact h
   .omega
  subst hqi;have key:∀k q,q+k=qbw is i->p'<=q->qhc (T q).h agg n (x.ev (T (qbw is i)).s)=some u:=by
   intro k;induction k with
   | zero=>intro q hq _;rw[show q=qbw is i by omega];exact hu
   | succ k ih =>
    intro q hq hpq;have hlt:q<(qbi is).length:=by rw[qdk];omega
    have hg:=jA hlt;generalize (qbi is)[q]=e at hg;obtain⟨g1,g2⟩:=qlk hg;by_cases hh:effOf (itI is e).o=.hard
    .have heD:e∉D:=fun h=>by have:=(hp3 e g2 hh).1 h;omega
     have:=(chk e g2 hh (fun h=>heD (hpre e h)) (fun h=>by
      have h2:=q8p hF g2 h (by rw[hh];simp);omega)).1
     rw[g1,hu]at this;exact this
    .have h1:=zva hT hF (q:=q) (by omega) (by omega) (fun k' hk' hpk=>by
      have:k'=e:=by have h2:=qkk hk';rw[hpk,hg]at h2;cases h2;rfl
      rw[this];exact hh)
     rw[<-h1];exact ih (q+1) (by omega) (by omega)
  exact key (qbw is i-p') p' (by omega) (jD _)
 .-- the memory stands behind
  have key:∀k,q0+k<=p'->qhc (T (q0+k)).h agg n (x.ev (T (qbw is i)).s)=some u:=by
   intro k;induction k with
   | zero=>intro _;exact hbase
   | succ k ih =>
    intro hk;have hlt:q0+k<(qbi is).length:=by rw[qdk];omega
    have hg:=jA hlt;generalize (qbi is)[q0+k]=e at hg;obtain⟨g1,g2⟩:=qlk hg;by_cases hh:effOf (itI is e).o=.hard
    .have heD:e∈D:=(hp3 e g2 hh).2 (by omega);have:=(chk e g2 hh (fun h=>by
      have h2:=q8p hF hi h hna;omega) (fun h=>hiD (hcl e heD i h))).2
     rw[g1,hu]at this;exact this
    .have h1:=zva hT hF (q:=q0+k) (by omega) (by omega) (fun k' hk' hpk=>by
      have:k'=e:=by have h2:=qkk hk';rw[hpk,hg]at h2;cases h2;rfl
      rw[this];exact hh)
     rw[show q0+(k+1)=(q0+k)+1 by omega,h1];exact ih (by omega)
  have:=key (p'-q0) (by omega);rw[show q0+(p'-q0)=p' by omega]at this;exact this
end
variable{md:Nat}
def zqt(P:Program)(ops:Array Oper)(is:List I)(T:Nat->St)(E0 E:Env)(i:Nat):Prop :=
 ∃id cells us ty,E0.h.length<=id/\(T (qbw is i)).h.length<=id/\id<(T (qbw is i+1)).h.length/\(T (qbw is i+1)).s=q3x (T (qbw is i)).s (itI is i).dst (.bptr id 0)/\Bx P E (ops.getD i default) id cells us ty
structure Inv(P:Program)(ops:Array Oper)(is:List I)(s0:List V)(T:Nat->St)(E0:Env)(ds:List Deferred)(D:List Nat)(E:Env)(a:Act):Prop where
 ok:Ok P E
 ext:Ext E0 E
 slots:qaj E (slD is s0 T D) a.tmps.toList
 defers:a.defers=ds
 heap:∀p,qbt is<=p->p<=is.length->(∀k,k<is.length->effOf (itI is k).o=.hard->(k∈D<->qbw is k<p))->E.h=hol is T D (T p).h
 boxes:∀i,i<is.length->effOf (itI is i).o=.alloc->i∉D->zqt P ops is T E0 E i
theorem q4j{P:Program}{ops:Array Oper}{is:List I}{T:Nat->St}{E0 E E':Env}(hE:Ok P E)(x:Ext E E'){i:Nat}(h:zqt P ops is T E0 E i):zqt P ops is T E0 E' i:=by obtain⟨id,cells,us,ty,h1,h2,h3,h4,h5⟩:=h;exact⟨id,cells,us,ty,h1,h2,h3,h4,h5.ext hE x⟩
theorem q6i{E:Env}:∀{s:List V} {us:List Value},qaj E s us->∀d,qah s d=.undef\/∃u,rel E (qah s d) u
 | [],us,_,d=>.inl rfl
 | v :: s,us,h,0=>by unfold qaj at h;obtain⟨u,us',rfl,h1,_⟩:=h;exact .inr ⟨u,h1⟩
 | v :: s,us,h,d+1=>by unfold qaj at h;obtain⟨u,us',rfl,_,h2⟩:=h;exact q6i (s:=s) h2 d
theorem q2j{is:List I}{T:Nat->St}{D:List Nat}(h:∀i,i<is.length->effOf (itI is i).o=.mk->i∈D)(k:H):hol is T D k=k :=
 zpz fun id _=>by
  cases hb:qiq is T D id with
  | false=>rfl
  | true =>obtain⟨i,hi,he,hD,_⟩:=qfw.1 hb;exact absurd (h i hi he) hD
theorem q5f{is:List I}{T:Nat->St}{D:List Nat}{i:Nat}(h:effOf (itI is i).o ≠ .mk)(k:H):hol is T (i :: D) k=hol is T D k:=by
 have:∀id,qiq is T (i :: D) id=qiq is T D id:=fun id=>by
  rw[Bool.eq_iff_iff,qfw,qfw];constructor
  .rintro⟨j,h1,h2,h3,h4⟩;exact⟨j,h1,h2,fun hj=>h3 (List.mem_cons_of_mem _ hj),h4⟩
  .rintro⟨j,h1,h2,h3,h4⟩;refine⟨j,h1,h2,fun hj=>?_,h4⟩;rcases List.mem_cons.1 hj with rfl | hj
   .exact h h2
   .exact h3 hj
 unfold hol;simp only[this]
theorem znp{is:List I}{T:Nat->St}{D:List Nat}{E:Env}{k:H}(hE:E.h=hol is T D k)(hobj:∀id,qiq is T D id=true->∃n els,k[id]?=some ⟨1,.arr n els⟩){agg:Bool}{n:Nat}{v u:V}(hv:v=.undef\/∃w,rel E v w)(hu:qhc k agg n v=some u):qhc E.h agg n v=some u:=by
 have hg:∀id,qiq is T D id=false->E.h[id]?=k[id]?:=fun id h=>by rw[hE,qip,h];simp
 unfold qhc at hu ⊢;split at hu
 .exact hu
 .exact hu
 .rename_i id gen el off;cases hb:qiq is T D id with
  | false =>unfold q7i at hu ⊢;rw[hg id hb];exact hu
  | true =>
   exfalso;obtain⟨m,els,ho⟩:=hobj id hb;rcases hv with hv | ⟨w,hv⟩
   .cases hv
   .unfold rel at hv;have h2:=hv.2.1;have h0:qgt E.h id=0:=by
     unfold qgt;rw[hE,qip,hb,ho];rfl
    unfold q7i at hu;rw[ho]at hu;simp only at hu;have:(1:Nat)≠gen:=by omega
    rw[if_neg this]at hu;cases hu
 .rename_i id off;cases hb:qiq is T D id with
  | false =>unfold q1p at hu ⊢;rw[hg id hb];exact hu
  | true =>exfalso;obtain⟨m,els,ho⟩:=hobj id hb;unfold q1p at hu;rw[ho]at hu;cases hu
 .cases hu
section
variable{P:Program}{pg:Prg}{sf:Q->Option R}(hS:SelfOk P sf){ops:Array Oper}{is:List I}(his:is=ops.toList.map (cI md P ops)){anc:List (List Nat)}{s0:List V}{T:Nat->St}{E0:Env}(hT:Trace pg sf is s0 E0.h T)(hF:Facts ops is anc)
 {tr:List St} (hTt:∀p,p<=is.length->tr[p]?=some (T p)) (hchk:qag ((qbi is).map fun i=>is.getD i default) tr (zcr is anc)=true)
include hS his hT hF hTt hchk
theorem qvh(ro:Option Nat){ds:List Deferred}{Qp:Exit->Act->World->Prop}(K:∀E' a',Ok P E'->Ext E0 E'->E'.h=(T is.length).h->qaj E' (T is.length).s a'.tmps.toList->a'.defers=ds->Qp .normal a' E'.w) :
  ∀(l D:List Nat) (E:Env) (a:Act),q1l is.length (qxu ops) D l->Inv P ops is s0 T E0 ds D E a->(∀j∈D,j<is.length)->(∀j∈D,∀k∈anc.getD j [],k∈D)->Go.wpOpsIn (F0 ro) 0 P ops Qp l a E.w
 | [],D,E,a,hV,hI,hD,hcl=>by
  unfold q1l at hV;refine K E a hI.ok hI.ext (by rw[hI.heap is.length qqs (jD _) fun k hk _=>⟨fun _=>qro hk,fun _=>hV k hk⟩,q2j fun k hk _=>hV k hk]) ?_ hI.defers;have:slD is s0 T D=(T is.length).s:=by
   refine qvk (by rw[qsh hT (jD _)];simp[slD]) fun d _=>?_;rw[qts hT];split
   .rfl
   .rename_i hn;refine(qpd hT (jD _) fun j hj hjd=>?_).symm;exact absurd (List.any_eq_true.2 ⟨j,hV j hj,by simp[hjd]⟩) hn
  rw[<-this];exact hI.slots
 | i :: l,D,E,a,hV,hI,hD,hcl=>by
  unfold q1l at hV;obtain⟨hi,hiD,hpre0,hV'⟩:=hV;have hsz:is.length=ops.size:=by rw[his];simp
  have hio:i<ops.size:=by omega
  have hpre:∀j∈anc.getD i [],j∈D:=by
   intro j hj;rcases hF.anc_pre i hi j hj with h | ⟨e,h1,h2⟩
   .exact hpre0 j h
   .exact hcl e (hpre0 e h1) j h2
  have hD':∀j∈i :: D,j<is.length:=fun j hj=>by
   rcases List.mem_cons.1 hj with rfl | hj
   .exact hi
   .exact hD j hj
  have hcl':∀j∈i :: D,∀k∈anc.getD j [],k∈i :: D:=fun j hj k hk=>by
   rcases List.mem_cons.1 hj with rfl | hj
   .exact List.mem_cons_of_mem _ (hpre k hk)
   .exact List.mem_cons_of_mem _ (hcl j hj k hk)
  have hgo:=qkk hi;have hget:ops[i]?=some (ops.getD i default):=by simp[Array.getD,hio]
  have hit:itI is i=cI md P ops (ops.getD i default):=by rw[his];simp[itI,Array.getD,hio]
  obtain⟨v,hv1,hv2⟩:=qlz hT hgo;have hp:=qro (is:=is) hi;have hpre':∀p q,p<=q->q<=qbt is->∃t,(T q).h=(T p).h++t:=by intro p q h1 h2;subst his;exact q2e hT hF h1 h2
  have hmono:∀p q,p<=q->q<=qbt is->(T p).h.length<=(T q).h.length:=fun p q h1 h2=>by obtain⟨t,ht⟩:=hpre' p q h1 h2;rw[ht,jF];omega
  have hmkat:∀j,j<is.length->effOf (itI is j).o=.mk->qbw is j<qbt is/\∃n zero l,(T (qbw is j+1)).h=(T (qbw is j)).h++[⟨1,.arr n (List.replicate l zero)⟩]:=by intro j h1 h2;subst his;obtain⟨h3,n,z,l,h4,_⟩:=zul hT hF h1 h2;exact⟨h3,n,z,l,h4⟩
  -- while a slice is still to be made,nothing is written
  have phase:∀{D':List Nat} {j:Nat},(∀x∈D',∀k∈anc.getD x [],k∈D')->j<is.length->effOf (itI is j).o=.mk->j∉D'->∀p,qbt is<=p->p<=is.length->(∀k,k<is.length->effOf (itI is k).o=.hard->(k∈D'<->qbw is k<p))->(T p).h=(T (qbt is)).h:=by
   intro D' j hcl2 hj hje hjD p hp1 hp2 hp3;have:=zbl hT hF (q:=qbt is) (jD _) (k:=p-qbt is) (by omega) (fun e he h1 h2 hh=>by
    have heD:=(hp3 e he hh).2 (by omega);exact hjD (hcl2 e heD j (hF.mks j hj hje e he hh)))
   rw[show qbt is+(p-qbt is)=p by omega]at this;exact this
  have objat:∀{j:Nat},j<is.length->effOf (itI is j).o=.mk->∃n els,(T (qbt is)).h[(T (qbw is j)).h.length]?=some ⟨1,.arr n els⟩:=by intro j hj hje;obtain⟨h1,n,z,l,h2⟩:=hmkat j hj hje;obtain⟨t,ht⟩:=hpre' (qbw is j+1) (qbt is) (by omega) (jD _);exact⟨n,List.replicate l z,by rw[ht,h2];simp⟩
  unfold Go.wpOpsIn;simp only[hget];by_cases ha:effOf (itI is i).o=.alloc
  .-- an allocation
   obtain⟨id,cells,us,ty,b1,b2,b3,b4,b5⟩:=hI.boxes i hi ha hiD;have he:=ha;obtain⟨hgn,⟨d,hd⟩,hfa⟩:=hF.late i hi (.inl he);have hcc:∃q,cI md P ops (ops.getD i default)=⟨(itI is i).dst,none,q⟩/\q ≠ .stuck:=by refine⟨(itI is i).o,by rw[<-hit];cases hx:itI is i with | mk d g o=>rw[hx]at hgn;simp only at hgn;rw[hgn],?_⟩;intro h;rw[h]at he;cases he
   obtain⟨q,hq1,hq2⟩:=hcc;obtain⟨w1,w2,w3⟩:=qyv (P:=P) (E:=E) hI.slots hq1 hq2 (t:=true) rfl;rw[if_pos w3];refine⟨fun _ _=>trivial,?_⟩;rw[Go.Oper.semAt_eq _ _ _ (qwb w2),b5.run a E.w,Go.Oper.uponIn_value];have hok:=zrt hI.ok b5;have hx0:=qwa hI.ok b5;have hval:rel (qmo E id us ty) (.bptr id 0) (.pointer (some ⟨E.w.heap.size,0,none⟩)):=by unfold rel;exact⟨qbe b5.obj,E.w.heap.size,0,rfl,fun o _ _=>⟨⟨(us.length,0),by simp[qmo]⟩,rfl⟩⟩
   refine qvh ro K l (i :: D) (qmo E id us ty) _ hV' ⟨hok,zma hI.ok hI.ext b5 b1,?_,(qhf _ _ _).trans hI.defers,fun p hp1 hp2 hp3=>?_,fun j hj haj hjD=>?_⟩ hD' hcl'
   .rw[q3f hT hF hi b4,w1];exact qox (qba hI.ok hx0 _ _ hI.slots) _ hval
   .rw[q5f (by rw[he];simp)];refine hI.heap p hp1 hp2 fun k hk hh=>?_;have hki:k≠i:=fun h=>by subst h;rw[he]at hh;cases hh
    have:=hp3 k hk hh;simpa[hki]using this
   .have hji:j≠i:=fun h=>hjD (by simp[h]);obtain⟨id',cells',us',ty',c1,c2,c3,c4,c5⟩:=hI.boxes j hj haj (fun h=>hjD (List.mem_cons_of_mem _ h));have hne:id'≠id:=by
     have hpj:=qkw hj (hF.late j hj (.inl haj)).2.2;have hpi:=qkw hi hfa;have hpp:qbw is j≠qbw is i:=fun h=>by have h1:=qkk hj;rw[h,hgo]at h1;cases h1;exact hji rfl
     rcases Nat.lt_or_gt_of_ne hpp with h | h
     .have:=hmono (qbw is j+1) (qbw is i) h (by omega);omega
     .have:=hmono (qbw is i+1) (qbw is j) h (by omega);omega
    exact⟨id',cells',us',ty',c1,c2,c3,c4,c5.obj,by simp only[qmo,if_neg hne];exact c5.unb,c5.low,qba hI.ok hx0 _ _ c5.rel,c5.run⟩
  by_cases hmk:effOf (itI is i).o=.mk
  .-- a slice is made
   obtain⟨hgn,⟨d,hd⟩,hfa⟩:=hF.late i hi (.inr hmk);have hoo:∃n b z x y,(itI is i).o=.mkslice n b z x y:=by cases ho:(itI is i).o<;>rw[ho]at hmk<;>first | (exact⟨_,_,_,_,_,rfl⟩) | (cases hmk;done) | (simp only[effOf]at hmk;split at hmk<;>cases hmk)
   obtain⟨n,b,z,x,y,hoo⟩:=hoo;have hq1:cI md P ops (ops.getD i default)=⟨(itI is i).dst,none,.mkslice n b z x y⟩:=by
    rw[<-hit];cases hx:itI is i with
    | mk d g o=>rw[hx]at hgn hoo;simp only at hgn hoo;rw[hgn,hoo]
   obtain⟨w1,w2,w3⟩:=qyv (P:=P) (E:=E) hI.slots hq1 (by simp) (t:=true) rfl;have hcong:=fun h=>q1g (P:=pg) (self:=sf) (i:=itI is i) (h:=h) (qxw hT hF hD hcl hi hiD hpre);have hv3:exO (.mkslice n b z x y) (slD is s0 T D) (T (qbw is i)).h=some (v,(T (qbw is i+1)).h):=by
    have h1:=hcong (T (qbw is i)).h;rw[hv1]at h1;unfold q3m at h1;have hw:qcc (slD is s0 T D) (itI is i)=some true:=by simp[qcc,hgn]
    rw[hw]at h1;simp only[hoo]at h1;exact h1
   have hheap0:=hI.heap (qbt is) (jD _) qqs fun k hk hh=>by
    constructor
    .intro hkD;exact absurd (hcl k hkD i (hF.mks i hi hmk k hk hh)) hiD
    .intro hlt;have:=qiu (is:=is) (i:=k) (qit hF hk hh);omega
   have hhole:qiq is T D (T (qbw is i)).h.length=true:=qfw.2 ⟨i,hi,hmk,hiD,rfl⟩;have hid:E.h[(T (qbw is i)).h.length]?=some ⟨0,.arr 0 []⟩:=by obtain⟨n',els',ho'⟩:=objat hi hmk;rw[hheap0,qip,ho',hhole];rfl
   obtain⟨E',u,ll,f1,f2,f3,f4,f5,f6,f7⟩:=zhj hI.ok hI.slots w2 hv3 hid;rw[if_pos w3];refine⟨fun _ _=>trivial,?_⟩;rw[Go.Oper.semAt_eq _ _ _ (qwb w2),f6,Go.Oper.uponIn_value];refine qvh ro K l (i :: D) E' _ hV' ⟨f1,hI.ext.trans f2,?_,(qhf _ _ _).trans hI.defers,fun p hp1 hp2 hp3=>?_,fun j hj haj hjD=>?_⟩ hD' hcl'
   .rw[q3f hT hF hi hv2,w1,f3];exact qox (qba hI.ok f2.toExt0 _ _ hI.slots) _ f7
   .have hp3':∀k,k<is.length->effOf (itI is k).o=.hard->(k∈D<->qbw is k<p):=fun k hk hh=>by
     have hki:k≠i:=fun h=>by subst h;rw[hmk]at hh;cases hh
     have:=hp3 k hk hh;simpa[hki]using this
    have hTp:=phase hcl hi hmk hiD p hp1 hp2 hp3';rw[f5,hI.heap p hp1 hp2 hp3',hTp]
    -- the hole is filled
    obtain⟨t,ht⟩:=hpre' (qbw is i+1) (qbt is) (by have:=(hmkat i hi hmk).1;omega) (jD _);have hobj:(T (qbt is)).h[(T (qbw is i)).h.length]?=some ⟨1,.arr n (List.replicate ll z)⟩:=by rw[ht,f4];simp
    have hlt:=qbe hobj;have hself:qiq is T (i :: D) (T (qbw is i)).h.length=false:=by
     cases hb:qiq is T (i :: D) (T (qbw is i)).h.length with
     | false=>rfl
     | true =>
      exfalso;obtain⟨j,hj,hje,hjD,hjl⟩:=qfw.1 hb;have hji:j≠i:=fun h=>hjD (by simp[h]);have hpp:qbw is j≠qbw is i:=fun h=>by have h1:=qkk hj;rw[h,hgo]at h1;cases h1;exact hji rfl
      obtain⟨m1,_,_,_,m2⟩:=hmkat j hj hje;obtain⟨m3,_,_,_,m4⟩:=hmkat i hi hmk;have l1:(T (qbw is j+1)).h.length=(T (qbw is j)).h.length+1:=by rw[m2];simp
      have l2:(T (qbw is i+1)).h.length=(T (qbw is i)).h.length+1:=by rw[m4];simp
      rcases Nat.lt_or_gt_of_ne hpp with h | h
      .have:=hmono (qbw is j+1) (qbw is i) h (by omega);omega
      .have:=hmono (qbw is i+1) (qbw is j) h (by omega);omega
    apply List.ext_getElem?;intro e;by_cases hee:e=(T (qbw is i)).h.length
    .subst hee;rw[jN (by rw[q2k];exact hlt),qip,hobj,hself];rfl
    .rw[jO (fun h=>hee h.symm),qip,qip];have:qiq is T (i :: D) e=qiq is T D e:=by
      rw[Bool.eq_iff_iff,qfw,qfw];constructor
      .rintro⟨j,h1,h2,h3,h4⟩;exact⟨j,h1,h2,fun hj=>h3 (List.mem_cons_of_mem _ hj),h4⟩
      .rintro⟨j,h1,h2,h3,h4⟩;refine⟨j,h1,h2,fun hj=>?_,h4⟩;rcases List.mem_cons.1 hj with rfl | hj
       .exact hee h4.symm
       .exact h3 hj
     rw[this]
   .exact q4j hI.ok f2 (hI.boxes j hj haj (fun h=>hjD (List.mem_cons_of_mem _ h)))
  .-- another one
   have hcong:=fun h=>q1g (P:=pg) (self:=sf) (i:=itI is i) (h:=h) (qxw hT hF hD hcl hi hiD hpre);have hstep:∃h2,q3m pg sf (itI is i) (slD is s0 T D) E.h=some (v,h2)/\(∀p,qbt is<=p->p<=is.length->(∀k,k<is.length->effOf (itI is k).o=.hard->(k∈i :: D<->qbw is k<p))->h2=hol is T (i :: D) (T p).h):=by
    have quietCase:effOf (itI is i).o ≠ .hard->q3m pg sf (itI is i) (slD is s0 T D) E.h=some (v,E.h)->∃h2,q3m pg sf (itI is i) (slD is s0 T D) E.h=some (v,h2)/\(∀p,qbt is<=p->p<=is.length->(∀k,k<is.length->effOf (itI is k).o=.hard->(k∈i :: D<->qbw is k<p))->h2=hol is T (i :: D) (T p).h):=by
     intro hnh hval;refine⟨E.h,hval,fun p hp1 hp2 hp3=>by
     rw[q5f hmk];refine hI.heap p hp1 hp2 fun k hk hh=>?_;have hki:k≠i:=fun h=>by subst h;exact hnh hh
     have:=hp3 k hk hh;simpa[hki]using this⟩
    cases he:effOf (itI is i).o with
    | alloc=>exact absurd he ha
    | mk=>exact absurd he hmk
    | none =>refine quietCase (by rw[he];simp) ?_;rw[hcong];exact zkr he hv1 E.h
    | load =>
     refine quietCase (by rw[he];simp) ?_;rw[hcong];obtain⟨p',q1,q2,q3⟩:=zzw hF hcl;have hEh:=hI.heap p' q1 q2 q3;have hsame:=qld (.inr he) hv1;have hlo:∃agg n x,(itI is i).o=.load agg n x:=by cases hoo:(itI is i).o<;>rw[hoo]at he<;>first | (exact⟨_,_,_,rfl⟩) | (cases he;done) | (simp only[effOf]at he;split at he<;>cases he)
     obtain⟨agg,n,x,ho⟩:=hlo;have hv1':=hv1;unfold q3m at hv1' ⊢;cases hw:qcc (T (qbw is i)).s (itI is i)with
     | none=>rw[hw]at hv1';cases hv1'
     | some t =>
      rw[hw]at hv1';cases t with
      | false =>simp only[jC,Prod.mk.injEq]at hv1';simp only[hv1'.1]
      | true =>
       simp only[ho,exO]at hv1' ⊢;split at hv1'
       .rename_i u hu;obtain⟨d,hxd⟩:∃d,x=.t d:=by
         have:=hF.ldt i hi;rw[ho]at this;cases x with
         | t d=>exact⟨d,rfl⟩
         | c v=>cases this
         | m l n=>cases this
        have hl2:=zit hT hF hTt hchk hpre' hcl hi hiD hpre ho hw hu q1 q2 q3;have hsl:qah (slD is s0 T D) d=qah (T (qbw is i)).s d:=qxw hT hF hD hcl hi hiD hpre d (by unfold qmf;rw[ho,hxd];simp[qax,qej]);have hl3:=znp (v:=x.ev (T (qbw is i)).s) hEh (fun id hb=>by
         obtain⟨j,hj,hje,hjD,hjl⟩:=qfw.1 hb;rw[phase hcl hj hje hjD p' q1 q2 q3,<-hjl];exact objat hj hje) (by
         rw[hxd];show qah (T (qbw is i)).s d=.undef\/∃w,rel E (qah (T (qbw is i)).s d) w;rw[<-hsl];exact q6i hI.slots d) hl2
        rw[hl3];simp only[jC,Prod.mk.injEq]at hv1';simp only[hv1'.1]
       .cases hv1'
    | hard =>
     have ha':=qit hF hi he;have hpa:qbt is<=qbw is i:=by rw[qiu ha'];omega
     have hall:∀k,k<is.length->effOf (itI is k).o=.mk->k∈D:=fun k hk hke=>hpre k (hF.mks k hk hke i hi he);have hEh:E.h=(T (qbw is i)).h:=by
      rw[<-q2j (T:=T) hall (T (qbw is i)).h];exact hI.heap (qbw is i) hpa (Nat.le_of_lt hp) fun k hk hh=>by
       have hak:=qit hF hk hh;constructor
       .intro hkD;have hki:k≠i:=fun h=>hiD (h ▸ hkD);rcases Nat.lt_trichotomy k i with h5 | h5 | h5
        .exact qrp hk hi hak ha' h5
        .exact absurd h5 hki
        .exact absurd (hcl k hkD i (hF.hard i hi k hk h5 he hh)) hiD
       .intro hlt;rcases Nat.lt_trichotomy k i with h5 | h5 | h5
        .exact hpre k (hF.hard k hk i hi h5 hh he)
        .subst h5;omega
        .have:=qrp hi hk ha' hak h5;omega
     refine⟨(T (qbw is i+1)).h,by rw[hcong,hEh];exact hv1,fun p hp1 hp2 hp3=>?_⟩;have hlt:qbw is i<p:=(hp3 i hi he).1 (by simp);rw[q2j fun k hk hke=>List.mem_cons_of_mem _ (hall k hk hke)];have:=zbl hT hF (q:=qbw is i+1) (by omega) (k:=p-(qbw is i+1)) (by omega) (fun e he1 hq1 hq2 hh=>by
      have heD:=(hp3 e he1 hh).2 (by omega);have hae:=qit hF he1 hh;rcases List.mem_cons.1 heD with h6 | h6
      .subst h6;omega
      .have hei:e≠i:=fun h=>hiD (h ▸ h6);rcases Nat.lt_trichotomy e i with h5 | h5 | h5
       .have:=qrp he1 hi hae ha' h5;omega
       .exact hei h5
       .exact hiD (hcl e h6 i (hF.hard i hi e he1 h5 he hh)))
     rw[show qbw is i+1+(p-(qbw is i+1))=p by omega]at this;exact this.symm
   obtain⟨h2,hval,hheap⟩:=hstep;have hex:exI pg sf (cI md P ops (ops.getD i default)) ⟨slD is s0 T D,E.h⟩=some ⟨slD is s0 T (i :: D),h2⟩:=by rw[<-hit,zhb,hval,q3f hT hF hi hv2];rfl
   have cont:∀E' a',Ok P E'->Ext E E'->E'.h=h2->qaj E' (slD is s0 T (i :: D)) a'.tmps.toList->a'.defers=a.defers->Go.wpOpsIn (F0 ro) 0 P ops Qp l a' E'.w:=by intro E' a' c1 c2 c3 c4 c5;refine qvh ro K l (i :: D) E' a' hV' ⟨c1,hI.ext.trans c2,c4,c5.trans hI.defers,fun p hp1 hp2 hp3=>by rw[c3];exact hheap p hp1 hp2 hp3,fun j hj haj hjD=>?_⟩ hD' hcl';exact q4j hI.ok c2 (hI.boxes j hj haj (fun h=>hjD (List.mem_cons_of_mem _ h)))
   rcases zpw hS hI.ok hI.slots hex ro with⟨hw,k⟩ | ⟨hw,k1,k2⟩
   .rw[if_pos hw];exact k _ _ cont
   .rw[hw,if_neg (by simp)];refine⟨fun _ _=>trivial,?_⟩;exact cont E _ hI.ok (Ext.refl E) k2.symm k1 (qhf _ _ _)
end
theorem zsj{P:Program}{pg:Prg}:zey P pg:=by
 intro md sf ro id ops E s a res hS hE hs h;unfold zwh at h;simp only[if_true]at h;split at h
 .rename_i hok;have hF:=znb hok;have hex:∃tr st',exT pg sf ((qbi (ops.toList.map (cI md P ops))).map fun i=>(ops.toList.map (cI md P ops)).getD i default) ⟨s,E.h⟩=some tr/\qag ((qbi (ops.toList.map (cI md P ops))).map fun i=>(ops.toList.map (cI md P ops)).getD i default) tr (zcr (ops.toList.map (cI md P ops)) (z5i ops.toList))=true/\tr.getLast?=some st'/\res={ st:=st' }:=by
   simp only[qci]at h;split at h
   .rename_i hc;split at h
    .rename_i st' he;cases h;obtain⟨tr,h1,h2⟩:=zhc he;exact⟨tr,st',h1,by rw[hc];rfl,h2,rfl⟩
    .cases h
   .split at h
    .rename_i tr he;split at h
     .rename_i hck;simp only[jM]at h;obtain⟨st',h1,h2⟩:=h;exact⟨tr,st',he,hck,h1,h2.symm⟩
     .cases h
    .cases h
  obtain⟨tr,st',hx,hck,hlast,rfl⟩:=hex;generalize his:ops.toList.map (cI md P ops)=is at hF hx hck;have hsz:is.length=ops.size:=by rw[<-his];simp
  obtain⟨t1,t2,t3⟩:=zhg hx;rw[List.length_map,qdk]at t1;have hTt:∀p,p<=is.length->tr[p]?=some (tr.getD p default):=fun p hp=>by rw[jA (by omega)];simp[show p<tr.length by omega]
  obtain⟨g1,g2⟩:=qww hE (Grow.drew E.w) (S':=E.S) (fun _ h=>h) (fun _ h=>.inl h);have hT:Trace pg sf is s E.h (fun p=>tr.getD p default):=by refine⟨by simp[t2],fun p i hp=>?_⟩;obtain⟨x,y,q1,q2,q3⟩:=t3 p (itI is i) (by rw[List.getElem?_map,hp];rfl);simp only[List.getD_eq_getElem?_getD,q1,q2,Option.getD_some];exact q3
  have hTn:tr.getD is.length default=st':=by rw[List.getLast?_eq_getElem?,t1]at hlast;simp only[Nat.add_sub_cancel]at hlast;simp[hlast]
  subst his;have hst:=zqo (E0:=⟨E.b,E.S,E.h,E.w.drew⟩) g1 hT hF;obtain⟨Es,k1,k2,k3,k4,k5⟩:=hst _ (jD _);refine Go.wpIn_region_draw fun t=>?_;have hV:=qze (ops:=ops) hF.edge (P.follows .mixedOrders) t;rw[<-hsz]at hV;have hs':qaj Es s a.tmps.toList:=qba g1 k2.toExt0 _ _ (qba hE g2.toExt0 _ _ hs);have hsl:slD (ops.toList.map (cI md P ops)) s (fun p=>tr.getD p default) []=s:=by refine qvk (by simp[slD]) fun d hd=>?_;rw[qts hT];simp
  have hrun:=qvh (E0:=⟨E.b,E.S,E.h,E.w.drew⟩) hS rfl hT hF hTt hck ro (ds:=a.defers) (Qp:=q7e P E a { st:=st' }) (fun E' a' c1 c2 c3 c4 c5=>?_) (Go.Region.schedule (P.follows .mixedOrders) ops t) [] Es a hV
   ⟨k1,k2,by rw[hsl];exact hs',rfl,fun p hp1 hp2 hp3=>?_,fun i hi ha _=>?_⟩ (fun j hj=>by cases hj) (fun j hj=>by cases hj)
  .rw[k3]at hrun;exact hrun
  .rw[hTn]at c3 c4;exact⟨E',[],c1,g2.trans c2,rfl,c3,c4,rfl,by simpa using c5,List.nodup_nil,fun r hr=>by cases hr⟩
  .rw[k4];have:=zbl hT hF (q:=qbt (ops.toList.map (cI md P ops))) (jD _) (k:=p-qbt (ops.toList.map (cI md P ops))) (by omega) (fun e he h1 h2 hh=>by
    have:=(hp3 e he hh).2 (by omega);cases this)
   rw[show qbt (ops.toList.map (cI md P ops))+(p-qbt (ops.toList.map (cI md P ops)))=p by omega]at this;rw[this]
  .have hpi:=qkw hi (hF.late i hi (.inl ha)).2.2;exact k5 (qbw _ i) i hpi (qkk hi) ha
 .simp[qci,exL,exI,qcc,exO]at h
theorem zmd{P:Program}{pg:Prg}(hpg:Made P pg){f:Nat}{args:List V}{E:Env}{us:Array Value}{r:R}(hE:Ok P E)(ha:qaj E args us.toList)(h:ev pg (.call (.fn f [] []) args E.h)=some r) :
  Go.Calls P (qls f) us E.w (Ret P E r.v r.st.h):=by
 obtain⟨n,hn⟩:=qkj h;have:=((zpu zsj hpg n).1.fn f [] [] args E r us hE (by simpa using ha) hn).2;exact Go.callsIn_wide.1 this
open Go (World Value Addr Obj Program TypeId TypeDesc DataW MemPlace maxLen Lit)
def qdx(P:Program):Nat->TypeId->List V->Prop
 | 0,_,_=>False
 | n+1,t,vs=>match P.underlying t with
  | some .bool=>∃b,vs=[.bool b]
  | some (.int k)=>∃m,vs=[.int k m]/\(Lit.int k m).wf=true
  | some .string=>∃s,vs=[.str s]/\s.length<=maxLen
  | some (.slice e)=>∃els,vs=[.imm els]/\els.length<=maxLen/\∀r∈els,r.length=P.cellsOf e/\qdx P n e r
  | some (.struct fs)=>vs.length=P.cellsOf t/\∀f∈fs.toList,qdx P n f.type ((vs.drop f.offset).take (P.cellsOf f.type))
  | _=>False
def qsf(P:Program):List Go.Field->Nat->Option Nat
 | [],o=>some o
 | f :: r,o=>if f.offset=o then qsf P r (o+P.cellsOf f.type)else none
def zqi(P:Program):Nat->TypeId->Bool
 | 0,_=>false
 | n+1,t=>match P.underlying t with
  | some .bool | some (.int _) | some .string=>P.cellsOf t==1
  | some (.slice e)=>P.cellsOf t==1&&P.cellsOf e != 0&&zqi P n e
  | some (.struct fs)=>qsf P fs.toList 0==some (P.cellsOf t)&&fs.toList.all fun f=>zqi P n f.type
  | _=>false
def zlg(w:World):Env:=qsn (fun b=>b<w.heap.size) w
theorem zzo(P:Program)(w:World):Ok P (zlg w):=zfq fun _ h=>h
theorem q6a{P:Program}{E:Env}{n:Nat}:∀{fs:List Go.Field} {o m:Nat} {cs:List Value},qsf P fs o=some m->cs.length=m ->
  (∀f∈fs,∃vs,qaj E vs ((cs.drop f.offset).take (P.cellsOf f.type))/\vs.all V.pcell=true/\qdx P n f.type vs) ->
  ∃vs,qaj E vs (cs.drop o)/\vs.all V.pcell=true/\∀pre:List V,pre.length=o->∀f∈fs,qdx P n f.type (((pre++vs).drop f.offset).take (P.cellsOf f.type))
 | [],o,m,cs,ht,hl,_=>by simp only[qsf,jC]at ht;refine⟨[],by rw[jX (by omega)];simp[qaj],rfl,fun _ _ f hf=>by cases hf⟩
 | f :: fs,o,m,cs,ht,hl,h=>by
  simp only[qsf]at ht;split at ht
  .rename_i ho;obtain⟨vs,h1,h2,h3⟩:=h f (by simp);obtain⟨ws,k1,k2,k3⟩:=q6a ht hl (fun g hg=>h g (by simp[hg]));have hle:o+P.cellsOf f.type<=m:=by
    have:∀(fs:List Go.Field) (o m:Nat),qsf P fs o=some m->o<=m:=by
     intro fs;induction fs with
     | nil=>intro o m h;simp only[qsf,jC]at h;omega
     | cons g gs ih =>
      intro o m h;simp only[qsf]at h;split at h
      .have:=ih _ _ h;omega
      .cases h
    exact this _ _ _ ht
   have hvl:vs.length=P.cellsOf f.type:=by have:=qau h1;rw[List.length_take,List.length_drop]at this;omega
   refine⟨vs++ws,?_,?_,fun pre hpre g hg=>?_⟩
   .have e:cs.drop o=(cs.drop o).take (P.cellsOf f.type)++cs.drop (o+P.cellsOf f.type):=by
     rw[<-List.drop_drop,List.take_append_drop]
    rw[e];rw[ho]at h1;exact qck h1 k1
   .rw[List.all_append,h2,k2];rfl
   .rcases List.mem_cons.1 hg with rfl | hg
    .have:((pre++(vs++ws)).drop g.offset).take (P.cellsOf g.type)=vs:=by
      rw[ho,<-hpre,List.drop_left,<-hvl,List.take_left]
     rw[this];exact h3
    .have:=k3 (pre++vs) (by simp[hpre,hvl]) g hg;rwa [List.append_assoc]at this
  .cases ht
open Go (World Value Addr Obj Program TypeId TypeDesc DataW MemPlace Ending)
structure Old(W W':World):Prop where
 os:W'.os=W.os
 output:W'.output=W.output
 block:∀k,k<W.heap.size->W'.heap[k]?=W.heap[k]?
theorem Old.same{W W':World}(h:Old W W'){p:MemPlace}(hp:p.block<W.heap.size):W.sameAt W' p:=by
 cases p with
 | cell b o=>exact Go.World.cell?_of_block (w:=W) (h.block b hp)
 | map b=>exact h.block b hp
theorem Old.frame{W W':World}(h:Old W W')(may:MemPlace->Prop):W.keptBut W' may:=by refine⟨h.os,h.output,fun i hi=>?_⟩;rw[h.block i hi];split<;>simp_all
theorem Old.trod{H:Type}{enc:TypeId×Value->H}{P:Program}{t:TypeId}(hl:Go.laidOutB P=true)(hr:P.readableRec t=true)(hrow:t<P.types.size){W W':World}{v:Value}{d:DataW H}{ps:List MemPlace}
  (h:DataW.Trod enc P W 0 (fun _=>true) true t v d ps) (hb:Old W W') (hlt:∀x∈ps,x.block<W.heap.size) :
  DataW.Trod enc P W' 0 (fun b=>decide (b<W.heap.size)) true t v d ps :=
 Go.WideElems.Trod_stays hl hr hrow h (fun x hx=>hb.same (hlt x hx)) (fun x hx=>by simpa using hlt x hx)
theorem zyp{P:Program}{pg:Prg}(hpg:Made P pg){f:Nat}{vs:List V}{us:Array Value}{W:World}{r:R}(ha:qaj (zlg W) vs us.toList)(h:ev pg (.call (.fn f [] []) vs [])=some r)(hv:r.v=.bool true)(hf:qls f=f:=by rfl) :
  Go.Calls P f us W fun e w'=>e=.returned (.bool true)/\Old W w':=by
 have hc:=zmd hpg (E:=zlg W) (zzo P W) ha h;rw[hf]at hc;refine hc.mono ?_;rintro e w' ⟨E',u,rfl,k1,k2,rfl,k4,k5⟩;rw[hv]at k5;unfold rel at k5;subst k5;exact⟨rfl,k2.os,k2.output,fun k hk=>k2.keep k hk qve⟩
open Go (World Value Addr Obj Program TypeId TypeDesc DataW MemPlace)
end Go.Am
