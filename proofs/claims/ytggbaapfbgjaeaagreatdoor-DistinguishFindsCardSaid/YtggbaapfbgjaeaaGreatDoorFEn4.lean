/- Functions and. -/
import Derived.Test.YtggbaapfbgjaeaaGreatDoorFEn3
import Derived.RangeFuncLeaves
import Derived.Sort.Grow
import Derived.Below
set_option linter.all false
set_option maxHeartbeats 4000000
namespace Go.Am
open Go (World Value Addr Obj Program Act Operand Oper Op Sem Result Next undef execOp TypeId TypeDesc)
variable{md:Nat}
theorem qqu{P:Program}{o:Oper}{q:O}(h:cOp md P o=some q):zpr md P o=some q:=by
 unfold cOp at h;split at h
 .split at h
  .cases h
  .rename_i e _;cases h;exact e
 .cases h
theorem qpl:∀{l:List (Nat×Operand)} {ps:List (Nat×A)},l.mapM qzc=some ps->ps.length=l.length
 | [],ps,h=>by simp at h;subst h;rfl
 | x :: xs,ps,h=>by simp only[List.mapM_cons,bind,jB,pure,jC]at h;obtain⟨a,_,b,h2,rfl⟩:=h;simp[qpl h2]
section
variable{P:Program}{E:Env}(hE:Ok P E){s:List V}{a:Act}(hs:qaj E s a.tmps.toList){o:Oper}
include hE
omit hE in
theorem zas{p q:V}{h:H}{ks:List Nat}{neg:Bool}{v:V}{h':H}(hv:(match p,q with
  | .agg a,.agg b=>match eqL ks a b with
   | some t=>some (V.bool (if neg then !t else t),h)
   | none=>none
  | _,_=>none)=some (v,h')):∃a b t,p=.agg a/\q=.agg b/\eqL ks a b=some t/\v=.bool (if neg then !t else t)/\h'=h:=by
 split at hv
 .split at hv
  .cases hv;exact⟨_,_,_,rfl,rfl,by assumption,rfl,rfl⟩
  .cases hv
 .cases hv
theorem q7s{x:Operand}{t e:TypeId}{n:Nat}{c:Go.Call}(ho:o.op=.call c)(hc:c.callee=.builtin .len)(ha:c.args.toList=[x])(hat:c.argTypes.toList=[t])(ht:P.underlying t=some (.array n e)):Does P E a o (.int .i64 n) E.h:=by
 have ha':c.args=#[x]:=by rw[<-Array.toList_inj];simpa using ha
 have hat':c.argTypes=#[t]:=by rw[<-Array.toList_inj];simpa using hat
 refine Does.same hE (u:=.int .i64 n) ?_ (by unfold rel;rfl);simp[execOp,ho,Go.resolve,hc,ha',hat',Go.invoke,Go.builtin,Go.Builtin.len_,Go.run_underlying ht,Go.goInt]
include hs
omit hE in
theorem zbe{x:Operand}{y:A}(hc:cA x=some y):rel E ((zzn y).ev s) (a.eval x):=by
 have h:=qav hs hc;unfold zzn;split
 .cases x with
  | const v =>
   simp only[cA,jM]at hc;obtain⟨w,hw,e⟩:=hc;cases e;have hv:v=.slice none 0 0:=by
    unfold cV at hw;split at hw
    .simp only[jM]at hw;obtain⟨_,_,e⟩:=hw;cases e
    .unfold cV1 at hw;split at hw<;>try (cases hw;done)
     .rfl
     .split at hw<;>cases hw
   subst hv;simp only[A.ev,Act.eval];unfold rel;rfl
  | tmp t=>simp[cA]at hc
  | func f=>simp only[cA]at hc;split at hc<;>cases hc
  | global g=>simp[cA]at hc
 .exact h
theorem zab{x:Operand}{y:A}(ho:o.op=.move x\/o.op=.assign x)(hc:cA x=some y){v:V}{h':H}(hv:exO (.mv (if z4q md then zzn y else y)) s E.h=some (v,h')):Does P E a o v h':=by
 cases hv;split
 .exact Does.same hE (by rcases ho with ho | ho<;>simp[execOp,ho]) (zbe hs hc)
 .exact zsg hE hs ho hc
theorem zhf{q:O}(hc0:cOp md P o=some q){v:V}{h':H}(hv:exO q s E.h=some (v,h')):Does P E a o v h':=by
 have hc:=qqu hc0;cases hop:o.op<;>(unfold zpr at hc;rw[hop]at hc;simp only at hc)<;>try (cases hc;done)
 case move x =>simp only[jM]at hc;obtain⟨x',h1,rfl⟩:=hc;exact zab hE hs (.inl hop) h1 hv
 case assign x =>simp only[jM]at hc;obtain⟨x',h1,rfl⟩:=hc;exact zab hE hs (.inr hop) h1 hv
 case pick c x y =>
  simp only[Option.bind_eq_bind,Option.pure_def,jB,jC]at hc;obtain⟨c',h1,x',h2,y',h3,rfl⟩:=hc;simp only[exO]at hv;split at hv
  .cases hv;exact zgu hE hs hop h1 h2 h3 (by assumption)
  .cases hv
 case alloc e =>
  simp only[jB]at hc;obtain⟨z,h1,hc⟩:=hc;split at hc
  .rename_i hk;cases hc;cases hv;exact zcs hE hop h1 (by simpa using hk)
  .cases hc
 case box e x =>
  simp only[jM]at hc;obtain⟨x',h1,rfl⟩:=hc;simp only[exO]at hv;split at hv
  .cases hv;exact zmm hE hs hop h1 (by assumption)
  .cases hv
 case build t parts =>
  simp only[Option.bind_eq_bind,Option.pure_def,jB]at hc;obtain⟨zs,hz,hc⟩:=hc;have fin:∀ps,((∃fs,P.underlying t=some (.struct fs)/\parts.toList.mapM (zjr P fs)=some ps/\fs.toList.all (fun f=>(P.info? f.type).isSome)=true)\/(∃n e,P.underlying t=some (.array n e)/\parts.toList.mapM (zjq P e)=some ps/\(P.info? e).isSome=true)) ->
    exO (.build zs ps) s E.h=some (v,h')->Does P E a o v h':=by
   intro ps hp hv;simp only[exO]at hv;split at hv
   .cases hv;exact zct hE hs hop hz hp (by assumption)
   .cases hv
  split at hc
  .rename_i fs ht;simp only[jB]at hc;obtain⟨ps,hp,hc⟩:=hc;split at hc
   .rename_i hall;cases hc;exact fin ps (.inl ⟨fs,ht,hp,hall⟩) hv
   .cases hc
  .rename_i n e ht;simp only[jB]at hc;obtain⟨ps,hp,hc⟩:=hc;split at hc
   .rename_i hall;cases hc;exact fin ps (.inr ⟨n,e,ht,hp,hall⟩) hv
   .cases hc
  .cases hc
 case buildSlice t len parts =>
  simp only[Option.bind_eq_bind,Option.pure_def,jB]at hc;obtain⟨e,he,zs,hz,ps,hp,hc⟩:=hc;have ht:P.underlying t=some (.slice e):=by
   unfold qfl at he;split at he
   .cases he;assumption
   .cases he
  split at hc
  .rename_i hh;cases hc;exact zmv hE hs hop ht hz hp hh.2.2.1 hh.2.2.2.1 hh.2.2.2.2 hv
  split at hc
  .rename_i hh;cases hc;exact zmt hE hs hop ht hz hp hh.2.2.1 hh.2.2.2.1 hh.1 hh.2.2.2.2 hv
  split at hc
  .rename_i hh;cases hc;by_cases h0:len=0
   .subst h0;simp only[exO,if_true]at hv;split at hv
    .rename_i hps;cases hv;have hps':ps=[]:=by simpa using hps
     subst hps';have hp0:parts.toList=[]:=by have:=qpl hp;exact List.length_eq_zero_iff.1 this.symm
     exact q4o hE hop ht hh.2.1 hp0
    .cases hv
   .exact q7r hE hs hop ht hz hp hh.1 hh.2.1 h0 hh.2.2 hv
  .cases hc
 case load t x =>
  simp only[Option.bind_eq_bind,Option.pure_def,jB,jC]at hc;obtain⟨z,hz,x',h1,rfl⟩:=hc;simp only[exO]at hv;split at hv
  .cases hv;exact zgp hE hs hop hz h1 (by assumption)
  .cases hv
 case store t x y =>
  split at hc
  .rename_i hz;simp only[Option.bind_eq_bind,Option.pure_def,jB,jC]at hc;obtain⟨x',h1,y',h2,rfl⟩:=hc;simp only[exO]at hv;split at hv
   .cases hv;refine zcw hE hs hop hz h1 ?_ (by assumption);split
    .exact zbe hs h2
    .exact qav hs h2
   .cases hv
  .cases hc
 case nilCheck x =>
  simp only[jM]at hc;obtain⟨x',h1,rfl⟩:=hc;simp only[exO]at hv;split at hv<;>rename_i hx<;>cases hv<;>rw[<-hx]
  .exact qoh hE hs hop h1 (.inl ⟨_,hx⟩)
  .exact qoh hE hs hop h1 (.inr (.inl ⟨_,_,_,_,hx⟩))
  .exact qoh hE hs hop h1 (.inr (.inr (.inr ⟨_,_,hx⟩)))
  .exact qoh hE hs hop h1 (.inr (.inr (.inl ⟨_,_,_,hx⟩)))
 case binOp op t x y yt =>
  have fin:∀isb,(isb=true->P.underlying t=some .bool)->(do return O.bin isb op (<-cA x) (<-cA y))=some q->Does P E a o v h':=by
   intro isb hb hc;simp only[Option.bind_eq_bind,Option.pure_def,jB,jC]at hc;obtain⟨x',h1,y',h2,rfl⟩:=hc;simp only[exO]at hv;split at hv
   .cases hv;exact zml hE hs hop hb h1 h2 (by assumption)
   .cases hv
  split at hc
  .exact fin true (fun _=>by assumption) hc
  .exact fin false (fun h=>by cases h) hc
  .exact fin false (fun h=>by cases h) hc
  .rename_i fs ht;simp only[Option.bind_eq_bind,jB]at hc;obtain⟨kss,hks,hc⟩:=hc;split at hc
   .rename_i hcond;simp only[jE,Bool.not_eq_true']at hcond;obtain⟨⟨hof,hst⟩,hg⟩:=hcond;have fin2:∀neg,((neg=false/\op=.eql)\/(neg=true/\op=.neq))->(do return O.eqa neg kss.flatten (<-cA x) (<-cA y))=some q->Does P E a o v h':=by
     intro neg hop' hc;simp only[Option.bind_eq_bind,Option.pure_def,jB,jC]at hc;obtain⟨x',h1,y',h2,rfl⟩:=hc;simp only[exO]at hv;obtain⟨p,r,b,e1,e2,e3,rfl,rfl⟩:=zas hv;exact zmq hE hs hop hop' ht hks hst hg hof h1 h2 e1 e2 e3
    split at hc
    .exact fin2 false (.inl ⟨rfl,rfl⟩) hc
    .exact fin2 true (.inr ⟨rfl,rfl⟩) hc
    .cases hc
   .cases hc
  .rename_i n e ht;simp only[Option.bind_eq_bind,jB]at hc;obtain⟨k,hk,hc⟩:=hc;split at hc
   .rename_i hcond;simp only[jE,jW,Bool.not_eq_true']at hcond;have fin2:∀neg,((neg=false/\op=.eql)\/(neg=true/\op=.neq))->(do return O.eqa neg (List.replicate n k) (<-cA x) (<-cA y))=some q->Does P E a o v h':=by
     intro neg hop' hc;simp only[Option.bind_eq_bind,Option.pure_def,jB,jC]at hc;obtain⟨x',h1,y',h2,rfl⟩:=hc;simp only[exO]at hv;obtain⟨p,r,b,e1,e2,e3,rfl,rfl⟩:=zas hv;exact zgl hE hs hop hop' ht hk hcond.1 hcond.2 h1 h2 e1 e2 e3
    split at hc
    .exact fin2 false (.inl ⟨rfl,rfl⟩) hc
    .exact fin2 true (.inr ⟨rfl,rfl⟩) hc
    .cases hc
   .cases hc
  .rename_i e ht;split at hc
   .simp only[Option.bind_eq_bind,Option.pure_def,jB,jC]at hc;obtain⟨x',h1,rfl⟩:=hc;exact qzo hE hs hop (.inl ⟨rfl,rfl⟩) ht h1 hv
   .simp only[Option.bind_eq_bind,Option.pure_def,jB,jC]at hc;obtain⟨x',h1,rfl⟩:=hc;exact qzo hE hs hop (.inr ⟨rfl,rfl⟩) ht h1 hv
   .cases hc
  .rename_i e ht;split at hc
   .simp only[Option.bind_eq_bind,Option.pure_def,jB,jC]at hc;obtain⟨x',h1,rfl⟩:=hc;exact qwi hE hs hop (.inl ⟨rfl,rfl⟩) ht h1 hv
   .simp only[Option.bind_eq_bind,Option.pure_def,jB,jC]at hc;obtain⟨x',h1,rfl⟩:=hc;exact qwi hE hs hop (.inr ⟨rfl,rfl⟩) ht h1 hv
   .cases hc
  .cases hc
 case unOp op t x =>
  simp only[Option.bind_eq_bind,Option.pure_def,jB,jC]at hc;obtain⟨x',h1,rfl⟩:=hc;simp only[exO]at hv;split at hv
  .cases hv;exact zsh hE hs hop h1 (by assumption)
  .cases hv
 case convert src dst x =>
  have fin:∀c,(cA x).map (O.conv c)=some q->((c=.i2s/\(∃k,P.underlying src=some (.int k))/\P.underlying dst=some .string)\/(∃k k',c=.int k/\P.underlying src=some (.int k')/\P.underlying dst=some (.int k))\/(c=.same/\P.underlying src=some .string/\P.underlying dst=some .string))->Does P E a o v h':=by
   intro c hc hcc;simp only[jM]at hc;obtain⟨x',h1,rfl⟩:=hc;simp only[exO]at hv;split at hv
   .rename_i u hu;cases hv;exact zgk hE hs hop h1 hcc hu (fun hcs=>by
     subst hcs;unfold q7o at hu;split at hu<;>first | (exact⟨_,by assumption⟩) | (cases hu;done) | skip
     all_goals simp_all)
   .cases hv
  split at hc
  .rename_i k k' e1 e2;exact fin _ hc (.inr (.inl ⟨_,_,rfl,e1,e2⟩))
  .rename_i k e1 e2;exact fin _ hc (.inl ⟨rfl,⟨_,e1⟩,e2⟩)
  .rename_i e1 e2;exact fin _ hc (.inr (.inr ⟨rfl,e1,e2⟩))
  .cases hc
 case makeMap t r =>
  cases r<;>simp only at hc<;>try (cases hc;done)
  split at hc
  .split at hc
   .cases hc;exact zcu hE hop hv
   .cases hc
  .cases hc
 case lookup t x k ok =>
  split at hc
  .rename_i kt e ht;simp only[Option.bind_eq_bind,jB]at hc;obtain⟨kk,hk,zero,hz,hc⟩:=hc;split at hc
   .rename_i hzs;simp only[Option.pure_def,jB,jC]at hc;obtain⟨x',h1,y',h2,rfl⟩:=hc;exact zgq hE hs hop ht hk hz hzs h1 h2 hv
   .cases hc
  .cases hc
 case mapUpdate t m k v0 =>
  split at hc
  .rename_i kt e ht;simp only[Option.bind_eq_bind,Option.pure_def,jB,jC]at hc;obtain⟨kk,hk,x',h1,y',h2,z',h3,rfl⟩:=hc;exact zmx hE hs hop ht hk h1 h2 h3 hv
  .cases hc
 case makeInterface t x =>
  split at hc
  .cases hc
  .cases hc
  .rename_i d hn1 hn2;simp only[Option.bind_eq_bind,Option.pure_def,jB,jC]at hc;obtain⟨x',h1,rfl⟩:=hc;cases hv;refine zgs hE hs hop ?_ h1;cases hd:P.underlying t with
   | none=>exact absurd hd (by assumption)
   | some d=>exact⟨d,rfl,fun m hm=>by subst hm;exact hn2 _ hd⟩
 case makeFunc f first caps =>
  cases f<;>simp only at hc<;>try (cases hc;done)
  split at hc
  case isFalse=>cases hc
  rename_i hlt;simp only[Option.bind_eq_bind,Option.pure_def,jB,jC]at hc;obtain⟨f',h1,c',h2,rfl⟩:=hc;cases hv;exact zgr hE hs hop hlt h1 h2
 case makeSlice t l c =>
  simp only[Option.bind_eq_bind,Option.pure_def,jB]at hc;obtain⟨e,he,zs,hz,hc⟩:=hc;split at hc
  .rename_i hh;simp only[jB,jC]at hc;obtain⟨l',h1,c',h2,rfl⟩:=hc;have ht:P.underlying t=some (.slice e):=by
    unfold qfl at he;split at he
    .cases he;assumption
    .cases he
   exact q4p hE hs hop ht hz hh.1 hh.2 h1 h2 hv
  .cases hc
 case slice t x lo hi mx =>
  split at hc
  .rename_i ht;split at hc
   .cases hc
   .rename_i hmx;simp only[Option.bind_eq_bind,Option.pure_def,jB,jC]at hc;obtain⟨x',h1,lo',h2,hi',h3,rfl⟩:=hc;have:mx=none:=by simpa using hmx
    subst this;simp only[exO]at hv;split at hv
    .split at hv
     .split at hv
      .rename_i hle;cases hv;exact zgx hE hs hop ht h1 h2 h3 (by assumption) (by assumption) (by assumption) hle.1 hle.2
      .cases hv
     .cases hv
    .cases hv
  .rename_i e ht;split at hc
   .rename_i hh;simp only[Option.bind_eq_bind,Option.pure_def,jB,jC]at hc;obtain⟨x',h1,lo',h2,hi',h3,mx',h4,rfl⟩:=hc;obtain⟨rfl,hd⟩:=zgw hE hs hop ht hh.1 h1 h2 h3 h4 (fun h=>by
     have:=hh.2;rw[h]at this;simpa using this) hv
    exact hd
   .cases hc
  .rename_i n e ht;split at hc
   .cases hc
   .rename_i hmz;simp only[Option.bind_eq_bind,Option.pure_def,jB,jC]at hc;obtain⟨x',h1,lo',h2,hi',h3,rfl⟩:=hc;have hmx:mx=none:=by
     cases mx with
     | none=>rfl
     | some y=>exact absurd (.inl rfl) hmz
    subst hmx;simp only[exO]at hv;split at hv
    .split at hv
     .split at hv
      .rename_i hle;cases hv;exact zgv hE hs hop ht (fun h=>hmz (.inr h)) h1 h2 h3 (by assumption) (by assumption) (by assumption) hle.1 hle.2
      .cases hv
     .cases hv
    .cases hv
  .cases hc
 case fieldAddr t x f =>
  split at hc
  .rename_i fs ht;simp only[Option.bind_eq_bind,jB]at hc;obtain⟨fd,hf,hc⟩:=hc;split at hc
   .rename_i hz;simp only[Option.pure_def,jB,jC]at hc;obtain⟨x',h1,rfl⟩:=hc;simp only[exO]at hv;split at hv
    .split at hv
     .cases hv;exact qsr hE hs hop ht hf hz h1 (.inl ⟨_,by assumption,rfl⟩)
     .cases hv
    .cases hv;exact qsr hE hs hop ht hf hz h1 (.inr (.inl ⟨_,_,_,_,by assumption,rfl⟩))
    .cases hv;exact qsr hE hs hop ht hf hz h1 (.inr (.inr ⟨_,_,by assumption,rfl⟩))
    .cases hv
   .cases hc
  .cases hc
 case field t x f =>
  split at hc
  .rename_i fs ht;simp only[Option.bind_eq_bind,Option.pure_def,jB,jC]at hc;obtain⟨fd,hf,z,hz,x',h1,rfl⟩:=hc;simp only[exO]at hv;split at hv
   .split at hv
    .cases hv;exact zms hE hs hop ht hf hz h1 (by assumption) (by assumption)
    .cases hv
   .cases hv
  .cases hc
 case indexAddr t x i =>
  split at hc
  .rename_i n e ht;split at hc
   .rename_i hz;simp only[Option.bind_eq_bind,Option.pure_def,jB,jC]at hc;obtain⟨x',h1,i',h2,rfl⟩:=hc;simp only[exO]at hv;split at hv
    .split at hv
     .rename_i hk;cases hv;exact qpu hE hs hop ht hz h1 h2 (by assumption) hk.1 (.inl ⟨_,by assumption,rfl⟩)
     .cases hv
    .split at hv
     .rename_i hk;cases hv;exact qpu hE hs hop ht hz h1 h2 (by assumption) hk (.inr (.inl ⟨_,_,_,_,by assumption,rfl⟩))
     .cases hv
    .split at hv
     .rename_i hk;cases hv;exact qpu hE hs hop ht hz h1 h2 (by assumption) hk (.inr (.inr ⟨_,_,by assumption,rfl⟩))
     .cases hv
    .cases hv
   .cases hc
  .rename_i e ht;split at hc
   .rename_i hz;simp only[Option.bind_eq_bind,Option.pure_def,jB,jC]at hc;obtain⟨x',h1,i',h2,rfl⟩:=hc;simp only[exO]at hv;split at hv
    .split at hv
     .split at hv
      .rename_i hk;cases hv;exact qlg hE hs hop ht hz h1 h2 (by assumption) (.inl ⟨_,_,by assumption,by assumption,hk,rfl⟩)
      .cases hv
     .cases hv
    .split at hv
     .rename_i hx _ hk;cases hv;rw[hk.2]at hx;exact qlg hE hs hop ht hz h1 h2 (by assumption) (.inr (.inl ⟨_,_,_,_,hx,hk.1,rfl⟩))
     .cases hv
    .split at hv
     .rename_i hx _ hk;cases hv;rw[hk.2]at hx;exact qlg hE hs hop ht hz h1 h2 (by assumption) (.inr (.inr (.inl ⟨_,_,_,hx,hk.1,rfl⟩)))
     .cases hv
    .split at hv
     .rename_i hx _ hk;cases hv;exact qlg hE hs hop ht hz h1 h2 (by assumption) (.inr (.inr (.inr ⟨_,hx,hk.1,hk.2,rfl⟩)))
     .cases hv
    .cases hv
   .cases hc
  .cases hc
 case index t x i =>
  split at hc
  .rename_i n e ht;simp only[Option.bind_eq_bind,jB]at hc;obtain⟨z,hz,hc⟩:=hc;split at hc
   .rename_i hh;simp only[Option.pure_def,jB,jC]at hc;obtain⟨x',h1,i',h2,rfl⟩:=hc;simp only[exO]at hv;split at hv
    .split at hv
     .split at hv
      .cases hv;exact zgm hE hs hop ht hz hh.1 hh.2 h1 h2 (by assumption) (by assumption) (by assumption) (by assumption)
      .cases hv
     .cases hv
    .cases hv
   .cases hc
  .rename_i ht;simp only[Option.bind_eq_bind,Option.pure_def,jB,jC]at hc;obtain⟨x',h1,i',h2,rfl⟩:=hc;simp only[exO]at hv;split at hv
   .split at hv
    .cases hv;exact zgn hE hs hop ht h1 h2 (by assumption) (by assumption) (by assumption)
    .cases hv
   .cases hv
  .cases hc
 case range t x =>
  split at hc
  .rename_i ht;simp only[jM]at hc;obtain⟨x',h1,rfl⟩:=hc;exact zmw hE hs hop ht h1 hv
  .cases hc
 case next x b =>
  cases b<;>simp only at hc<;>try (cases hc;done)
  simp only[jM]at hc;obtain⟨x',h1,rfl⟩:=hc;exact zmu hE hs hop h1 hv
 case extract x i =>
  simp only[jM]at hc;obtain⟨x',h1,rfl⟩:=hc;simp only[exO]at hv;split at hv
  .split at hv
   .cases hv;exact zmr hE hs hop h1 (by assumption) (by assumption)
   .cases hv
  .cases hv
 case call c =>
  split at hc
  .simp only[Option.bind_eq_bind,Option.pure_def,jB,jC]at hc;obtain⟨f',h1,as,h2,rfl⟩:=hc;cases hv
  .split at hc
   .simp only[Option.bind_eq_bind,Option.pure_def,jB,jC]at hc;obtain⟨as,h2,rfl⟩:=hc;cases hv
   .cases hc
  .cases hc
  .rename_i b hb;split at hc
   .rename_i x t e1 e2;split at hc
    .rename_i n e ht;cases hc;cases hv;exact q7s hE hop hb e1 e2 ht
    .rename_i ht;simp only[jM]at hc;obtain⟨x',h1,rfl⟩:=hc;simp only[exO]at hv;split at hv
     .cases hv;exact zaa hE hs hop hb e1 e2 (.inl ⟨rfl,ht⟩) h1 (by assumption)
     .cases hv
    .rename_i e ht;simp only[jM]at hc;obtain⟨x',h1,rfl⟩:=hc;simp only[exO]at hv;split at hv
     .cases hv;exact zaa hE hs hop hb e1 e2 (.inr ⟨rfl,_,ht⟩) h1 (by assumption)
     .cases hv
    .rename_i k e ht;simp only[jM]at hc;obtain⟨x',h1,rfl⟩:=hc;exact zgo hE hs hop hb e1 e2 ht h1 hv
    .cases hc
   .rename_i x t e1 e2;split at hc
    .rename_i e ht;simp only[jM]at hc;obtain⟨x',h1,rfl⟩:=hc;exact zmn hE hs hop hb e1 e2 ht h1 hv
    .cases hc
   .rename_i x y t u e1 e2;simp only[Option.bind_eq_bind,jB]at hc;obtain⟨e,he,zs,hz,hc⟩:=hc;have ht:P.underlying t=some (.slice e):=by
     unfold qfl at he;split at he
     .cases he;assumption
     .cases he
    split at hc
    .rename_i k hu;split at hc
     .rename_i hh;simp only[Option.pure_def,jB,jC]at hc;obtain⟨x',h1,y',h2,rfl⟩:=hc;exact zgj hE hs hop hb e1 e2 ht hu hz hh.1 hh.2.1 hh.2.2 h1 h2 hv
     .cases hc
    .rename_i e' hu;split at hc
     .rename_i hh;split at hc
      .simp only[Option.pure_def,jB,jC]at hc;obtain⟨x',h1,y',h2,rfl⟩:=hc;exact zgi hE hs hop hb e1 e2 ht hu hz hh.1 hh.2.1 hh.2.2 h1 h2 hv
      simp only[Option.pure_def,jB,jC]at hc;obtain⟨x',h1,y',h2,rfl⟩:=hc;exact zmk hE hs hop hb e1 e2 ht hu hz hh.1 hh.2.1 hh.2.2 h1 h2 hv
     .cases hc
    .cases hc
   .rename_i x t e1 e2;simp only[Option.bind_eq_bind,jB]at hc;obtain⟨e,he,zs,hz,hc⟩:=hc;have ht:P.underlying t=some (.slice e):=by
     unfold qfl at he;split at he
     .cases he;assumption
     .cases he
    split at hc
    .rename_i hh;simp only[Option.pure_def,jB,jC]at hc;obtain⟨x',h1,rfl⟩:=hc;exact zmo hE hs hop hb e1 e2 ht hh.1 hz hh.2 h1 hv
    .cases hc
   .rename_i x y e1;split at hc
    .simp only[Option.bind_eq_bind,Option.pure_def,jB,jC]at hc;obtain⟨x',h1,y',h2,rfl⟩:=hc;exact zgt hE hs (mn:=false) hop hb e1 h1 h2 hv
    .cases hc
   .rename_i x y e1;split at hc
    .simp only[Option.bind_eq_bind,Option.pure_def,jB,jC]at hc;obtain⟨x',h1,y',h2,rfl⟩:=hc;exact zgt hE hs (mn:=true) hop hb e1 h1 h2 hv
    .cases hc
   .cases hc
end
theorem q0n{P:Program}{E E':Env}(hE:Ok P E)(x:Ext E E')(hw:E'.w=E.w):∀{vs:List V} {us:List Value},qaj E vs us->(∀v∈vs,inS E E'.S v)->qaj E' (vs.map (qan E.h)) us
 | [],us,h,_=>by unfold qaj at *;exact h
 | v :: vs,us,h,hi=>by unfold qaj at h;obtain⟨u,us',rfl,h1,h2⟩:=h;simp only[List.map_cons];unfold qaj;exact⟨u,us',rfl,qth hE x hw h1 (hi v (by simp)),q0n hE x hw h2 (fun w hw=>hi w (by simp[hw]))⟩
theorem q6f{P:Program}{E E':Env}(hE:Ok P E)(x:Ext E E')(hw:E'.w=E.w){v:V}{u:Value}(h:rel E v u)(hi:∀c∈v.cells,inS E E'.S c):rel E' (qfq E.h v) u:=by
 cases v<;>try exact qth hE x hw h (hi _ (by simp[V.cells]))
 case agg cs =>unfold rel at h;obtain⟨us,rfl,hl⟩:=h;simp only[qfq];unfold rel;exact⟨us,rfl,q0n hE x hw hl hi⟩
 case tup vs=>simp only[qfq];unfold rel;trivial
theorem qtj{P:Program}{E E':Env}(hE:Ok P E)(x:Ext E E')(hw:E'.w=E.w):∀{vs:List V} {us:List Value},qaj E vs us->(∀v∈vs,∀c∈v.cells,inS E E'.S c)->qaj E' (vs.map (qfq E.h)) us
 | [],us,h,_=>by unfold qaj at *;exact h
 | v :: vs,us,h,hi=>by unfold qaj at h;obtain⟨u,us',rfl,h1,h2⟩:=h;simp only[List.map_cons];unfold qaj;exact⟨u,us',rfl,q6f hE x hw h1 (hi v (by simp)),qtj hE x hw h2 (fun w hw=>hi w (by simp[hw]))⟩
theorem zkh{P:Program}{E:Env}(hE:Ok P E){s:List V}{tmps:Array Value}(hs:qaj E s tmps.toList):∀{rs:List Go.ResultVar} {vs:List V},rvs ⟨s,E.h⟩ (rs.map (cRV P))=some vs ->
  ∃us,(rs.mapM fun r=>(match r with
   | .tmp t=>pure (tmps.getD t undef)
   | .cell a t=>do Go.loadVar t (<-Go.asAddr (tmps.getD a undef)):Sem Value)).run P E.w=.ok us E.w/\qaj E vs us
 | [],vs,h=>by simp only[List.map_nil,rvs,jC]at h;subst h;exact⟨[],by simp,by simp[qaj]⟩
 | r :: rs,vs,h=>by
  simp only[List.map_cons,rvs]at h;cases h1:rvV ⟨s,E.h⟩ (cRV P r)with
  | none=>rw[h1]at h;cases h
  | some v =>
   rw[h1]at h;cases h2:rvs ⟨s,E.h⟩ (rs.map (cRV P))with
   | none=>rw[h2]at h;cases h
   | some ws =>
    rw[h2]at h;cases h;obtain⟨us,k1,k2⟩:=zkh hE hs h2;have one:∃u,(match r with
     | .tmp t=>pure (tmps.getD t undef)
     | .cell a t=>do Go.loadVar t (<-Go.asAddr (tmps.getD a undef)):Sem Value).run P E.w=.ok u E.w/\rel E v u:=by
     cases r with
     | tmp t =>simp only[cRV,rvV,jC]at h1;subst h1;refine⟨_,rfl,?_⟩;have:=qlt t hs;rw[qqm];exact this
     | cell p t =>
      simp only[cRV]at h1;cases hz:szT P t with
      | none=>rw[hz]at h1;simp[rvV]at h1
      | some z =>rw[hz]at h1;simp only[rvV]at h1;have hp:=qlt p hs;rw[<-qqm]at hp;obtain⟨b,y,hu,u,q1,q2⟩:=q5n hE hz hp h1;refine⟨u,?_,q2⟩;simp only[hu,Go.asAddr,Sem.run_bind,Sem.run_pure,Go.Result.andThen_ok,q1]
    obtain⟨u,q1,q2⟩:=one;refine⟨u :: us,?_,?_⟩
    .rw[List.mapM_cons];simp only[Sem.run_bind,q1,Go.Result.andThen_ok,k1,Sem.run_pure]
    .unfold qaj;exact⟨u,us,rfl,q2,k2⟩
def zus(us:Array Value):Value:=if h:us.size=1 then us[0]else .tuple us
theorem q8r{P:Program}{E:Env}(hE:Ok P E){s:List V}{tmps:Array Value}(hs:qaj E s tmps.toList){fn:Go.Func}{vs:List V}(h:rvs ⟨s,E.h⟩ (fn.results.toList.map (cRV P))=some vs) :
  ∃us:List Value,(Go.results fn tmps).run P E.w=.ok (zus us.toArray) E.w/\qaj E vs us:=by
 obtain⟨us,h1,h2⟩:=zkh hE hs h;refine⟨us,?_,h2⟩;unfold Go.results;rw[Array.mapM_eq_mapM_toList];simp only[Sem.run_bind,map_eq_pure_bind,Sem.run_pure,zus];have h3:=congrArg (fun z:Result (List Value)=>(z.andThen fun a w'=>Result.ok a.toArray w').andThen fun a w'=>Result.ok (if h:a.size=1 then a[0]else Value.tuple a) w') h1;exact h3
theorem q2v{E:Env}{vs:List V}{us:List Value}(h:qaj E vs us):rel E (zev vs) (zus us.toArray):=by
 have hl:=qau h;cases vs with
 | nil =>unfold qaj at h;subst h;simp only[zev,zus];unfold rel;exact⟨#[],by simp,by simp[qaj]⟩
 | cons v vs =>
  unfold qaj at h;obtain⟨u,us',rfl,h1,h2⟩:=h;cases vs with
  | nil =>unfold qaj at h2;subst h2;simpa[zev,zus]using h1
  | cons w ws =>
   have:zus (u :: us').toArray=.tuple (u :: us').toArray:=by simp only[List.length_cons]at hl;unfold zus;rw[dif_neg (by simp;intro h;subst h;simp at hl)]
   rw[this];simp only[zev];unfold rel;exact⟨_,rfl,by unfold qaj;exact⟨u,us',rfl,h1,h2⟩⟩
def qcn(E:Env)(nx:Nat)(acc:List (Nat×Ob)):Env :=
 ⟨fun i=>if i<nx then E.b i else(acc[i-nx]?).bind fun p=>E.b p.1,E.S,qkd nx E.h++acc.map (·.2),E.w⟩
def qkl(E:Env)(nx:Nat)(acc:List (Nat×Ob)):Prop :=
 (∀(j:Nat) id ob,acc[j]?=some (id,ob)->nx<=id/\∃g n els k,E.h[id]?=some ⟨g,.arr n els⟩/\ob=⟨0,.arr n (els.take k)⟩)/\(acc.map (·.1)).Nodup
theorem qoo{E:Env}{nx:Nat}(hnx:nx<=E.h.length){acc:List (Nat×Ob)}{i:Nat}{o:Ob}(h:(qcn E nx acc).h[i]?=some o) :
  (i<nx/\∃o0,E.h[i]?=some o0/\o=qbx nx o0)\/(nx<=i/\∃id,acc[i-nx]?=some (id,o)):=by
 have hl:(qkd nx E.h).length=nx:=by rw[qeb];omega
 simp only[qcn]at h;by_cases hi:i<nx
 .rw[jI (by omega)]at h;obtain⟨_,o0,h1,h2⟩:=qhj h;exact .inl ⟨hi,o0,h1,h2⟩
 .rw[jJ (by omega),hl]at h;simp only[List.getElem?_map,jM]at h;obtain⟨p,h1,rfl⟩:=h;exact .inr ⟨by omega,p.1,h1⟩
theorem q0e{E:Env}{nx:Nat}(hnx:nx<=E.h.length)(acc:List (Nat×Ob)):Agree nx E (qcn E nx acc):=by
 have hl:(qkd nx E.h).length=nx:=by rw[qeb];omega
 refine⟨rfl,fun _ h=>h,fun i hi hil=>⟨by simp[qcn,hl];omega,?_,by simp[qcn,hi],fun o' ho'=>?_⟩⟩
 .unfold qgt;simp only[qcn];rw[jI (by omega)];exact qvl hi
 .rcases qoo hnx ho' with⟨_,o0,h1,rfl⟩ | ⟨h,_⟩
  .obtain⟨s1,s2,s3,s4,_⟩:=qdb nx o0;exact⟨o0,h1,s1.symm,s2.symm,s3.symm,s4.symm⟩
  .omega
theorem qup{n:Nat}{E E':Env}(x:Agree n E E'){v:V}{u:Value}(h:rel E v u):rel E' (qbf n v) u:=by
 unfold qbf;split
 .rename_i hl;exact qed x v u hl h
 .unfold rel;trivial
theorem quq{n:Nat}{E E':Env}(x:Agree n E E'):∀{vs:List V} {us:List Value},qaj E vs us->qaj E' (vs.map (qbf n)) us
 | [],_,h=>by unfold qaj at *;exact h
 | v :: vs,us,h=>by unfold qaj at h;obtain⟨u,us',h1,h2,h3⟩:=h;simp only[List.map_cons];unfold qaj;exact⟨u,us',h1,qup x h2,quq x h3⟩
theorem qlx{n:Nat}{E E':Env}(x:Agree n E E'):∀{vs:List V} {b o:Nat},qbb E vs b o->qbb E' (vs.map (qbf n)) b o
 | [],_,_,_=>by simp[qbb]
 | v :: vs,b,o,h=>by unfold qbb at h;obtain⟨⟨u,h1,h2⟩,h3⟩:=h;simp only[List.map_cons];unfold qbb;exact⟨⟨u,by rw[x.w];exact h1,qup x h2⟩,qlx x h3⟩
theorem qnn{n:Nat}{E E':Env}(x:Agree n E E'){m:Nat}:∀{rs:List (List V)} {b o:Nat},qak E m rs b o->qak E' m (rs.map fun r=>r.map (qbf n)) b o
 | [],_,_,_=>by simp[qak]
 | r :: rs,b,o,h=>by unfold qak at h;simp only[List.map_cons];unfold qak;exact⟨by simpa using h.1,qlx x h.2.1,qnn x h.2.2⟩
theorem zef{P:Program}{n:Nat}{E E':Env}(x:Agree n E E')(hS:E'.S=E.S){i:Nat}{o:Ob}(hr:qem P E i o)(hb:E'.b i=E.b i):qem P E' i (qbx n o):=by
 unfold qem at hr ⊢;unfold qbx;cases hk:o.k<;>rw[hk]at hr<;>simp only[hk]
 case box cells =>refine hr.imp (fun h=>hb.trans h) ?_;rintro⟨b,C,cs,ty,q1,q2,q3,q4,q5⟩;exact⟨b,C,cs,ty,hb.trans q1,by rw[hS];exact q2,by rw[x.w];exact q3,by simpa using q4,qlx x q5⟩
 case arr m els =>refine⟨hr.1,hr.2.imp (fun h=>⟨hb.trans h.1,h.2⟩) ?_⟩;rintro⟨b,C,cs,ty,q1,q2,q3,q4,q5,q6,q7⟩;exact⟨b,C,cs,ty,hb.trans q1,by rw[hS];exact q2,by rw[x.w];exact q3,q4,q5,q6,qds x _ _ _ _ hr.1 q7⟩
 case frz m els =>refine⟨hr.1,hr.2.imp (fun h=>⟨hb.trans h.1,h.2⟩) ?_⟩;rintro⟨b,C,cs,ty,q1,q2,q3,q4,q5,q6,q7⟩;exact⟨b,C,cs,ty,hb.trans q1,by rw[hS];exact q2,by rw[x.w];exact q3,q4,q5,q6,qds x _ _ _ _ hr.1 q7⟩
 case map es =>obtain⟨b,C,ms,cl,h1,h2,h3,h4⟩:=hr;exact⟨b,C,ms,cl,hb.trans h1,by rw[hS];exact h2,by rw[x.w];exact h3,qru x _ _ h4⟩
 case sit s p =>obtain⟨b,C,h1,h2,h3⟩:=hr;exact⟨b,C,hb.trans h1,by rw[hS];exact h2,by rw[x.w];exact h3⟩
 case loop sl ps a c p =>obtain⟨b,C,L,h1,h2,h3,h4,h5,h6,h7⟩:=hr;exact⟨b,C,L,hb.trans h1,by rw[hS];exact h2,by rw[x.w];exact h3,quq x h4,h5,h6,h7⟩
theorem qop{E:Env}{nx:Nat}(hnx:nx<=E.h.length){acc more:List (Nat×Ob)}{v:V}{u:Value}(hl:v.low (nx+acc.length)=true)(h:rel (qcn E nx acc) v u):rel (qcn E nx (acc++more)) v u:=by
 have hcl:(qkd nx E.h).length=nx:=by rw[qeb];omega
 have hget:∀i,i<nx+acc.length->(qcn E nx (acc++more)).h[i]?=(qcn E nx acc).h[i]?:=by intro i hi;simp only[qcn,List.map_append,<-List.append_assoc];rw[jI (by simp[hcl];omega)]
 refine qed (n:=nx+acc.length) (E:=qcn E nx acc) (E':=qcn E nx (acc++more)) ⟨rfl,fun _ h=>h,fun i hi hil=>⟨by simp[qcn,hcl]at hil ⊢;omega,?_,?_,fun o' ho'=>?_⟩⟩ v u hl h
 .unfold qgt;rw[hget i hi]
 .simp only[qcn];by_cases h:i<nx
  .simp[h]
  .simp only[if_neg h];rw[jI (by omega)]
 .rw[hget i hi]at ho';exact⟨o',ho',rfl,rfl,rfl,rfl⟩
theorem zum{P:Program}{E:Env}(hE:Ok P E){nx:Nat}(hnx:nx<=E.h.length){acc:List (Nat×Ob)}(ha:qkl E nx acc):Ok P (qcn E nx acc):=by
 have hag:=q0e hnx acc;refine⟨fun i o ho=>?_,fun i j o1 o2 b C C' h1 h2 f1 f2 b1 b2=>?_,hE.S⟩
 .rcases qoo hnx ho with⟨hi,o0,h1,rfl⟩ | ⟨hi,id,h1⟩
  .exact zef hag rfl (hE.obj i o0 h1) (by simp[qcn,hi])
  .obtain⟨hge,g,n,els,k,h2,rfl⟩:=ha.1 _ _ _ h1;have hr:=hE.obj id _ h2;unfold qem at hr ⊢;have hbi:(qcn E nx acc).b i=E.b id:=by simp[qcn,h1,show ¬i<nx by omega]
   rw[hbi];simp only;refine⟨qii hr.1,hr.2.imp (fun h=>⟨h.1,by rw[h.2];simp⟩) ?_⟩;rintro⟨b,C,cs,ty,q1,q2,q3,q4,q5,q6,q7⟩;exact⟨b,C,cs,ty,q1,q2,q3,q4,q5,by simp;omega,qds hag _ _ _ _ (qii hr.1) (qen k q7)⟩
 .have src:∀(i:Nat) (o:Ob),(qcn E nx acc).h[i]?=some o->o.k.isFrz=false->∃id o0,E.h[id]?=some o0/\o0.k.isFrz=false/\(qcn E nx acc).b i=E.b id/\((i<nx/\id=i)\/(nx<=i/\nx<=id/\∃ob,acc[i-nx]?=some (id,ob))):=by
   intro i o ho hf;rcases qoo hnx ho with⟨hi,o0,h1,rfl⟩ | ⟨hi,id,h1⟩
   .exact⟨i,o0,h1,by rw[<-(qdb nx o0).2.2.2.2];exact hf,by simp[qcn,hi],.inl ⟨hi,rfl⟩⟩
   .obtain⟨hge,g,n,els,k,h2,rfl⟩:=ha.1 _ _ _ h1;exact⟨id,_,h2,rfl,by simp[qcn,h1,show ¬i<nx by omega],.inr ⟨hi,hge,_,h1⟩⟩
  obtain⟨i',o1',p1,p2,p3,p4⟩:=src i o1 h1 f1;obtain⟨j',o2',r1,r2,r3,r4⟩:=src j o2 h2 f2;have hij:=hE.inj i' j' o1' o2' b C C' p1 r1 p2 r2 (by rw[<-p3];exact b1) (by rw[<-r3];exact b2);subst hij;rcases p4 with⟨a1,a2⟩ | ⟨a1,a2,ob,a3⟩<;>rcases r4 with⟨c1,c2⟩ | ⟨c1,c2,ob',c3⟩
  .omega
  .omega
  .omega
  .have hlt1:=(jG.1 a3).1;have hlt2:=(jG.1 c3).1;have:=(List.getElem?_inj (i:=i-nx) (j:=j-nx) (l:=acc.map (·.1)) (by simpa using hlt1) ha.2).1 (by simp[a3,c3]);omega
theorem zog{E0 E:Env}(x:Ext E0 E){nx:Nat}(h:E0.h.length<=nx)(hnx:nx<=E.h.length){acc:List (Nat×Ob)}(ha:qkl E nx acc):Ext E0 (qcn E nx acc):=by
 have hl:(qkd nx E.h).length=nx:=by rw[qeb];omega
 have hlow:∀i,i<E0.h.length->(qcn E nx acc).h[i]?=(q1w nx E).h[i]?:=by intro i hi;simp only[qcn,q1w];rw[jI (by omega)]
 have y:=qst x h;refine⟨⟨x.S,x.size,x.keep,fun b hb hm=>?_,?_,fun i hi=>?_,fun i o' hi ho' hc=>?_,x.os,x.output,fun i o' hi ho'=>?_⟩,x.back,fun i g cells h1 h2 h3=>?_⟩
 .obtain⟨i,o,C,h1,h2,h3⟩:=hm;rcases qoo hnx h1 with⟨hi,o0,q1,rfl⟩ | ⟨hi,id,q1⟩
  .exact x.muts b hb ⟨i,o0,C,q1,by simpa[qcn,hi]using h2,by rw[<-(qdb nx o0).2.2.2.2];exact h3⟩
  .obtain⟨hge,g,n,els,k,q2,rfl⟩:=ha.1 _ _ _ q1;exact x.muts b hb ⟨id,_,C,q2,by simpa[qcn,q1,show ¬i<nx by omega]using h2,rfl⟩
 .simp[qcn,hl];omega
 .have:=y.gen i hi;unfold qgt at this ⊢;rw[hlow i hi];exact this
 .rw[hlow i hi]at ho';obtain⟨o,r1,r2,r3,r4,r5,r6⟩:=y.obj i o' hi ho' hc;have hbi:(qcn E nx acc).b i=(q1w nx E).b i:=by simp[qcn,q1w,show i<nx by omega]
  exact⟨o,r1,r2,r3,r4,fun z hz=>by rw[hbi];exact r5 z hz,fun ht=>by rw[hbi];exact r6 ht⟩
 .rw[hlow i hi]at ho';exact y.tags i o' hi ho'
 .obtain⟨q1,q2⟩:=y.free i g cells h1 h2 h3;have hi:=qbe h1;exact⟨by rw[hlow i hi];exact q1,by rw[<-q2];simp[qcn,q1w,show i<nx by omega]⟩
theorem qvm{P:Program}{E:Env}(hE:Ok P E){nx:Nat}(hnx:nx<=E.h.length){acc:List (Nat×Ob)}(ha:qkl E nx acc){v:V}{u:Value}(h:rel E v u) :
  qkl E nx (qdz nx E.h acc v).2/\(∃more,(qdz nx E.h acc v).2=acc++more)/\(qdz nx E.h acc v).1.low (nx+(qdz nx E.h acc v).2.length)=true/\rel (qcn E nx (qdz nx E.h acc v).2) (qdz nx E.h acc v).1 u:=by
 have same:∀w:V,w.low nx=true->rel E w u->qkl E nx acc/\(∃more,acc=acc++more)/\w.low (nx+acc.length)=true/\rel (qcn E nx acc) w u :=
  fun w hl hr=>⟨ha,⟨[],by simp⟩,qer (by omega) w hl,qed (q0e hnx acc) w u hl hr⟩
 have undef:qkl E nx acc/\(∃more,acc=acc++more)/\V.undef.low (nx+acc.length)=true/\rel (qcn E nx acc) .undef u :=
  ⟨ha,⟨[],by simp⟩,rfl,by unfold rel;trivial⟩
 have scr:qkl E nx acc/\(∃more,acc=acc++more)/\(qbf nx v).low (nx+acc.length)=true/\rel (qcn E nx acc) (qbf nx v) u:=by
  unfold qbf;split
  .rename_i hl;exact same v hl h
  .exact undef
 cases v<;>try exact scr
 case sl id gen m off len =>
  simp only[qdz];split
  .rename_i hlt;exact same _ (by simp[V.low,hlt]) h
  .rename_i hge;cases hob:E.h[id]? with
   | none=>exact undef
   | some ob =>
    obtain⟨g,k⟩:=ob;cases k<;>try exact undef
    case arr n els =>
     simp only;split
     .rename_i hc;obtain⟨rfl,rfl,rfl,hle,hnin⟩:=hc;have hif:(if len=els.length then els else els.take len)=els.take len:=by
       split
       .rename_i e;rw[e,List.take_length]
       .rfl
      rw[hif];have hnew:(acc++[(id,(⟨0,.arr m (els.take len)⟩:Ob))])[acc.length]?=some (id,⟨0,.arr m (els.take len)⟩):=by simp
      refine⟨⟨fun j i ob hj=>?_,?_⟩,⟨_,rfl⟩,by simp[V.low],?_⟩
      .by_cases hj':j<acc.length
       .rw[jI hj']at hj;exact ha.1 j i ob hj
       .rw[jJ (by omega)]at hj;have h0:j-acc.length=0:=by
         have:=(jG.1 hj).1;simp at this;omega
        rw[h0]at hj;simp at hj;obtain⟨rfl,rfl⟩:=hj;exact⟨by omega,g,m,els,len,hob,rfl⟩
      .rw[List.map_append,List.nodup_append];refine⟨ha.2,by simp,fun a hin b hb=>?_⟩;simp at hb;subst hb;simp only[jP,bne_iff_ne]at hnin;obtain⟨p,hp,rfl⟩:=List.mem_map.1 hin;exact hnin p hp
      .unfold rel at h ⊢;obtain⟨_,_,a,cap,hu,hc1,hc2,hc3,h3⟩:=h;have hcl:(qkd nx E.h).length=nx:=by rw[qeb];omega
       refine⟨by simp[qcn,hcl],by simp,a,cap,hu,hc1,hc2,hc3,fun o ho _ _=>?_⟩;obtain⟨_,h5,h6⟩:=h3 _ hob rfl rfl;rcases qoo hnx ho with⟨hi,_⟩ | ⟨_,id',h7⟩
       .omega
       .rw[show nx+acc.length-nx=acc.length by omega,hnew]at h7;cases h7;have hbi:(qcn E nx (acc++[(id,(⟨0,.arr m (els.take len)⟩:Ob))])).b (nx+acc.length)=E.b id:=by
         simp only[qcn,if_neg (show ¬(nx+acc.length<nx)by omega),show nx+acc.length-nx=acc.length by omega,hnew,Option.bind_some]
        rw[hbi];exact⟨by simp[qmi];omega,by simp[qco],h6⟩
     .exact undef
    case frz n els =>
     have hi:inS E E.S (.sl id gen m off len):=by
      intro u hu;have hr:=z8s hE (S':=E.S) (fun _ h=>h) hu (fun b C o hb ho _=>by
       rw[hob]at ho;cases ho;have hr:=hE.obj id _ hob;unfold qem at hr;rcases hr.2 with h | ⟨b',C'',cs,ty,q1,q2,_⟩
       .rw[hb]at h;cases h.1
       .rw[hb]at q1;cases q1;exact q2)
      exact hr
     have hp:=qgd E.h (.sl id gen m off len) (.inr ⟨id,gen,m,off,len,rfl⟩);have hr:=qij hE (fun _ h=>h) h hi;have hr2:=qed (n:=0) (E:=⟨E.b,E.S,E.h,E.w⟩) (E':=qcn E nx acc) ⟨rfl,fun _ h=>h,fun i hi=>absurd hi (Nat.not_lt_zero _)⟩ (qan E.h (.sl id gen m off len)) u hp hr;exact⟨ha,⟨[],by simp⟩,qer (Nat.zero_le _) _ hp,hr2⟩
theorem zba{P:Program}{E:Env}(hE:Ok P E){nx:Nat}(hnx:nx<=E.h.length):∀{vs:List V} {us:List Value} {acc:List (Nat×Ob)},qkl E nx acc->qaj E vs us ->
  qkl E nx (qmj nx E.h acc vs).2/\(∃more,(qmj nx E.h acc vs).2=acc++more)/\qeq (nx+(qmj nx E.h acc vs).2.length) (qmj nx E.h acc vs).1=true/\qaj (qcn E nx (qmj nx E.h acc vs).2) (qmj nx E.h acc vs).1 us
 | [],us,acc,ha,h=>⟨ha,⟨[],by simp[qmj]⟩,rfl,by unfold qaj at *;exact h⟩
 | v :: vs,us,acc,ha,h=>by
  unfold qaj at h;obtain⟨u,us',rfl,h1,h2⟩:=h;obtain⟨k1,⟨m1,k2⟩,k3,k4⟩:=qvm hE hnx ha h1;obtain⟨r1,⟨m2,r2⟩,r3,r4⟩:=zba hE hnx k1 h2;simp only[qmj];refine⟨r1,⟨m1++m2,by rw[r2,k2,List.append_assoc]⟩,?_,?_⟩
  .simp only[qeq,jE];exact⟨qer (by rw[r2];simp) _ k3,r3⟩
  .unfold qaj;refine⟨u,us',rfl,?_,r4⟩;rw[r2];exact qop hnx k3 k4
theorem zof{P:Program}{E:Env}(hE:Ok P E){nx:Nat}(hnx:nx<=E.h.length){acc:List (Nat×Ob)}(ha:qkl E nx acc){v:V}{u:Value}(h:rel E v u) :
  qkl E nx (qel nx E.h acc v).2/\(∃more,(qel nx E.h acc v).2=acc++more)/\(qel nx E.h acc v).1.low (nx+(qel nx E.h acc v).2.length)=true/\rel (qcn E nx (qel nx E.h acc v).2) (qel nx E.h acc v).1 u:=by
 cases v<;>try exact qvm hE hnx ha h
 case agg cs =>unfold rel at h;obtain⟨us,rfl,hl⟩:=h;obtain⟨r1,r2,r3,r4⟩:=zba hE hnx ha hl;simp only[qel];exact⟨r1,r2,by simpa[V.low]using r3,by unfold rel;exact⟨us,rfl,r4⟩⟩
theorem q5w{P:Program}{E:Env}(hE:Ok P E){nx:Nat}(hnx:nx<=E.h.length):∀{vs:List V} {us:List Value} {acc:List (Nat×Ob)},qkl E nx acc->qaj E vs us ->
  qkl E nx (qch nx E.h acc vs).2/\(∃more,(qch nx E.h acc vs).2=acc++more)/\qaj (qcn E nx (qch nx E.h acc vs).2) (qch nx E.h acc vs).1 us
 | [],us,acc,ha,h=>⟨ha,⟨[],by simp[qch]⟩,by unfold qaj at *;exact h⟩
 | v :: vs,us,acc,ha,h=>by unfold qaj at h;obtain⟨u,us',rfl,h1,h2⟩:=h;obtain⟨k1,⟨m1,k2⟩,k3,k4⟩:=zof hE hnx ha h1;obtain⟨r1,⟨m2,r2⟩,r4⟩:=q5w hE hnx k1 h2;simp only[qch];refine⟨r1,⟨m1++m2,by rw[r2,k2,List.append_assoc]⟩,?_⟩;unfold qaj;refine⟨u,us',rfl,?_,r4⟩;rw[r2];exact qop hnx k3 k4
theorem znw{P:Program}{E0 E:Env}(hE:Ok P E)(x:Ext E0 E){s:List V}{tmps:Array Value}(hs:qaj E s tmps.toList){fn:Go.Func}{g:Fun}(hg:g.results=fn.results.toList.map (cRV P)){v:V}{h':H}
  (hv:qme g E0.h.length ⟨s,E.h⟩=some (v,h')):∃E' u,(Go.results fn tmps).run P E.w=.ok u E.w/\Ok P E'/\Ext E0 E'/\E'.w=E.w/\E'.h=h'/\rel E' v u:=by
 unfold qme at hv;rw[hg]at hv;cases hr:rvs ⟨s,E.h⟩ (fn.results.toList.map (cRV P))with
 | none=>rw[hr]at hv;cases hv
 | some vs =>
  rw[hr]at hv;simp only at hv;obtain⟨us,h1,h2⟩:=q8r hE hs hr;split at hv
  .cases hv;obtain⟨r1,⟨m,r2⟩,r4⟩:=q5w hE x.len (acc:=[]) ⟨fun j id ob h=>by simp at h,by simp⟩ h2;exact⟨_,_,h1,zum hE x.len r1,zog x (jD _) x.len r1,rfl,rfl,q2v r4⟩
  .obtain⟨E1,b1,b2,b3,b4,b5,b6⟩:=qwt hE vs;have hr1:=qtj hE b2 b4 h2 b6;split at hv
   .rename_i hp;cases hv;have hcut:=qjw (n:=0) (E:=E1) (E':=qkm E0.h.length E1) ⟨qmt _ _,fun b h=>by unfold qkm;split<;>exact h,fun i hi=>absurd hi (Nat.not_lt_zero _)⟩ _ _ hp hr1;exact⟨qkm E0.h.length E1,_,h1,qwe b1 _,qoj (x.trans b2) (jD _),by rw[qmt];exact b4,by rw[qsq,b3],q2v hcut⟩
   .cases hv;exact⟨E1,_,h1,b1,x.trans b2,b4,b3,q2v hr1⟩
def qsn(S:Nat->Prop)(w:World):Env:=⟨fun _=>none,S,[],w⟩
theorem zfq{P:Program}{S:Nat->Prop}{w:World}(h:∀b,S b->b<w.heap.size):Ok P (qsn S w) :=
 ⟨fun id o ho=>by simp[qsn]at ho,fun i j o1 o2 b C C' h1=>by simp[qsn]at h1,h⟩
theorem qve{S:Nat->Prop}{w:World}{b:Nat}:¬Mut (qsn S w) b:=by rintro⟨id,o,C,h,_⟩;simp[qsn]at h
theorem zly{E:Env}{v:V}{u:Value}(hp:v.pure=true)(h:rel E v u):rel (qsn E.S E.w) v u :=
 qed (n:=0) (E:=E) (E':=qsn E.S E.w) ⟨rfl,fun _ h=>h,fun _ hi=>absurd hi (Nat.not_lt_zero _)⟩ v u hp h
theorem zfr{E:Env}{vs:List V}{us:List Value}(hp:zjx vs=true)(h:qaj E vs us):qaj (qsn E.S E.w) vs us :=
 qjw (n:=0) (E:=E) (E':=qsn E.S E.w) ⟨rfl,fun _ h=>h,fun _ hi=>absurd hi (Nat.not_lt_zero _)⟩ vs us hp h
def qca(E:Env)(S':Nat->Prop)(E':Env):Env:=⟨fun i=>if i<E.h.length then E.b i else E'.b (i-E.h.length),S',E.h++E'.h,E'.w⟩
theorem qrk{E E':Env}{S':Nat->Prop}{i:Nat}{o:Ob}(h:(qca E S' E').h[i]?=some o):(i<E.h.length/\E.h[i]?=some o/\(qca E S' E').b i=E.b i)\/(E.h.length<=i/\E'.h[i-E.h.length]?=some o/\(qca E S' E').b i=E'.b (i-E.h.length)):=by
 simp only[qca]at h ⊢;by_cases hi:i<E.h.length
 .rw[jI hi]at h;exact .inl ⟨hi,h,if_pos hi⟩
 .rw[jJ (by omega)]at h;exact .inr ⟨by omega,h,if_neg hi⟩
theorem zay{P:Program}{E E':Env}{S1 S':Nat->Prop}(hE:Ok P E)(hE':Ok P E')(x:Ext (qsn S1 E.w) E')(harr:E'.h.all (fun o=>o.k.isArr)=true)
  (hS:∀b,E.S b->S' b) (hback:∀b,b<E.w.heap.size->S' b->E.S b) (hS':∀b,S' b->E'.S b)
  (hrow:∀(j:Nat) g n els b o,E'.h[j]?=some ⟨g,.arr n els⟩->qak E' n els b o->qak (qca E S' E') n els b o):Ok P (qca E S' E')/\Ext E (qca E S' E'):=by
 have keep:∀b,b<E.w.heap.size->E'.w.heap[b]?=E.w.heap[b]?:=fun b hb=>x.keep b hb qve;have newm:∀b,Mut E' b->¬b<E.w.heap.size:=fun b hm hb=>qve (x.muts b hb hm);have hgetlow:∀i,i<E.h.length->(qca E S' E').h[i]?=E.h[i]?:=fun i hi=>jI hi;have hblow:∀i,i<E.h.length->(qca E S' E').b i=E.b i:=fun i hi=>if_pos hi;have X:Ext E (qca E S' E'):=by
  refine⟨⟨hS,x.size,fun b hb _=>keep b hb,fun b hb hm=>?_,by simp[qca],fun i hi=>?_,fun i o' hi ho' _=>?_,x.os,x.output,fun i o' hi ho'=>?_⟩,fun b hb h=>.inl (hback b hb h),fun i g cells h1 h2 _=>⟨by rw[hgetlow i (qbe h1)];exact h1,by rw[hblow i (qbe h1)];exact h2⟩⟩
  .obtain⟨i,o,C,h1,h2,h3⟩:=hm;rcases qrk h1 with⟨_,q1,q2⟩ | ⟨_,q1,q2⟩
   .exact⟨i,o,C,q1,by rw[<-q2];exact h2,h3⟩
   .exact absurd hb (newm b ⟨_,o,C,q1,by rw[<-q2];exact h2,h3⟩)
  .simp only[qgt,hgetlow i hi];exact jD _
  .exact⟨o',by rw[<-hgetlow i hi];exact ho',rfl,rfl,jD _,fun z hz=>by rw[hblow i hi];exact hz,fun _=>hblow i hi⟩
  .exact⟨o',by rw[<-hgetlow i hi];exact ho',rfl⟩
 refine⟨⟨fun i o ho=>?_,fun i j o1 o2 b C C' h1 h2 f1 f2 b1 b2=>?_,fun b hb=>hE'.S b (hS' b hb)⟩,X⟩
 .rcases qrk ho with⟨hi,q1,q2⟩ | ⟨hi,q1,q2⟩
  .refine qhs hE X (hE.obj i o q1) q2 fun b C hb=>⟨keep b (hE.bound q1 hb),fun hf hSb=>?_⟩
   exact hE.notS q1 hf hb (hback b (hE.bound q1 hb) hSb)
  .have hr:=hE'.obj _ o q1;have ha:o.k.isArr=true:=(jP.1 harr) o (jR q1);obtain⟨g,k⟩:=o;cases k<;>try (simp[K.isArr]at ha;done)
   rename_i n els;unfold qem at hr ⊢;rw[q2];refine⟨hr.1,hr.2.imp (fun h=>h) ?_⟩;rintro⟨b,C,cs,ty,r1,r2,r3,r4,r5,r6,r7⟩;exact⟨b,C,cs,ty,r1,fun h=>r2 (hS' b h),r3,r4,r5,r6,hrow _ _ _ _ _ _ q1 r7⟩
 .rcases qrk h1 with⟨l1,p1,p2⟩ | ⟨l1,p1,p2⟩<;>rcases qrk h2 with⟨l2,q1,q2⟩ | ⟨l2,q1,q2⟩
  .exact hE.inj i j o1 o2 b C C' p1 q1 f1 f2 (by rw[<-p2];exact b1) (by rw[<-q2];exact b2)
  .have h3:=hE.bound p1 (by rw[<-p2];exact b1);exact absurd h3 (newm b ⟨_,o2,C',q1,by rw[<-q2];exact b2,f2⟩)
  .have h3:=hE.bound q1 (by rw[<-q2];exact b2);exact absurd h3 (newm b ⟨_,o1,C,p1,by rw[<-p2];exact b1,f1⟩)
  .have:=hE'.inj _ _ o1 o2 b C C' p1 q1 f1 f2 (by rw[<-p2];exact b1) (by rw[<-q2];exact b2);omega
theorem qfo{E E':Env}{S':Nat->Prop}(i:Nat):(qca E S' E').h[E.h.length+i]?=E'.h[i]?/\(qca E S' E').b (E.h.length+i)=E'.b i:=by
 constructor
 .simp only[qca];rw[jJ (by omega),Nat.add_sub_cancel_left]
 .simp only[qca];rw[if_neg (by omega),Nat.add_sub_cancel_left]
theorem qll{E E':Env}{S':Nat->Prop}{i:Nat}{o:Ob}(h:(qca E S' E').h[E.h.length+i]?=some o):∃o',E'.h[i]?=some o'/\o.gen=o'.gen/\qje o.k=qje o'.k/\qco o.k=qco o'.k/\qmi o.k=qmi o'.k:=by rw[(qfo i).1]at h;exact⟨o,h,rfl,rfl,rfl,rfl⟩
theorem q5t{E E':Env}{S':Nat->Prop}(i:Nat):qgt (qca E S' E').h (E.h.length+i)=qgt E'.h i:=by simp only[qgt,(qfo (E:=E) (E':=E') (S':=S') i).1]
theorem zbs{E E':Env}{S':Nat->Prop}{id g n off len:Nat}{u:Value}(h:rel E' (.sl id g n off len) u):rel (qca E S' E') (.sl (E.h.length+id) g n off len) u:=by unfold rel at *;obtain⟨h1,h2,a,cap,h3,h4,h5,h6,h7⟩:=h;refine⟨by simp[qca,h1],by rw[q5t];exact h2,a,cap,h3,h4,h5,h6,fun o ho=>?_⟩;obtain⟨o',ho',s1,s2,s3,s4⟩:=qll ho;rw[(qfo id).2];simp only[s1,s2,s3,s4];exact h7 o' ho'
theorem qqj(n:Nat):∀vs:List V,(qdf n vs).length=vs.length
 | []=>rfl
 | v :: vs=>by simp only[qdf,List.length_cons,qqj n vs]
mutual
theorem qyp{E E':Env}{S':Nat->Prop}(hS:∀b,E'.S b->S' b):∀(v:V) (u:Value),rel E' v u->rel (qca E S' E') (qcs E.h.length v) u
 | .undef,_,_=>by unfold qcs rel;trivial
 | .bool b,u,h=>by simp only[qcs];unfold rel at *;exact h
 | .int k n,u,h=>by simp only[qcs];unfold rel at *;exact h
 | .str s,u,h=>by simp only[qcs];unfold rel at *;exact h
 | .nils,u,h=>by simp only[qcs];unfold rel at *;exact h
 | .nilx,u,h=>by simp only[qcs];unfold rel at *;exact h
 | .imm els,u,h=>by simp only[qcs];exact qed (n:=0) (E:=E') (E':=qca E S' E') ⟨rfl,hS,fun i hi=>absurd hi (Nat.not_lt_zero _)⟩ _ _ rfl h
 | .immc els,u,h=>by simp only[qcs];exact qed (n:=0) (E:=E') (E':=qca E S' E') ⟨rfl,hS,fun i hi=>absurd hi (Nat.not_lt_zero _)⟩ _ _ rfl h
 | .iptr cells,u,h=>by simp only[qcs];exact qed (n:=0) (E:=E') (E':=qca E S' E') ⟨rfl,hS,fun i hi=>absurd hi (Nat.not_lt_zero _)⟩ _ _ rfl h
 | .bptr id off,u,h=>by simp only[qcs];unfold rel at *;obtain⟨h1,b,y,h2,h3⟩:=h;refine⟨by simp[qca,h1],b,y,h2,fun o ho=>?_⟩;obtain⟨o',ho',s1,s2,s3,s4⟩:=qll ho;rw[(qfo id).2];simp only[s1,s2,s3,s4];exact h3 o' ho'
 | .ptr id g el off,u,h=>by simp only[qcs];unfold rel at *;obtain⟨h1,h0,b,y,h2,h3⟩:=h;refine⟨by simp[qca,h1],by rw[q5t];exact h0,b,y,h2,fun o ho=>?_⟩;obtain⟨o',ho',s1,s2,s3,s4⟩:=qll ho;rw[(qfo id).2];simp only[s1,s2,s3,s4];exact h3 o' ho'
 | .sl id g n off len,u,h=>by simp only[qcs];exact zbs h
 | .bsl id off n len,u,h=>by simp only[qcs];unfold rel at *;obtain⟨h1,b,y,cap,h2,hc,h3⟩:=h;refine⟨by simp[qca,h1],b,y,cap,h2,hc,fun hn o ho=>?_⟩;obtain⟨o',ho',s1,s2,s3,s4⟩:=qll ho;rw[(qfo id).2];simp only[s1,s2,s3,s4];exact h3 hn o' ho'
 | .agg cs,u,h=>by simp only[qcs];unfold rel at *;obtain⟨us,h1,h2⟩:=h;exact⟨us,h1,qla hS cs us.toList h2⟩
 | .tup cs,u,h=>by simp only[qcs];unfold rel at *;obtain⟨us,h1,h2⟩:=h;exact⟨us,h1,qla hS cs us.toList h2⟩
 | .fn f a c,u,h=>by simp only[qcs];unfold rel at *;obtain⟨a',c',h1,h2,h3⟩:=h;exact⟨a',c',h1,qla hS a a'.toList h2,qla hS c c'.toList h3⟩
 | .ub,u,h=>by simp only[qcs];unfold rel at *;exact h
 | .nilfn,u,h=>by simp only[qcs];unfold rel at *;exact h
 | .nilp,u,h=>by simp only[qcs];unfold rel at *;exact h
 | .map id,u,h=>by simp only[qcs];unfold rel at *;obtain⟨h1,b,h2,h3⟩:=h;refine⟨by simp[qca,h1],b,h2,fun o ho=>?_⟩;obtain⟨o',ho',s1,s2,s3,s4⟩:=qll ho;rw[(qfo id).2];simp only[s1,s2,s3,s4];exact h3 o' ho'
 | .sit id,u,h=>by simp only[qcs];unfold rel at *;obtain⟨h1,b,h2,h3⟩:=h;refine⟨by simp[qca,h1],b,h2,fun o ho=>?_⟩;obtain⟨o',ho',s1,s2,s3,s4⟩:=qll ho;rw[(qfo id).2];simp only[s1,s2,s3,s4];exact h3 o' ho'
 | .yld id,u,h=>by simp only[qcs];unfold rel at *;obtain⟨h1,b,h2,h3⟩:=h;refine⟨by simp[qca,h1],b,h2,fun o ho=>?_⟩;obtain⟨o',ho',s1,s2,s3,s4⟩:=qll ho;rw[(qfo id).2];simp only[s1,s2,s3,s4];exact h3 o' ho'
 | .view p cells,u,h=>by simp only[qcs];unfold rel at *;obtain⟨b,o,h1,h2,h3⟩:=h;exact⟨b,o,hS b h1,qqk hS cells b o h2,by rw[qqj];exact h3⟩
theorem qqk{E E':Env}{S':Nat->Prop}(hS:∀b,E'.S b->S' b):∀(vs:List V) (b o:Nat),qbb E' vs b o->qbb (qca E S' E') (qdf E.h.length vs) b o
 | [],_,_,_=>by simp only[qdf];unfold qbb;trivial
 | v :: vs,b,o,h=>by simp only[qdf];unfold qbb at *;obtain⟨⟨u,h1,h2⟩,h3⟩:=h;exact⟨⟨u,h1,qyp hS v u h2⟩,qqk hS vs b (o+1) h3⟩
theorem qla{E E':Env}{S':Nat->Prop}(hS:∀b,E'.S b->S' b):∀(vs:List V) (us:List Value),qaj E' vs us->qaj (qca E S' E') (qdf E.h.length vs) us
 | [],us,h=>by simp only[qdf];unfold qaj at *;exact h
 | v :: vs,us,h=>by simp only[qdf];unfold qaj at *;obtain⟨u,us',h1,h2,h3⟩:=h;exact⟨u,us',h1,qyp hS v u h2,qla hS vs us' h3⟩
end
theorem qsd{E E':Env}{S':Nat->Prop}(hS:∀b,E'.S b->S' b){n:Nat}:∀(rs:List (List V)) (b o:Nat),qak E' n rs b o->qak (qca E S' E') n (rs.map fun r=>qdf E.h.length r) b o
 | [],_,_,_=>by simp[qak]
 | r :: rs,b,o,h=>by unfold qak at h;simp only[List.map_cons];unfold qak;exact⟨by rw[qqj];exact h.1,qqk hS r b o h.2.1,qsd hS rs b (o+n) h.2.2⟩
theorem zki{E E':Env}{v:V}{u:Value}(hv:v.scal1=true)(h:rel E v u):rel E' v u:=by cases v<;>first | (simp[V.scal1]at hv;done) | (unfold rel at *;exact h)
theorem q0y{E E':Env}(hw:E'.w=E.w):∀{vs:List V} {b o:Nat},vs.all V.scal1=true->qbb E vs b o->qbb E' vs b o
 | [],_,_,_,_=>by unfold qbb;trivial
 | v :: vs,b,o,hv,h=>by simp only[List.all_cons,jE]at hv;unfold qbb at *;obtain⟨⟨u,h1,h2⟩,h3⟩:=h;exact⟨⟨u,by rw[hw];exact h1,zki hv.1 h2⟩,q0y hw hv.2 h3⟩
theorem qun{E E':Env}(hw:E'.w=E.w){n:Nat}:∀{rs:List (List V)} {b o:Nat},(rs.all fun r=>r.all V.scal1)=true->qak E n rs b o->qak E' n rs b o
 | [],_,_,_,_=>by unfold qak;trivial
 | r :: rs,b,o,hv,h=>by simp only[List.all_cons,jE]at hv;unfold qak at *;exact⟨h.1,q0y hw (by simpa using hv.1) h.2.1,qun hw hv.2 h.2.2⟩
theorem qyi{E E':Env}{S':Nat->Prop}{v:V}{u:Value}(hv:v.safe1=true)(h:rel E' v u):rel (qca E S' E') (qcs E.h.length v) u:=by
 cases v<;>try (simp[V.safe1]at hv;done)
 case sl=>simp only[qcs];exact zbs h
 all_goals
  simp only[qcs];unfold rel at *;exact h
theorem q6m{E E':Env}{S':Nat->Prop}:∀{vs:List V} {us:List Value},vs.all V.safe1=true->qaj E' vs us->qaj (qca E S' E') (qdf E.h.length vs) us
 | [],us,_,h=>by simp only[qdf];unfold qaj at *;exact h
 | v :: vs,us,hv,h=>by simp only[List.all_cons,jE]at hv;simp only[qdf];unfold qaj at *;obtain⟨u,us',h1,h2,h3⟩:=h;exact⟨u,us',h1,qyi hv.1 h2,q6m hv.2 h3⟩
theorem zbo{E E':Env}{S':Nat->Prop}{cs:List V}{u:Value}(hv:cs.all V.safe1=true)(h:rel E' (.agg cs) u):rel (qca E S' E') (qcs E.h.length (.agg cs)) u:=by simp only[qcs];unfold rel at *;obtain⟨us,h1,h2⟩:=h;exact⟨us,h1,q6m hv h2⟩
theorem q6n{E E':Env}{S':Nat->Prop}:∀{vs:List V} {us:List Value},(vs.all fun v=>match v with | .agg cs=>cs.all V.safe1 | v=>v.safe1)=true->qaj E' vs us->qaj (qca E S' E') (qdf E.h.length vs) us
 | [],us,_,h=>by simp only[qdf];unfold qaj at *;exact h
 | v :: vs,us,hv,h=>by
  simp only[List.all_cons,jE]at hv;simp only[qdf];unfold qaj at *;obtain⟨u,us',h1,h2,h3⟩:=h;refine⟨u,us',h1,?_,q6n hv.2 h3⟩;cases v<;>try exact qyi hv.1 h2
  exact zbo hv.1 h2
theorem zoy{E E':Env}{S':Nat->Prop}{v:V}{u:Value}(hv:v.safe=true)(h:rel E' v u):rel (qca E S' E') (qcs E.h.length v) u:=by
 cases v<;>try exact qyi hv h
 case agg cs=>exact zbo hv h
 case tup vs =>simp only[qcs];unfold rel at *;obtain⟨us,h1,h2⟩:=h;exact⟨us,h1,q6n hv h2⟩
open Go (World Value Addr Obj Program Act Operand Oper Op Sem Result Next undef execOp TypeId TypeDesc Ending CallsIn RoundIn Fence)
def Ret(P:Program)(E:Env)(v:V)(h':H):Ending->World->Prop:=fun e w'=>∃E' u,e=.returned u/\Ok P E'/\Ext E E'/\E'.w=w'/\E'.h=h'/\rel E' v u
def zwq(P:Program)(self:Q->Option R):Prop:=∀(fid:Nat) (first caps args:List V) (E:Env) (res:R) (us:Array Value),Ok P E->qaj E (first++args++caps) us.toList->self (.call (.fn fid first caps) args E.h)=some res ->
 (∃ fn, P.funcs[qls fid]? = some fn ∧ fn.name ≠ "runtime.NumGoroutine" ∧ fn.body.isSome = true) ∧ CallsIn Fence.wide 0 P (qls fid) us E.w (Ret P E res.v res.st.h)
def q7a(L:Go.Loop)(us:Array Value):Array Value:=(L.params.zip us).foldl (fun tmps (t,a)=>tmps.setIfInBounds t a) L.tmps
def zfh(P:Program)(self:Q->Option R):Prop:=∀(l:Nat) (args:List V) (E:Env) (res:R) (us:Array Value),Ok P E->qaj E args us.toList->self (.call (.yld l) args E.h)=some res ->
 ∃b C L,E.b l=some (b,C)/\(∃o,E.h[l]?=some o/\qje o.k=4)/\E.w.heap[b]?=some (.loop L)/\us.size=L.params.size/\RoundIn Fence.wide 0 P b L.fn (q7a L us) L.assign L.body E.w (Ret P E res.v res.st.h)
def Goes(P:Program)(u:Value)(us:Array Value)(w:World)(K:Ending->World->Prop):Prop :=
 ∃d,(Go.Deferred.ofValue u us).run P w=.ok d w/\((∃fid as,(Go.invoke d.target d.args).run P w=.ok (.enter fid as) w/\CallsIn Fence.wide 0 P fid as w K) \/
  ∃l fn tmps assign body,(Go.invoke d.target d.args).run P w=.ok (.round l fn tmps assign body) w/\RoundIn Fence.wide 0 P l fn tmps assign body w K)
theorem Goes.mono{P:Program}{u:Value}{us:Array Value}{w:World}{K K':Ending->World->Prop}(h:Goes P u us w K)(hk:∀e w',K e w'->K' e w'):Goes P u us w K':=by
 obtain⟨d,h1,h2⟩:=h;refine⟨d,h1,?_⟩;rcases h2 with⟨fid,as,h3,h4⟩ | ⟨l,fn,tmps,as,bd,h3,h4⟩
 .exact .inl ⟨fid,as,h3,h4.mono hk⟩
 .exact .inr ⟨l,fn,tmps,as,bd,h3,h4.mono hk⟩
theorem q1v{P:Program}{self:Q->Option R}(hF:zwq P self)(hY:zfh P self)(hk:∀f args h res,self (.call f args h)=some res->(∃a b c,f=.fn a b c/\a<1000000)\/∃l,f=.yld l)
  {E:Env} (hE:Ok P E) {f:V} {u:Value} (hf:rel E f u) {args:List V} {us:Array Value} (ha:qaj E args us.toList) {res:R} (h:self (.call f args E.h)=some res):Goes P u us E.w (Ret P E res.v res.st.h):=by
 rcases hk _ _ _ _ h with⟨fid,first,caps,rfl,hlt⟩ | ⟨l,rfl⟩
 .unfold rel at hf;obtain⟨a',c',hu | hu,h1,h2⟩:=hf
  case inr=>exact absurd hu.1 (by omega)
  obtain⟨_,rfl⟩:=hu;have hr:qaj E (first++args++caps) ((a'++us)++c').toList:=by simpa using qck (qck h1 ha) h2
  obtain⟨⟨fn,q1,q2,q3⟩,q4⟩:=hF fid first caps args E res _ hE hr h
  refine⟨_,rfl,.inl ⟨qls fid,(a'++us)++c',?_,q4⟩⟩;have hb:fn.body≠none:=by intro hb;rw[hb]at q3;cases q3
  simp[Go.invoke,Go.callFunc,q1,q2,hb]
 .unfold rel at hf;obtain⟨hlt,b,rfl,h1⟩:=hf;obtain⟨b',C,L,q1,⟨o,q2,q3⟩,q4,q5,q6⟩:=hY l args E res us hE ha h;obtain⟨C',h2⟩:=h1 o q2 q3;rw[q1]at h2;cases h2;refine⟨{ target:=.fn (.yield b) #[],args:=#[]++us },rfl,.inr ⟨b,L.fn,q7a L us,L.assign,L.body,?_,q6⟩⟩;have hsz:¬(us.size≠L.params.size):=by simp[q5]
  have hgl:(Go.Instr.getLoop b).run P E.w=.ok L E.w:=by simp[Go.Instr.getLoop,Go.getObj,Sem.run,q4]
  simp only[Go.invoke,Go.Instr.yield,Sem.run_bind,hgl,Go.Result.andThen_ok,Array.empty_append,hsz,if_false];simp[q7a]
theorem q9r{P:Program}{pg:Prg}{self:Q->Option R}(hF:zwq P self)(hY:zfh P self)(hk:∀f args h res,self (.call f args h)=some res->(∃a b c,f=.fn a b c/\a<1000000)\/∃l,f=.yld l)
  {E:Env} (hE:Ok P E) {f:V} {u:Value} (hf:rel E f u) {args:List V} {us:Array Value} (ha:qaj E args us.toList) {v:V} {h':H} (h:qmh pg self f args E.h=some (v,h')):Goes P u us E.w (Ret P E v h'):=by
 unfold qmh at h;split at h
 .cases e:self (.call f args E.h)with
  | none=>rw[e]at h;cases h
  | some r =>rw[e]at h;cases h;exact q1v hF hY hk hE hf ha e
 .obtain⟨E1,b1,b2,b3,b4,b5,b6⟩:=qwt hE args;have hf1:=qda hE b2.toExt0 _ _ hf;have ha1:=qtj hE b2 b4 ha b6;simp only at h;split at h
  .rename_i hp;simp only[jE]at hp;cases e:self (.call f (args.map (qfq E.h)) [])with
   | none=>rw[e]at h;cases h
   | some r =>
    rw[e]at h;simp only at h;split at h
    case isFalse=>cases h
    rename_i harr;cases h
    .have hB:Ok P (qsn E1.S E1.w):=zfq b1.S;have hg:=q1v hF hY hk hB (zly hp.1 hf1) (zfr hp.2 ha1) e;rw[show(qsn E1.S E1.w).w=E.w from b4]at hg;refine hg.mono ?_;rintro e' w' ⟨E',u',rfl,c1,c2,rfl,c3,c4⟩;have harr':E'.h.all (fun o=>o.k.isArr)=true:=by rw[c3];exact harr
     split
     .rename_i hs;simp only[jE]at hs;rw[b4]at c2;obtain⟨m1,m2⟩:=zay (S':=E.S) hE c1 c2 harr' (fun _ h=>h) (fun _ _ h=>h) (fun b h=>c2.S b (b2.S b h)) (fun j g n els b _ hj hr=>by
       refine qun (E:=E') (E':=qca E E.S E') rfl ?_ hr;have:=(jP.1 hs.2) _ (by rw[<-c3];exact jR hj);simpa[K.safe]using this)
      refine⟨_,u',rfl,m1,m2,rfl,by simp[qca,c3],zoy hs.1 c4⟩
     .rw[<-b3];obtain⟨m1,m2⟩:=zay (S':=E'.S) b1 c1 c2 harr' c2.S (fun b hb h=>(c2.back b hb h).resolve_right qve) (fun _ h=>h) (fun j g n els b _ hj hr=>by
       have hro:=c1.obj j _ hj;unfold qem at hro;exact qds (n:=0) (E:=E') (E':=qca E1 E'.S E') ⟨rfl,fun _ h=>h,fun i hi=>absurd hi (Nat.not_lt_zero _)⟩ _ _ _ _ hro.1 hr)
      refine⟨_,u',rfl,m1,b2.trans m2,rfl,by simp[qca,c3],qyp (fun _ h=>h) _ _ c4⟩
  .cases e:self (.call f (args.map (qfq E.h)) (qyy E.h args))with
   | none=>rw[e]at h;cases h
   | some r =>rw[e]at h;cases h;rw[<-b3]at e;have hg:=q1v hF hY hk b1 hf1 ha1 e;rw[b4]at hg;refine hg.mono ?_;rintro e' w' ⟨E',u',rfl,c1,c2,c3,c4,c5⟩;exact⟨E',u',rfl,c1,b2.trans c2,c3,c4,c5⟩
theorem zco{pg:Prg}{self:Q->Option R}(hk:∀f args h res,self (.call f args h)=some res->(∃a b c,f=.fn a b c/\a<1000000)\/∃l,f=.yld l){f:V}{args:List V}{h:H}{p:V×H}(e:qmh pg self f args h=some p):(∃a b c,f=.fn a b c/\a<1000000)\/∃l,f=.yld l:=by
 apply Classical.byContradiction;intro hno;have hn:∀a h,self (.call f a h)=none:=by
  intro a h;cases e1:self (.call f a h)with
  | none=>rfl
  | some r=>exact absurd (hk _ _ _ _ e1) hno
 unfold qmh at e;simp only[hn]at e;split at e
 .cases e
 .split at e<;>cases e
theorem zdt{P:Program}{name:String}{t:TypeId}{f:Nat}(h:qrl P name t=some f)(n:Nat)(w:Value)(W:World):(Go.method (n+1) t w name).run P W=.ok (f,w) W:=by
 unfold qrl at h;split at h
 .rename_i i hi;split at h
  .rename_i m hm;have h1:=Go.run_typeInfo (P:=P) (w:=W) hi;have key:∀pr,m.func=some (f,pr)->m.path=#[]->(∃d,P.underlying t=some d/\((∃e,d=.pointer e)/\pr=true\/(∀e,d ≠ .pointer e)/\pr=false))->(Go.method (n+1) t w name).run P W=.ok (f,w) W:=by
    intro pr hf hp ⟨d,hd,hdp⟩;unfold Go.method;simp only[Sem.run_bind,h1,Go.Result.andThen_ok,hm,hp,Go.follow,Sem.run_pure,hf,Go.receiverAt,Go.run_underlying hd];rcases hdp with⟨⟨e,rfl⟩,rfl⟩ | ⟨hne,rfl⟩
    .simp[Go.Place.get]
    .cases d<;>simp_all [Go.Place.get]
   split at h
   .rename_i f' pr e hf hd;split at h
    .rename_i hh;cases h;exact key pr hf hh.1 ⟨_,hd,.inl ⟨⟨_,rfl⟩,hh.2.1⟩⟩
    .cases h
   .rename_i f' pr d hne hf hd;split at h
    .rename_i hh;cases h;exact key pr hf hh.1 ⟨_,hd,.inr ⟨fun e he=>hne e he,hh.2.1⟩⟩
    .cases h
   .cases h
  .cases h
 .cases h
theorem zjd{P:Program}{name:String}{t:TypeId}{f:Nat}(h:qrl P name t=some f):f<500000:=by
 unfold qrl at h;split at h
 .split at h
  .split at h
   .split at h
    .rename_i hh;cases h;exact hh.2.2
    .cases h
   .split at h
    .rename_i hh;cases h;exact hh.2.2
    .cases h
   .cases h
  .cases h
 .cases h
theorem zje{P:Program}{name:String}{k f:Nat}(h:zwm (q2r P name) k=some f):∃t,k=t+1000000/\qrl P name t=some f:=by
 have key:∀l:List Nat,zwm (l.filterMap fun t=>(qrl P name t).map fun f=>(t,f)) k=some f->∃t,k=t+1000000/\qrl P name t=some f:=by
  intro l;induction l with
  | nil=>intro h;cases h
  | cons t l ih =>
   intro h;simp only[List.filterMap_cons]at h;cases hm:qrl P name t with
   | none=>rw[hm]at h;exact ih h
   | some g =>
    rw[hm]at h;simp only[Option.map_some,zwm]at h;split at h
    .rename_i hk;cases h;exact⟨t,hk,hm⟩
    .exact ih h
 exact key _ h
theorem zyl{P:Program}{pg:Prg}{self:Q->Option R}(hF:zwq P self)(hY:zfh P self)(hk:∀f args h res,self (.call f args h)=some res->(∃a b c,f=.fn a b c/\a<1000000)\/∃l,f=.yld l)
  {E:Env} (hE:Ok P E) {x:V} {u:Value} {name:String} (hx:rel E x u) {args:List V} {us:Array Value} (ha:qaj E args us.toList) {v:V} {h':H} (h:qmh pg self (z1v (q2r P name) x) args E.h=some (v,h')) :
  (∃fid as,(Go.invoke (.fn (.method name) #[]) (#[u]++us)).run P E.w=.ok (.enter fid as) E.w/\CallsIn Fence.wide 0 P fid as E.w (Ret P E v h')) \/
  ∃l fn tmps assign body,(Go.invoke (.fn (.method name) #[]) (#[u]++us)).run P E.w=.ok (.round l fn tmps assign body) E.w/\RoundIn Fence.wide 0 P l fn tmps assign body E.w (Ret P E v h'):=by
 have hne:=zco hk h;unfold z1v at h hne;split at h
 .rename_i k y;split at h
  .rename_i f hf;obtain⟨t,rfl,hm⟩:=zje hf;unfold rel at hx;obtain⟨a',c',hu,h1,h2⟩:=hx;have hc:c'=#[]:=by simpa[qaj]using h2
   subst hc;obtain⟨w,rfl⟩:∃w,a'=#[w]:=by simp only[qaj]at h1;obtain⟨w,r,e,_,rfl⟩:=h1;exact⟨w,Array.ext' (by simpa using e)⟩
   have hu:u=.iface t w:=by
    rcases hu with hu | ⟨_,_,w',e1,e2⟩
    .exact absurd hu.1 (Nat.not_lt.2 (Nat.le_add_left _ _))
    .have e3:w'=w:=by simpa using e1.symm
     rw[e2,e3,Nat.add_sub_cancel]
   subst hu;have hrun:∀nx,(Go.callFunc f (#[w]++us)).run P E.w=.ok nx E.w->(Go.invoke (.fn (.method name) #[]) (#[Value.iface t w]++us)).run P E.w=.ok nx E.w:=by
    intro nx hn;have e1:(#[Value.iface t w]++us)[0]?=some (Value.iface t w):=by rw[Array.getElem?_append_left (by simp)];rfl
    have e2:(#[Value.iface t w]++us).extract 1 (#[Value.iface t w]++us).size=us:=by simp
    simp only[Go.invoke,e1,e2,Go.callMethod,Sem.run_bind,Go.run_program,Go.Result.andThen_ok];rw[show P.types.size+Go.Made.depth=(P.types.size+99)+1 from rfl,zdt hm];exact hn
   have hf2:f<500000:=zjd hm;obtain⟨dd,g1,g2⟩:=q9r hF hY hk hE (f:=.fn f [y] []) (u:=.func (.func f) #[w] #[]) (by
    unfold rel;exact⟨_,_,.inl ⟨jS hf2 (by decide),by rw[qrr hf2]⟩,h1,h2⟩) ha h
   have hd:dd={ target:=.fn (.func f) #[],args:=#[w]++us }:=by simp[Go.Deferred.ofValue,Sem.run_pure]at g1;exact g1.symm
   subst hd;simp only[Go.invoke,Array.append_empty]at g2;rcases g2 with⟨a,b,g3,g4⟩ | ⟨a,b,c,d,e,g3,g4⟩
   .exact .inl ⟨a,b,hrun _ g3,g4⟩
   .exact .inr ⟨a,b,c,d,e,hrun _ g3,g4⟩
  .rename_i hno;simp only[hno]at hne;rcases hne with⟨_,_,_,e,_⟩ | ⟨_,e⟩<;>cases e
 .rename_i hno;rcases hne with⟨_,_,_,e,_⟩ | ⟨_,e⟩
  all_goals
   split at e
   .exact(hno _ _ rfl).elim
   .cases e
open Go (World Value Addr Obj Program Act Operand Oper Op Sem Result Next undef execOp TypeId TypeDesc Ending CallsIn RoundIn Fence Exit)
variable{md:Nat}
def F0(r:Option Nat):Fence:={ Fence.wide with round:=r }
structure SelfOk(P:Program)(sf:Q->Option R):Prop where
 fn:zwq P sf
 yld:zfh P sf
 kind:∀f args h res,sf (.call f args h)=some res->(∃a b c,f=.fn a b c/\a<1000000)\/∃l,f=.yld l
theorem qox{E:Env}{s:List V}{a:Act}(hs:qaj E s a.tmps.toList)(d:Option Nat){v:V}{u:Value}(h:rel E v u):qaj E (q3x s d v) (a.put d u).tmps.toList:=by
 cases d with
 | none=>exact hs
 | some d =>simp only[q3x,Go.Act.put,Array.toList_setIfInBounds];exact q3b h d hs
theorem qhf(a:Act)(d:Option Nat)(u:Value):(a.put d u).defers=a.defers:=by cases d<;>rfl
theorem q1h{P:Program}{E:Env}{s:List V}{a:Act}(hs:qaj E s a.tmps.toList){ops:Array Oper}{o:Oper}{t:Bool}{d:Option Nat}{g:Option (Nat×Bool)}{q:O}(hi:cI md P ops o=⟨d,g,q⟩)(hw:qcc s ⟨d,g,q⟩=some t) :
  d=o.dst/\(q=.stuck/\g=none\/(q=(cOp (zqc md ops o) P o).getD .stuck/\Go.Region.wanted o (Go.yielded ops a.tmps)=t)):=by
 unfold cI at hi;split at hi
 .rename_i hg;simp only[I.mk.injEq]at hi;obtain⟨rfl,rfl,rfl⟩:=hi;simp only[qcc,jC]at hw;subst hw;exact⟨rfl,.inr ⟨rfl,by simp[Go.Region.wanted,hg]⟩⟩
 .rename_i j b hg;split at hi
  .rename_i e he;simp only[I.mk.injEq]at hi;obtain⟨rfl,rfl,rfl⟩:=hi;refine⟨rfl,.inr ⟨rfl,?_⟩⟩;have hr:=qlt e hs;simp only[qcc]at hw;have hy:Go.yielded ops a.tmps j=match a.tmps[e]? with | some (.bool b)=>some b | _=>none:=by
    unfold Go.yielded;rw[he];rfl
   have hgd2:a.tmps.toList.getD e undef=(a.tmps[e]?).getD undef:=by simp
   rw[hgd2]at hr;split at hw
   .rename_i t' ht';cases hw;rw[ht']at hr;unfold rel at hr;have:a.tmps[e]?=some (.bool t'):=by
     cases h:a.tmps[e]? with
     | none=>rw[h]at hr;simp[undef]at hr
     | some u=>rw[h]at hr;simpa using hr
    simp[Go.Region.wanted,hg,hy,this]
   .rename_i ht';cases hw;rw[ht']at hr;unfold rel at hr;obtain⟨us,hu,hl⟩:=hr;have:∀b',a.tmps[e]?≠some (.bool b'):=by
     intro b' h;rw[h]at hu;cases hu
    have hy2:Go.yielded ops a.tmps j=none:=by
     rw[hy];split
     .rename_i b' h;exact absurd h (this b')
     .rfl
    simp[Go.Region.wanted,hg,hy2]
   .cases hw
  .simp only[I.mk.injEq]at hi;exact⟨hi.1.symm,.inl ⟨hi.2.2.symm,hi.2.1.symm⟩⟩
theorem qyv{P:Program}{E:Env}{s:List V}{a:Act}(hs:qaj E s a.tmps.toList){ops:Array Oper}{o:Oper}{t:Bool}{d:Option Nat}{g:Option (Nat×Bool)}{q:O}(hi:cI md P ops o=⟨d,g,q⟩)(hq:q ≠ .stuck)(hw:qcc s ⟨d,g,q⟩=some t) :
  d=o.dst/\cOp (zqc md ops o) P o=some q/\Go.Region.wanted o (Go.yielded ops a.tmps)=t:=by
 obtain⟨h1,h2 | ⟨h2,h3⟩⟩:=q1h hs hi hw
 .exact absurd h2.1 hq
 .refine⟨h1,?_,h3⟩;cases hc:cOp (zqc md ops o) P o with
  | none=>rw[hc]at h2;exact absurd h2 hq
  | some y=>rw[hc]at h2;simp at h2;rw[h2]
theorem zvh{P:Program}{E:Env}{s:List V}{a:Act}(hs:qaj E s a.tmps.toList){ops:Array Oper}{o:Oper}{d:Option Nat}{g:Option (Nat×Bool)}{q:O}(hi:cI md P ops o=⟨d,g,q⟩)(hw:qcc s ⟨d,g,q⟩=some false) :
  d=o.dst/\Go.Region.wanted o (Go.yielded ops a.tmps)=false:=by
 obtain⟨h1,h2 | ⟨h2,h3⟩⟩:=q1h hs hi hw
 .rw[h2.2]at hw;simp[qcc]at hw
 .exact⟨h1,h3⟩
theorem qwb{P:Program}{o:Oper}{q:O}(h:cOp md P o=some q):∀c,o.op ≠ .defer c:=by intro c hc;have h:=qqu h;unfold zpr at h;rw[hc]at h;cases h
theorem zlq(m:Nat){E:Env}{s:List V}{x:A}{u:Value}(h:rel E (x.ev s) u):rel E ((z1g m x).ev s) u:=by
 unfold z1g;split
 .rename_i f;split
  .rename_i hf;simp only[A.ev]at h ⊢;unfold rel at h ⊢;obtain⟨a,c,h1,h2,h3⟩:=h;refine⟨a,c,?_,h2,h3⟩;rcases h1 with⟨_,rfl⟩ | ⟨h1,_⟩
   .refine .inl ⟨by omega,?_⟩;rw[qrr hf.2];unfold qls;rw[if_neg (by omega),Nat.add_sub_cancel]
   .omega
  .exact h
 .exact h
theorem zmc{P:Program}{o:Oper}{f:A}{as:List A}(h0:cOp md P o=some (.call f as)):∃c,o.op=.call c/\c.args.toList.mapM cA=some as/\((∃f0 f',c.callee=.value f0/\cA f0=some f'/\f=z1g md f')\/∃n name,c.callee=.invoke (.tmp n) name/\f=.m (q2r P name) n):=by
 have h:=qqu h0;have hi:q2l o.op=true:=by unfold cOp at h0;rw[h]at h0;simpa[O.isCall,O.isAlloc,O.isMk]using h0
 unfold q2l at hi;split at hi
 .rename_i c hop;split at hi
  .rename_i f0 hc;unfold zpr at h;rw[hop]at h;simp only[hc,Option.bind_eq_bind,Option.pure_def,jB,jC]at h;obtain⟨f',h1,as',h2,h3⟩:=h;cases h3;exact⟨c,hop,h2,.inl ⟨f0,f',hc,h1,rfl⟩⟩
  .rename_i r name hc;unfold zpr at h;rw[hop]at h;simp only[hc]at h;cases r<;>simp only at h<;>try (cases h;done)
   split at h
   .simp only[Option.bind_eq_bind,Option.pure_def,jB,jC]at h;obtain⟨as',h2,h3⟩:=h;cases h3;exact⟨c,hop,h2,.inr ⟨_,_,hc,rfl⟩⟩
   .cases h
  .cases hi
 .cases hi
theorem zfj{P:Program}{o:Oper}{zs:List V}(h0:cOp md P o=some (.alloc zs)):∃e,o.op=.alloc e/\zeroCells P e=some zs:=by
 have h:=qqu h0;have hi:qxb o.op=true:=by unfold cOp at h0;rw[h]at h0;simpa[O.isCall,O.isAlloc,O.isMk]using h0
 unfold qxb at hi;split at hi
 .rename_i e hop;unfold zpr at h;rw[hop]at h;simp only[jB]at h;obtain⟨z,h1,h2⟩:=h;split at h2
  .cases h2;exact⟨e,hop,by unfold zeroCells;rw[h1];rfl⟩
  .cases h2
 .cases hi
theorem zzm{P:Program}{o:Oper}{n b:Nat}{z:List V}{x y:A}(h0:cOp md P o=some (.mkslice n b z x y)):∃t e l c zs,o.op=.makeSlice t l c/\P.underlying t=some (.slice e)/\zeroCells P e=some zs/\P.cellsOf e≠0/\zs.length=P.cellsOf e/\cA l=some x/\cA c=some y/\n=P.cellsOf e/\b=P.bytesOf e/\z=zs.map (qan []):=by
 have h:=qqu h0;have hi:zii o.op=true:=by unfold cOp at h0;rw[h]at h0;simpa[O.isCall,O.isAlloc,O.isMk]using h0
 unfold zii at hi;split at hi
 .rename_i t l c hop;unfold zpr at h;rw[hop]at h;simp only[Option.bind_eq_bind,Option.pure_def,jB]at h;obtain⟨e,he,zs,hz,h⟩:=h;split at h
  .rename_i hh;simp only[jB,jC]at h;obtain⟨l',h1,c',h2,h3⟩:=h;cases h3;have ht:P.underlying t=some (.slice e):=by
    unfold qfl at he;split at he
    .cases he;assumption
    .cases he
   exact⟨t,e,l,c,zs,hop,ht,hz,hh.1,hh.2,h1,h2,rfl,rfl,rfl⟩
  .cases h
 .cases hi
theorem zpw{P:Program}{pg:Prg}{self:Q->Option R}(hS:SelfOk P self){E:Env}(hE:Ok P E){s:List V}{a:Act}(hs:qaj E s a.tmps.toList){ops:Array Oper}{o:Oper}{st':St}(h:exI pg self (cI md P ops o) ⟨s,E.h⟩=some st')(ro:Option Nat) :
  (Go.Region.wanted o (Go.yielded ops a.tmps)=true/\∀(next:Act->World->Prop) (Qp:Exit->Act->World->Prop),(∀E' a',Ok P E'->Ext E E'->E'.h=st'.h->qaj E' st'.s a'.tmps.toList->a'.defers=a.defers->next a' E'.w)->o.wpIn (F0 ro) 0 P a E.w next Qp) \/
  (Go.Region.wanted o (Go.yielded ops a.tmps)=false/\qaj E st'.s (a.put o.dst undef).tmps.toList/\st'.h=E.h):=by
 cases hi:cI md P ops o with
 | mk d g q =>
  rw[hi]at h;unfold exI at h;cases hw:qcc s ⟨d,g,q⟩with
  | none=>simp only[hw]at h;cases h
  | some t =>
   simp only[hw]at h;have hq:t=true->q ≠ .stuck:=by rintro rfl hq;subst hq;simp only[exO]at h;cases h
   cases t with
   | false =>right;simp only[jC]at h;subst h;obtain⟨h1,h2⟩:=zvh hs hi hw;exact⟨h2,by rw[h1];exact qox hs o.dst (by unfold rel;exact⟨#[],rfl,by simp[qaj]⟩),rfl⟩
   | true =>
    left;obtain⟨rfl,hc,hwd⟩:=qyv hs hi (hq rfl) hw;refine⟨hwd,fun next Qp K=>⟨fun _ _=>trivial,?_⟩⟩;rw[Go.Oper.semAt_eq _ _ _ (qwb hc)];by_cases hcall:q.isCall=true
    .cases q<;>try (simp[O.isCall]at hcall;done)
     rename_i f as;simp only at h;obtain⟨c,hop,h2,hsrc⟩:=zmc hc;cases hco:qmh pg self (f.ev s) (as.map (A.ev s)) E.h with
     | none=>rw[hco]at h;cases h
     | some p =>
      obtain⟨v,h'⟩:=p;rw[hco]at h;cases h;have hargs:qaj E (as.map (A.ev s)) (c.args.map a.eval).toList:=by simpa using qln hs h2
      have g2:(∃fid as',(execOp a.eval o).run P E.w=.ok (.enter fid as') E.w/\CallsIn Fence.wide 0 P fid as' E.w (Ret P E v h')) \/
        ∃l fn tmps assign body,(execOp a.eval o).run P E.w=.ok (.round l fn tmps assign body) E.w/\RoundIn Fence.wide 0 P l fn tmps assign body E.w (Ret P E v h'):=by
       rcases hsrc with⟨f0,f',hcal,h1,rfl⟩ | ⟨n,name,hcal,rfl⟩
       .obtain⟨dd,g1,g2⟩:=q9r hS.fn hS.yld hS.kind hE (zlq _ (qav hs h1)) hargs hco;have hex:∀nx,(Go.invoke dd.target dd.args).run P E.w=.ok nx E.w->(execOp a.eval o).run P E.w=.ok nx E.w:=by
         intro nx hnx;simp only[execOp,hop,Go.resolve,hcal,Sem.run_bind,g1,Go.Result.andThen_ok,hnx]
        rcases g2 with⟨fid,as',g3,g4⟩ | ⟨l,fn,tmps,asg,bd,g3,g4⟩
        .exact .inl ⟨fid,as',hex _ g3,g4⟩
        .exact .inr ⟨l,fn,tmps,asg,bd,hex _ g3,g4⟩
       .have hx:rel E (qah s n) (a.eval (.tmp n)):=qav (o:=.tmp n) (x:=.t n) hs rfl;have g2:=zyl hS.fn hS.yld hS.kind hE (name:=name) hx hargs hco;have hex:∀nx,(Go.invoke (.fn (.method name) #[]) (#[a.eval (.tmp n)]++c.args.map a.eval)).run P E.w=.ok nx E.w->(execOp a.eval o).run P E.w=.ok nx E.w:=by
         intro nx hnx;simp only[execOp,hop,Go.resolve,hcal,Sem.run_bind,Sem.run_pure,Go.Result.andThen_ok,hnx]
        rcases g2 with⟨fid,as',g3,g4⟩ | ⟨l,fn,tmps,asg,bd,g3,g4⟩
        .exact .inl ⟨fid,as',hex _ g3,g4⟩
        .exact .inr ⟨l,fn,tmps,asg,bd,hex _ g3,g4⟩
      have fin:∀e w',Ret P E v h' e w'->(match e with
        | .returned v=>next (a.put o.dst v) w'
        | .panicked chain=>Qp (.panic chain) a w'
        | .outgrown=>Go.LetsOut Qp):=by
       rintro e w' ⟨E',u,rfl,k1,k2,rfl,k3,k4⟩;exact K E' _ k1 k2 k3 (qox (qba hE k2.toExt0 _ _ hs) o.dst k4) (qhf _ _ _)
      rcases g2 with⟨fid,as',g3,g4⟩ | ⟨l,fn,tmps,asg,bd,g3,g4⟩
      .rw[g3,Go.Oper.uponIn_enter];refine⟨fun h=>by simp[F0,Fence.wide]at h,?_⟩;have g5:CallsIn (F0 ro) 0 P fid as' E.w (Ret P E v h'):=g4;exact g5.mono fun e w' he=>by have:=fin e w' he;cases e<;>exact this
      .rw[g3,Go.Oper.uponIn_round];refine⟨fun h=>by simp[F0,Fence.wide]at h,?_⟩;have g5:RoundIn (F0 ro) 0 P l fn tmps asg bd E.w (Ret P E v h'):=g4;exact g5.mono fun e w' he=>by have:=fin e w' he;cases e<;>exact this
    .have hx:∃v h',exO q s E.h=some (v,h')/\st'=⟨q3x s o.dst v,h'⟩:=by
      cases q<;>first
       | exact absurd rfl hcall
       | (simp only at h
          split at h
          .rename_i v h' e;cases h;exact⟨v,h',e,rfl⟩
          .cases h)
     obtain⟨v,h',hx,rfl⟩:=hx;obtain⟨E',k1,k2,k3,res,k4,k5⟩:=zhf hE hs hc hx;rw[k4];have hs':=qba hE k2.toExt0 _ _ hs;rcases k5 with⟨u,rfl,k6⟩ | ⟨rfl,rfl⟩
     .rw[Go.Oper.uponIn_value];exact K E' _ k1 k2 k3 (qox hs' o.dst k6) (qhf _ _ _)
     .rw[Go.Oper.uponIn_skip];exact K E' _ k1 k2 k3 (qox hs' o.dst (by unfold rel;trivial)) (qhf _ _ _)
theorem zhd{P:Program}{pg:Prg}{self:Q->Option R}(hS:SelfOk P self){ops:Array Oper}(ro:Option Nat){Qp:Exit->Act->World->Prop}:∀(l:List Nat) {E:Env} {s:List V} {a:Act} {st':St},(∀i∈l,i<ops.size)->Ok P E->qaj E s a.tmps.toList ->
  exL pg self (l.map fun i=>cI md P ops (ops.getD i default)) ⟨s,E.h⟩=some st'->(∀E' a',Ok P E'->Ext E E'->E'.h=st'.h->qaj E' st'.s a'.tmps.toList->a'.defers=a.defers->Qp .normal a' E'.w)->Go.wpOpsIn (F0 ro) 0 P ops Qp l a E.w
 | [],E,s,a,st',_,hE,hs,h,K=>by simp only[List.map_nil,exL,jC]at h;subst h;exact K E a hE (Ext.refl E) rfl hs rfl
 | i :: l,E,s,a,st',hl,hE,hs,h,K=>by
  simp only[List.map_cons,exL]at h;have hi:=hl i (by simp);have hget:ops[i]?=some (ops.getD i default):=by simp[Array.getD,hi]
  cases h1:exI pg self (cI md P ops (ops.getD i default)) ⟨s,E.h⟩with
  | none=>rw[h1]at h;cases h
  | some st1 =>
   rw[h1]at h;simp only at h;unfold Go.wpOpsIn;simp only[hget];rcases zpw hS hE hs h1 ro with⟨hw,k⟩ | ⟨hw,k1,k2⟩
   .rw[if_pos hw];refine k _ _ fun E' a' c1 c2 c3 c4 c5=>?_;refine zhd hS ro l (fun j hj=>hl j (by simp[hj])) c1 c4 (by rw[c3];exact h) fun E'' a'' d1 d2 d3 d4 d5=>?_;exact K E'' a'' d1 (c2.trans d2) d3 d4 (d5.trans c5)
   .rw[hw,if_neg (by simp)];refine⟨fun _ _=>trivial,?_⟩;refine zhd hS ro l (fun j hj=>hl j (by simp[hj])) hE k1 (by rw[<-k2];exact h) fun E'' a'' d1 d2 d3 d4 d5=>?_;exact K E'' a'' d1 d2 d3 d4 (d5.trans (qhf _ _ _))
theorem zee{P:Program}{ops:Array Oper}:ops.toList.map (cI md P ops)=(List.range ops.size).map fun i=>cI md P ops (ops.getD i default):=by
 apply List.ext_getElem
 .simp
 .intro i h1 h2;simp at h1;simp[Array.getD,h1]
open Go (World Value Addr Obj Program Act Operand Oper Op Sem Result Next undef execOp TypeId TypeDesc Ending CallsIn RoundIn Fence Exit Deferred)
def q0c(r:Nat):Deferred:={ target:=.collected r,args:=#[] }
def qle(E E':Env)(M:List Nat):Prop:=M.Nodup/\∀r∈M,E.w.heap.size<=r/\E'.w.heap[r]?=some (.deferred (some []))
def zxy:X->Exit
 | .normal=>.normal
 | .exit id=>.exit id
 | .ret=>.ret
def q7e(P:Program)(E:Env)(a:Act)(res:R):Exit->Act->World->Prop:=fun e a' w'=>∃E' M,Ok P E'/\Ext E E'/\E'.w=w'/\E'.h=res.st.h/\qaj E' res.st.s a'.tmps.toList/\e=zxy res.x/\a'.defers=M.map q0c++a.defers/\qle E E' M
theorem q2q{P:Program}{E:Env}(hE:Ok P E){r:Nat}{x:Option (List Deferred)}(h:E.w.heap[r]?=some (.deferred x)):¬Mut E r:=by
 rintro⟨id,o,C,ho,hb,hf⟩;have hr:=hE.obj id o ho;unfold qem at hr;cases hk:o.k<;>rw[hk]at hr hf<;>try (simp[K.isFrz]at hf;done)
 case box cells =>
  rcases hr with h1 | ⟨b,C',cs,ty,q1,_,q3,_⟩
  .rw[hb]at h1;cases h1
  .rw[hb]at q1;cases q1;rw[h]at q3;cases q3
 case arr n els =>
  rcases hr.2 with h1 | ⟨b,C',cs,ty,q1,_,q3,_⟩
  .rw[hb]at h1;cases h1.1
  .rw[hb]at q1;cases q1;rw[h]at q3;cases q3
 case map es=>obtain⟨b,C',ms,cl,q1,_,q3,_⟩:=hr;rw[hb]at q1;cases q1;rw[h]at q3;cases q3
 case sit s p=>obtain⟨b,C',q1,_,q3⟩:=hr;rw[hb]at q1;cases q1;rw[h]at q3;cases q3
 case loop sl ps a c p=>obtain⟨b,C',L,q1,_,q3,_⟩:=hr;rw[hb]at q1;cases q1;rw[h]at q3;cases q3
theorem q5r{P:Program}{E E1 E2:Env}(h1:Ok P E1)(x:Ext E1 E2){M:List Nat}(h:qle E E1 M):qle E E2 M :=
 ⟨h.1,fun r hr=>⟨(h.2 r hr).1,by
  have h3:=(h.2 r hr).2;rw[x.keep r (qec h3) (q2q h1 h3)];exact h3⟩⟩
theorem qov{P:Program}{E E1:Env}{a a1:Act}{res:R}(h1:Ok P E1)(x:Ext E E1){M1:List Nat}(hd:a1.defers=M1.map q0c++a.defers)(hm:qle E E1 M1){e:Exit}{a2:Act}{w2:World}(h:q7e P E1 a1 res e a2 w2):q7e P E a res e a2 w2:=by
 obtain⟨E2,M2,k1,k2,k3,k4,k5,k6,k7,k8⟩:=h;refine⟨E2,M2++M1,k1,x.trans k2,k3,k4,k5,k6,by rw[k7,hd,List.map_append,List.append_assoc],?_,?_⟩
 .rw[List.nodup_append];refine⟨k8.1,hm.1,fun p hp q hq=>?_⟩;have:=(k8.2 p hp).1;have:=qec (hm.2 q hq).2;omega
 .intro r hr;rcases jQ.1 hr with hr | hr
  .exact⟨Nat.le_trans x.size (k8.2 r hr).1,(k8.2 r hr).2⟩
  .exact(q5r h1 k2 hm).2 r hr
structure Sw(w w':World):Prop where
 size:w'.heap.size=w.heap.size
 keep:∀(b:Nat) (o:Obj),w.heap[b]?=some o->(∀x,o≠Obj.deferred x)->w'.heap[b]?=some o
 os:w'.os=w.os
 output:w'.output=w.output
theorem Sw.refl(w:World):Sw w w:=⟨rfl,fun _ _ h _=>h,rfl,rfl⟩
theorem Sw.trans{a b c:World}(h:Sw a b)(k:Sw b c):Sw a c :=
 ⟨k.size.trans h.size,fun i o hi hn=>k.keep i o (h.keep i o hi hn) hn,k.os.trans h.os,k.output.trans h.output⟩
theorem Sw.cell{w w':World}(h:Sw w w'){b o:Nat}{u:Value}(hc:w.cell? ⟨b,o,none⟩=some u):w'.cell? ⟨b,o,none⟩=some u:=by
 unfold World.cell? at hc ⊢;cases hb:w.heap[b]? with
 | none=>simp[hb]at hc
 | some ob =>
  by_cases hd:∃x,ob=.deferred x
  .obtain⟨x,rfl⟩:=hd;simp[hb]at hc
  .rw[h.keep b ob hb (fun x hx=>hd ⟨x,hx⟩)];rw[hb]at hc;exact hc
def swE(E:Env)(w':World):Env:=⟨E.b,E.S,E.h,w'⟩
mutual
theorem zbx{E:Env}{w':World}(x:Sw E.w w'):∀(v:V) (u:Value),rel E v u->rel (swE E w') v u
 | .undef,_,h=>by unfold rel at *;trivial
 | .bool b,u,h=>by unfold rel at *;exact h
 | .int k n,u,h=>by unfold rel at *;exact h
 | .str s,u,h=>by unfold rel at *;exact h
 | .nils,u,h=>by unfold rel at *;exact h
 | .nilx,u,h=>by unfold rel at *;exact h
 | .imm els,u,h=>by unfold rel at *;obtain⟨a,cap,h1,h2,h3,h4⟩:=h;refine⟨a,cap,h1,h2,h3,h4.imp (fun h=>h) ?_⟩;rintro⟨b,o,n,h5,h6,h7,h8⟩;exact⟨b,o,n,h5,h6,h7,qtw x _ _ _ _ h8⟩
 | .immc els,u,h=>by unfold rel at *;obtain⟨a,h1,h3,h4⟩:=h;refine⟨a,h1,h3,h4.imp (fun h=>h) ?_⟩;rintro⟨b,o,n,h5,h6,h7,h8⟩;exact⟨b,o,n,h5,h6,h7,qtw x _ _ _ _ h8⟩
 | .iptr cells,u,h=>by unfold rel at *;obtain⟨b,o,h1,h2,h3,h4⟩:=h;exact⟨b,o,h1,h2,h3,zkm x _ _ _ h4⟩
 | .bptr _ _,u,h=>by unfold rel at *;exact h
 | .ptr _ _ _ _,u,h=>by unfold rel at *;exact h
 | .sl _ _ _ _ _,u,h=>by unfold rel at *;exact h
 | .bsl _ _ _ _,u,h=>by unfold rel at *;exact h
 | .agg cs,u,h=>by unfold rel at *;obtain⟨us,h1,h2⟩:=h;exact⟨us,h1,qql x _ _ h2⟩
 | .tup cs,u,h=>by unfold rel at *;obtain⟨us,h1,h2⟩:=h;exact⟨us,h1,qql x _ _ h2⟩
 | .fn f a c,u,h=>by unfold rel at *;obtain⟨a',c',h1,h2,h3⟩:=h;exact⟨a',c',h1,qql x _ _ h2,qql x _ _ h3⟩
 | .ub,u,h=>by unfold rel at *;exact h
 | .nilfn,u,h=>by unfold rel at *;exact h
 | .nilp,u,h=>by unfold rel at *;exact h
 | .map _,u,h=>by unfold rel at *;exact h
 | .sit _,u,h=>by unfold rel at *;exact h
 | .yld _,u,h=>by unfold rel at *;exact h
 | .view _ _,u,h=>by unfold rel at *;obtain⟨b,o,h1,h2,h3⟩:=h;exact⟨b,o,h1,zkm x _ _ _ h2,h3⟩
theorem qql{E:Env}{w':World}(x:Sw E.w w'):∀(vs:List V) (us:List Value),qaj E vs us->qaj (swE E w') vs us
 | [],_,h=>by unfold qaj at *;exact h
 | v :: vs,us,h=>by unfold qaj at *;obtain⟨u,us',h1,h2,h3⟩:=h;exact⟨u,us',h1,zbx x v u h2,qql x vs us' h3⟩
theorem zkm{E:Env}{w':World}(x:Sw E.w w'):∀(vs:List V) (b o:Nat),qbb E vs b o->qbb (swE E w') vs b o
 | [],_,_,_=>by unfold qbb;trivial
 | v :: vs,b,o,h=>by unfold qbb at *;obtain⟨⟨u,h1,h2⟩,h3⟩:=h;exact⟨⟨u,x.cell h1,zbx x v u h2⟩,zkm x vs b (o+1) h3⟩
theorem qtw{E:Env}{w':World}(x:Sw E.w w'):∀(rs:List (List V)) (n b o:Nat),qak E n rs b o->qak (swE E w') n rs b o
 | [],_,_,_,_=>by unfold qak;trivial
 | r :: rs,n,b,o,h=>by unfold qak at *;exact⟨h.1,zkm x r b o h.2.1,qtw x rs n b (o+n) h.2.2⟩
end
theorem zzy{E:Env}{w':World}(x:Sw E.w w'):∀(es:List (V×V)) (ms:List Go.MapEntry),qjl E es ms->qjl (swE E w') es ms
 | [],_,h=>h
 | (k,v) :: r,ms,h=>by obtain⟨e,es',h1,h2,h3,h4,h5,h6⟩:=h;exact⟨e,es',h1,zbx x _ _ h2,zbx x _ _ h3,h4,h5,zzy x r es' h6⟩
theorem z5a{P:Program}{E:Env}(hE:Ok P E){w':World}(x:Sw E.w w'):Ok P (swE E w'):=by
 refine⟨fun id o ho=>?_,hE.inj,fun b hb=>by show b<w'.heap.size;rw[x.size];exact hE.S b hb⟩;have hr:=hE.obj id o ho;unfold qem at hr ⊢;cases hk:o.k<;>rw[hk]at hr<;>simp only
 case box cells =>refine hr.imp (fun h=>h) ?_;rintro⟨b,C,cs,ty,q1,q2,q3,q4,q5⟩;exact⟨b,C,cs,ty,q1,q2,x.keep _ _ q3 (fun _ h=>by cases h),q4,zkm x _ _ _ q5⟩
 case arr m els =>refine⟨hr.1,hr.2.imp (fun h=>h) ?_⟩;rintro⟨b,C,cs,ty,q1,q2,q3,q4,q5,q6,q7⟩;exact⟨b,C,cs,ty,q1,q2,x.keep _ _ q3 (fun _ h=>by cases h),q4,q5,q6,qtw x _ _ _ _ q7⟩
 case frz m els =>refine⟨hr.1,hr.2.imp (fun h=>h) ?_⟩;rintro⟨b,C,cs,ty,q1,q2,q3,q4,q5,q6,q7⟩;exact⟨b,C,cs,ty,q1,q2,x.keep _ _ q3 (fun _ h=>by cases h),q4,q5,q6,qtw x _ _ _ _ q7⟩
 case map es =>obtain⟨b,C,ms,cl,h1,h2,h3,h4⟩:=hr;exact⟨b,C,ms,cl,h1,h2,x.keep _ _ h3 (fun _ h=>by cases h),zzy x _ _ h4⟩
 case sit s p =>obtain⟨b,C,h1,h2,h3⟩:=hr;exact⟨b,C,h1,h2,x.keep _ _ h3 (fun _ h=>by cases h)⟩
 case loop sl ps a c p =>obtain⟨b,C,L,h1,h2,h3,h4,h5,h6,h7⟩:=hr;exact⟨b,C,L,h1,h2,x.keep _ _ h3 (fun _ h=>by cases h),qql x _ _ h4,h5,h6,h7⟩
theorem zzz{P:Program}{E0 E:Env}(_hE:Ok P E)(y:Ext E0 E){w':World}(x:Sw E.w w')(hk:∀b,b<E0.w.heap.size->w'.heap[b]?=E.w.heap[b]?):Ext E0 (swE E w') :=
 ⟨⟨y.S,by show _<=w'.heap.size;rw[x.size];exact y.size,fun b hb hm=>(hk b hb).trans (y.keep b hb hm),fun b hb hm=>y.muts b hb hm,y.len,y.gen,y.obj,x.os.trans y.os,x.output.trans y.output,y.tags⟩,y.back,y.free⟩
theorem quh{P:Program}{fn:Go.Func}{tmps:Array Value}{R:Ending->World->Prop}{n0:Nat}:∀(M:List Nat) (w:World),M.Nodup->(∀r∈M,n0<=r/\w.heap[r]?=some (.deferred (some []))) ->
  (∀w',Sw w w'->(∀b,b<n0->w'.heap[b]?=w.heap[b]?)->∃v,(Go.results fn tmps).run P w'=.ok v w'/\R (.returned v) w')->Go.LeavesInM Fence.wide 0 P fn tmps R (M.map q0c) .returning w
 | [],w,_,_,h=>by simp only[List.map_nil,Go.LeavesInM,Go.LeavesIn];exact h w (Sw.refl w) fun _ _=>rfl
 | r :: M,w,hn,hr,h=>by
  obtain⟨h1,h2⟩:=hr r (by simp);have hlt:=qec h2;have hnd:=List.nodup_cons.1 hn;simp only[List.map_cons];unfold Go.LeavesInM;refine⟨by simp,.inl ⟨r,{ w with heap:=w.heap.setIfInBounds r (.deferred none) },rfl,?_,?_⟩⟩
  .simp[Go.Instr.takeDeferred,Go.getObj,Go.setObj,Sem.run,Go.Result.andThen,h2]
  .have hsw:Sw w { w with heap:=w.heap.setIfInBounds r (.deferred none) }:=by
    refine⟨by simp,fun b o hb hd=>?_,rfl,rfl⟩;have:b≠r:=fun e=>by subst e;rw[h2]at hb;cases hb;exact hd _ rfl
    simp only;rw[Array.getElem?_setIfInBounds_ne (Ne.symm this)];exact hb
   refine quh M _ hnd.2 (fun q hq=>?_) fun w' k1 k2=>h w' (hsw.trans k1) fun b hb=>(k2 b hb).trans ?_
   .obtain⟨g1,g2⟩:=hr q (by simp[hq]);refine⟨g1,?_⟩;have:q≠r:=fun e=>hnd.1 (e ▸ hq);simp only;rw[Array.getElem?_setIfInBounds_ne (Ne.symm this)];exact g2
   .simp only;rw[Array.getElem?_setIfInBounds_ne (by omega)]
theorem z0d:∀{a b:List Int},a.Pairwise (·<=·)->b.Pairwise (·<=·)->a.Perm b->a=b
 | [],b,_,_,h=>by simpa using h.symm.eq_nil
 | x :: a,[],_,_,h=>by simpa using h.eq_nil
 | x :: a,y :: b,ha,hb,h=>by
  obtain⟨a1,a2⟩:=List.pairwise_cons.1 ha;obtain⟨b1,b2⟩:=List.pairwise_cons.1 hb;have e:x=y:=by
   have hx:y∈x :: a:=h.mem_iff.2 List.mem_cons_self;have hy:x∈y :: b:=h.mem_iff.1 List.mem_cons_self;rcases List.mem_cons.1 hx with hx | hx
   .exact hx.symm
   .rcases List.mem_cons.1 hy with hy | hy
    .exact hy
    .exact Int.le_antisymm (a1 y hx) (b1 x hy)
  subst e;rw[z0d a2 b2 (h.cons_inv)]
theorem zpc(l:List Int):l.mergeSort (fun x y=>decide (x<=y))=qlc l:=by refine z0d ?_ (q3g l) ((List.mergeSort_perm l _).trans (qpe l).symm);have:=List.pairwise_mergeSort (le:=fun x y:Int=>decide (x<=y)) (fun a b c h1 h2=>by simp at h1 h2 ⊢;omega) (fun a b=>by simp;omega) l;exact this.imp fun h=>by simpa using h
theorem q5g:∀{els:List (List V)} {l:List Int},qug els=some l->els=qto l
 | [],l,h=>by simp[qug]at h;subst h;rfl
 | r :: els,l,h=>by
  unfold qug at h;split at h
  .rename_i e;cases e
  .rename_i n r' e;cases e;split at h
   .rename_i l' e';cases h;simp[qto,q5g e']
   .cases h
  .cases h
theorem zeh(l:List Int):qce (qto l)=true:=by simp[qce,qto,V.pcell]
def qvb(P:Program)(f:Nat):Prop :=
 (∃ fn, P.funcs[f]? = some fn ∧ fn.name ≠ "runtime.NumGoroutine" ∧ fn.body.isSome = true) ∧
 (∀(blk off cap:Nat) (zs:List Int) (w:World),Go.Sort.Holds (Value.int .i64) w blk off zs.toArray->blk<w.heap.size->zs.length<4611686018427387904 ->
  Go.Calls P f #[.slice (some ⟨blk,off,none⟩) zs.length cap] w fun e w'=>e=.returned (.tuple #[])/\∃n os,w'=Go.Sort.grow (Go.Sort.putRow (Value.int .i64) (Go.Sort.ahead w n) blk off (zs.mergeSort fun x y=>decide (x<=y)).toArray) os) /\
 ∀(p:Option Addr) (cap:Nat) (w:World),Go.Calls P f #[.slice p 0 cap] w fun e w'=>e=.returned (.tuple #[])/\w'=w
def AtS(w:World)(l:List (Nat×Bool))(u:Value):Prop:=∃a cap,u=.slice a l.length cap/\(l≠[]->∃blk off,a=some ⟨blk,off,none⟩/\∀(j:Nat) (x:Nat×Bool),l[j]?=some x->w.cell? ⟨blk,off+2*j,none⟩=some (.int .i64 x.1)/\w.cell? ⟨blk,off+2*j+1,none⟩=some (.bool x.2))
def AtW(w:World)(l:List (List (Nat×Bool)))(u:Value):Prop:=∃a cap,u=.slice a l.length cap/\(l≠[]->∃blk off,a=some ⟨blk,off,none⟩/\∀(j:Nat) (x:List (Nat×Bool)),l[j]?=some x->∃v,w.cell? ⟨blk,off+j,none⟩=some v/\AtS w x v)
def zqx(P:Program)(f:Nat):Prop :=
 (∃ fn, P.funcs[f]? = some fn ∧ fn.name ≠ "runtime.NumGoroutine" ∧ fn.body.isSome = true) ∧
 ∀(l:List (List (Nat×Bool))) (b:Bool) (u:Value) (w:World),AtW w l u->l.length<100->(∀x∈l,x.length<1000/\∀y∈x,y.1<100) ->
  Go.Calls P f #[.agg #[u,.bool b]] w fun e w'=>e=.returned (.string ⟨(q8h l b).toArray⟩)/\Go.RowKit.Below w.heap.size w w'
theorem q3j:∀{els:List (List V)} {l:List (Nat×Bool)},qzh els=some l->els=l.map (fun x=>[V.int .i64 x.1,V.bool x.2])/\∀y∈l,y.1<100
 | [],l,h=>by simp[qzh]at h;subst h;exact⟨rfl,by simp⟩
 | r :: els,l,h=>by
  unfold qzh at h;split at h
  .rename_i e;cases e
  .rename_i a b r' e;cases e;split at h
   .rename_i hc;split at h
    .rename_i l' e';cases h;obtain⟨h1,h2⟩:=q3j e';refine⟨?_,?_⟩
     .simp only[List.map_cons,<-h1];rw[show((a.toNat:Nat):Int)=a by omega]
     .intro y hy;rcases List.mem_cons.1 hy with rfl | hy
      .show a.toNat<100;omega
      .exact h2 y hy
    .cases h
   .cases h
  .cases h
theorem q3s:∀{els:List (List V)} {l:List (List (Nat×Bool))},q3r els=some l->els.length=l.length/\∀(j:Nat) x,l[j]?=some x->∃v e,els[j]?=some [v]/\zpb v=some e/\qzh e=some x
 | [],l,h=>by simp[q3r]at h;subst h;exact⟨rfl,by simp⟩
 | r :: els,l,h=>by
  unfold q3r at h;split at h
  .rename_i e;cases e
  .rename_i v r' e;cases e;split at h
   .rename_i e' he;split at h
    .rename_i x l' hx hl;cases h;obtain⟨h1,h2⟩:=q3s hl;refine⟨by simp[h1],?_⟩;intro j y hj;cases j with
     | zero=>simp at hj;subst hj;exact⟨v,e',rfl,he,hx⟩
     | succ j=>simpa using h2 j y (by simpa using hj)
    .cases h
   .cases h
  .cases h
theorem zqn{E:Env}{x:V}{els:List (List V)}{u:Value}(h:zpb x=some els)(hr:rel E x u):∃a cap,u=.slice a els.length cap/\(els≠[]->∃blk off n,a=some ⟨blk,off,none⟩/\qak E n els blk off):=by
 cases x<;>simp only[zpb]at h<;>try (cases h;done)
 case imm l =>
  cases h;unfold rel at hr;obtain⟨a,cap,rfl,_,_,h3⟩:=hr;refine⟨a,cap,rfl,fun hne=>?_⟩;rcases h3 with h3 | ⟨b,o,n,h4,_,_,h5⟩
  .exact absurd h3 hne
  .exact⟨b,o,n,h4,h5⟩
 case immc l =>
  cases h;unfold rel at hr;obtain⟨a,rfl,_,h3⟩:=hr;refine⟨a,_,rfl,fun hne=>?_⟩;rcases h3 with h3 | ⟨b,o,n,h4,_,_,h5⟩
  .exact absurd h3 hne
  .exact⟨b,o,n,h4,h5⟩
 case nils =>cases h;unfold rel at hr;obtain⟨a,rfl⟩:=hr;exact⟨a,0,rfl,fun h=>absurd rfl h⟩
 case nilx =>cases h;unfold rel at hr;exact⟨none,0,hr,fun h=>absurd rfl h⟩
theorem zzx{E:Env}{x:V}{els:List (List V)}{l:List (Nat×Bool)}{u:Value}(h:zpb x=some els)(hs:qzh els=some l)(hr:rel E x u):AtS E.w l u:=by obtain⟨a,cap,rfl,h1⟩:=zqn h hr;obtain⟨rfl,_⟩:=q3j hs;refine⟨a,cap,by simp,fun hne=>?_⟩;obtain⟨blk,off,n,rfl,h2⟩:=h1 (by simpa using hne);refine⟨blk,off,rfl,fun j y hj=>?_⟩;obtain⟨h3,h4⟩:=qcl h2 (i:=j) (r:=[V.int .i64 y.1,V.bool y.2]) (by rw[List.getElem?_map,hj];rfl);simp only[List.length_cons,List.length_nil]at h3;subst h3;unfold qbb at h4;obtain⟨⟨u1,h5,h6⟩,h4⟩:=h4;unfold qbb at h4;obtain⟨⟨u2,h7,h8⟩,_⟩:=h4;unfold rel at h6 h8;subst h6 h8;rw[show off+2*j=off+j*(0+1+1)by omega];exact⟨h5,h7⟩
theorem z0e{E:Env}{x:V}{els:List (List V)}{l:List (List (Nat×Bool))}{u:Value}(h:zpb x=some els)(hs:q3r els=some l)(hr:rel E x u):AtW E.w l u:=by obtain⟨a,cap,rfl,h1⟩:=zqn h hr;obtain⟨hl,hg⟩:=q3s hs;refine⟨a,cap,by rw[hl],fun hne=>?_⟩;obtain⟨blk,off,n,rfl,h2⟩:=h1 (by rintro rfl;exact hne (by simpa using hl.symm));refine⟨blk,off,rfl,fun j y hj=>?_⟩;obtain⟨v,e,g1,g2,g3⟩:=hg j y hj;obtain⟨h3,h4⟩:=qcl h2 g1;simp only[List.length_cons,List.length_nil]at h3;subst h3;unfold qbb at h4;obtain⟨⟨u1,h5,h6⟩,_⟩:=h4;exact⟨u1,by rw[show off+j=off+j*(0+1)by omega];exact h5,zzx g2 g3 h6⟩
def Made(P:Program)(pg:Prg):Prop:=∀f g,pg f=some g->(∃fn fresh raw md,P.funcs[qls f]?=some fn/\zwg P fresh raw fn md=some g)\/(g=qzg/\f<500000/\qvb P (qls f))\/(g=zle/\f<500000/\zqx P (qls f))
theorem zvj{P:Program}{f:Nat}(hs:qvb P f){E:Env}(hE:Ok P E){i g:Nat}{els:List (List V)}{l:List Int}{u:Value}(hr:rel E (.sl i g 1 0 els.length) u)(ho:E.h[i]?=some ⟨g,.arr 1 els⟩)(hlt:els.length<4611686018427387904)(hl:qug els=some l) :
  Go.Calls P f #[u] E.w fun e w'=>e=.returned (.tuple #[])/\∃E',Ok P E'/\Ext E E'/\E'.w=w'/\E'.h=E.h.set i ⟨g,.arr 1 (qto (qlc l))⟩:=by
 have he:=q5g hl;have hle:els.length=l.length:=by rw[he];simp[qto]
 by_cases h0:els.length=0
 .have hr':=hr;unfold rel at hr';obtain⟨_,_,a,cap,rfl,_⟩:=hr';rw[h0];refine(hs.2.2 a cap E.w).mono ?_;rintro e w' ⟨rfl,rfl⟩;refine⟨rfl,E,hE,Ext.refl E,rfl,?_⟩;have:l=[]:=by simpa using hle.symm.trans h0
  subst this;have:els=[]:=by simpa using h0
  subst this;obtain⟨hi,hg⟩:=jG.1 ho;show E.h=E.h.set i ⟨g,.arr 1 []⟩;rw[<-hg,List.set_getElem_self]
 .obtain⟨b,C,cap,rfl,hb⟩:=zvi hE hr ho h0 (by omega);rw[show(C.2+0)*1=C.2 by omega];have hro:=hE.obj i _ ho;unfold qem at hro;obtain⟨hpe,hor⟩:=hro;rcases hor with⟨h,_⟩ | ⟨b',C',cs,ty,q1,q2,q3,q4,q5,q6,q7⟩
  .rw[hb]at h;cases h
  .rw[hb]at q1;cases q1;have hbs:=qec q3;have hcell:∀j (hj:j<l.length),E.w.cell? ⟨b,C.2+j,none⟩=some (Value.int .i64 l[j]):=by
    intro j hj;have hje:els[j]?=some [.int .i64 l[j]]:=by rw[he];simp[qto,hj]
    have h1:=(qcl q7 hje).2;unfold qbb at h1;obtain⟨⟨u,h2,h3⟩,_⟩:=h1;unfold rel at h3;rw[show C.2*1+j*1=C.2+j by omega]at h2;rw[h2,h3]
   have hH:Go.Sort.Holds (Value.int .i64) E.w b C.2 l.toArray:=by
    intro j hj;have hj':j<l.length:=by simpa using hj
    refine⟨?_,?_⟩
    .rw[hcell j hj'];simp[hj']
    .unfold World.frozen?;rw[q3];simp
   rw[hle];refine(hs.2.1 b C.2 cap l E.w hH hbs (by omega)).mono ?_;rintro e w' ⟨rfl,n,os,rfl⟩;refine⟨rfl,?_⟩;rw[zpc];have hsz:(qlc l).length=l.length:=(qpe l).length_eq;generalize hw':Go.Sort.grow (Go.Sort.putRow (Value.int .i64) (Go.Sort.ahead E.w n) b C.2 (qlc l).toArray) os=w';have hold:∀k,k<E.w.heap.size->k≠b->w'.heap[k]?=E.w.heap[k]?:=by intro k hk hne;rw[<-hw',Go.Sort.heap_grow_old _ _ (by simpa using hk)];simp[Go.Sort.putRow,Go.Sort.mapBlock,Array.getElem?_modify,Ne.symm hne]
   have hnew:w'.heap[b]?=some (.cells (Go.Sort.putCells (Value.int .i64) C.2 (qlc l).toArray cs) ty (0,0)):=by rw[<-hw',Go.Sort.heap_grow_old _ _ (by simpa using hbs)];simp[Go.Sort.putRow,Go.Sort.mapBlock,Array.getElem?_modify,q3,Go.Sort.onCells]
   have hwc:∀j (hj:j<(qlc l).length),w'.cell? ⟨b,C.2+j,none⟩=some (Value.int .i64 (qlc l)[j]):=by intro j hj;have:=Go.Sort.cell?_putRow (Value.int .i64) E.w b C.2 l.toArray (qlc l).toArray hH (by simpa using hsz) j (by simpa using hj);rw[<-hw',Go.Sort.cell?_grow _ _ _ (by simpa using hbs)];rw[Go.Sort.putRow_ahead,Go.Sort.cell?_ahead,this];simp[hj]
   obtain⟨k1,k2⟩:=qkz hE ho rfl (o':=⟨g,.arr 1 (qto (qlc l))⟩) (fun _ h=>by cases h) (w':=w') (by rw[<-hw'];simp) (fun k hk hne=>hold k hk fun h=>hne C (by rw[h];exact hb)) (by rw[<-hw'];rfl) (by rw[<-hw'];rfl) (E.b i) (fun k D hk=>.inl ⟨D,hk⟩)
    (jD _) rfl (fun _=>⟨rfl,by simp[qmi,qto,hle,hsz],rfl⟩) (fun y=>by
     unfold qem;refine⟨zeh _,.inr ⟨b,C,_,ty,by simp[hb],q2,hnew,q4,by simp[Go.Sort.putCells,q5],by simp[qto,hsz];omega,?_⟩⟩;rw[qge];intro j r hj;simp only[qto,List.getElem?_map,jM]at hj;obtain⟨z,hz,rfl⟩:=hj;obtain⟨hz1,hz2⟩:=jG.1 hz;refine⟨rfl,?_⟩;unfold qbb;refine⟨⟨.int .i64 z,?_,by unfold rel;rfl⟩,by unfold qbb;trivial⟩;have:=hwc j hz1;rw[hz2]at this;rw[show C.2*1+j*1=C.2+j by omega];exact this)
   exact⟨_,k1,k2,rfl,rfl⟩
variable{md:Nat}
def qps(E:Env)(ro:Option Nat):Prop:=∀b,ro=some b->∃id C o,E.b id=some (b,C)/\E.h[id]?=some o/\qje o.k=4
theorem qht{E E':Env}(x:Ext E E'){ro:Option Nat}(h:qps E ro):qps E' ro:=by intro b hb;obtain⟨id,C,o,h1,h2,h3⟩:=h b hb;have hlt:=qbe h2;have hlt':=jS hlt x.len;obtain⟨o0,q1,q2⟩:=x.tags id _ hlt (jA hlt');rw[h2]at q1;cases q1;obtain⟨o1,r1,r2,_,_,r5,_⟩:=x.obj id _ hlt (jA hlt') (.inr (by omega));exact⟨id,C,_,r5 _ h1,jA hlt',by omega⟩
theorem zix{E E':Env}(x:Ext E E'){id:Nat}{o':Ob}(hlt:id<E.h.length)(h:E'.h[id]?=some o')(ht:qje o'.k=4){y:Nat×Nat×Nat}(hb:E.b id=some y):E'.b id=some y:=by obtain⟨o1,r1,r2,_,_,r5,_⟩:=x.obj id _ hlt h (.inr (by omega));exact r5 _ hb
def qmn(P:Program)(sf:Q->Option R):Prop:=∀{md:Nat} (c:Go.Code) (ro:Option Nat) (E:Env) (s:List V) (a:Act) (res:R),Ok P E->qps E ro->qaj E s a.tmps.toList->sf (.code (qcj md P c) ⟨s,E.h⟩)=some res->c.wpIn (F0 ro) 0 P (q7e P E a res) a E.w
theorem zut{E:Env}{vs:List V}{us:Array Value}(h:qaj E vs us.toList)(n:Nat):qaj E (q3w n vs) (us++Array.replicate (n-us.size) undef).toList:=by
 have hl:=qau h;simp only[q3w,Array.toList_append,Array.toList_replicate];refine qck h ?_;have:vs.length=us.size:=by simpa using hl
 rw[this];generalize n-us.size=k;induction k with
 | zero=>simp[qaj]
 | succ k ih =>simp only[List.replicate_succ];unfold qaj;exact⟨_,_,rfl,by unfold rel;trivial,ih⟩
theorem zdg{P:Program}{f:Nat}(hs:qvb P f){sf:Q->Option R}(hV:∀k st r,sf (.code (.giv k) st)=some r->zlc k st=some r){vs:List V}{E:Env}{res:R}{us:Array Value}(hE:Ok P E)(hr:qaj E vs us.toList)
  (h:(match sf (.code qzg.body ⟨q3w qzg.ntmps vs,E.h⟩)with
   | some r=>(match r.x with
    | .exit _=>none
    | _=>match qme qzg E.h.length r.st with
     | some (v,h')=>some { v:=v,st:=⟨[],h'⟩ }
     | none=>none)
   | none=>none)=some res) :
  (∃ fn, P.funcs[f]? = some fn ∧ fn.name ≠ "runtime.NumGoroutine" ∧ fn.body.isSome = true) ∧ CallsIn Fence.wide 0 P f us E.w (Ret P E res.v res.st.h) := by
 refine⟨hs.1,Go.callsIn_wide.2 ?_⟩;cases e:sf (.code qzg.body ⟨q3w qzg.ntmps vs,E.h⟩)with
 | none=>rw[e]at h;cases h
 | some r =>
  rw[e]at h;have hg:=hV _ _ _ e;unfold zlc at hg;rw[if_pos rfl]at hg;split at hg
  .rename_i i g m o n es;split at hg
   .rename_i g' w els ho;split at hg
    .rename_i hc;obtain⟨rfl,rfl,rfl,rfl,rfl,hlt⟩:=hc;split at hg
     .rename_i l hl;cases hg;have hvs:vs=[.sl i g' 1 0 els.length]:=by
       rw[show qzg.ntmps=1 from rfl]at es;unfold q3w at es;cases vs with
       | nil=>simp at es
       | cons v vs =>simp only[List.length_cons,List.cons_append,List.cons.injEq]at es;obtain⟨rfl,es⟩:=es;have:=(List.append_eq_nil_iff.1 es).1;rw[this]
      subst hvs;unfold qaj at hr;obtain⟨u,us',hu,h1,h2⟩:=hr;unfold qaj at h2;subst h2;have hus:us=#[u]:=by cases us;simpa using hu
      subst hus;simp only[qme,rvs,qzg]at h;simp[qyy,zev,qeq]at h;subst h;refine(zvj hs hE h1 ho hlt hl).mono ?_;rintro e w' ⟨rfl,E',k1,k2,rfl,k4⟩;exact⟨qkm E.h.length E',.tuple #[],rfl,qwe k1 _,qoj k2 (jD _),qmt _ _,by rw[qsq,k4],by unfold rel;exact⟨#[],rfl,by unfold qaj;rfl⟩⟩
     .cases hg
    .cases hg
   .cases hg
  .cases hg
theorem zhw{P:Program}{f:Nat}(hs:zqx P f){sf:Q->Option R}(hV:∀k st r,sf (.code (.giv k) st)=some r->zlc k st=some r){vs:List V}{E:Env}{res:R}{us:Array Value}(hE:Ok P E)(hr:qaj E vs us.toList)
  (h:(match sf (.code zle.body ⟨q3w zle.ntmps vs,E.h⟩)with
   | some r=>(match r.x with
    | .exit _=>none
    | _=>match qme zle E.h.length r.st with
     | some (v,h')=>some { v:=v,st:=⟨[],h'⟩ }
     | none=>none)
   | none=>none)=some res) :
  (∃ fn, P.funcs[f]? = some fn ∧ fn.name ≠ "runtime.NumGoroutine" ∧ fn.body.isSome = true) ∧ CallsIn Fence.wide 0 P f us E.w (Ret P E res.v res.st.h) := by
 refine⟨hs.1,Go.callsIn_wide.2 ?_⟩;cases e:sf (.code zle.body ⟨q3w zle.ntmps vs,E.h⟩)with
 | none=>rw[e]at h;cases h
 | some r =>
  rw[e]at h;have hg:=hV _ _ _ e;unfold zlc at hg;rw[if_neg (by decide),if_pos rfl]at hg;unfold z3c at hg;split at hg
  .rename_i x b es;split at hg
   .rename_i els hx;split at hg
    .rename_i l hl;split at hg
     .rename_i hc;cases hg;have hvs:vs=[.agg [x,.bool b]]:=by
       rw[show zle.ntmps=1 from rfl]at es;unfold q3w at es;cases vs with
       | nil=>simp at es
       | cons v vs =>simp only[List.length_cons,List.cons_append,List.cons.injEq]at es;obtain⟨rfl,es⟩:=es;have:=(List.append_eq_nil_iff.1 es).1;rw[this]
      subst hvs;unfold qaj at hr;obtain⟨u,us',hu,h1,h2⟩:=hr;unfold qaj at h2;subst h2;have hus:us=#[u]:=by cases us;simpa using hu
      subst hus;unfold rel at h1;obtain⟨cs,rfl,h1⟩:=h1;unfold qaj at h1;obtain⟨ux,c1,e1,h3,h1⟩:=h1;unfold qaj at h1;obtain⟨ub,c2,e2,h4,h1⟩:=h1;unfold qaj at h1;unfold rel at h4;subst h1 h4 e2;have hcs:cs=#[ux,.bool b]:=by cases cs;simpa using e1
      subst hcs;simp only[qme,rvs,zle]at h;simp[rvV,qah,qyy,zda,zyg,q7y,V.cells,zev,qeq,V.low,V.low1,qfq,qan,zjx,V.pure]at h;subst h;have hw:=z0e hx hl h3;refine(hs.2 l b ux E.w hw hc.1 (fun y hy=>⟨by have:=(jP.1 hc.2) y hy;exact of_decide_eq_true this,?_⟩)).mono ?_
      .intro z hz;obtain⟨j,hj⟩:=List.mem_iff_getElem?.1 hy;obtain⟨v,e',_,_,g3⟩:=(q3s hl).2 j y hj;exact(q3j g3).2 z hz
      rintro e w' ⟨rfl,hb⟩;obtain⟨k1,k2⟩:=qww hE (w':=w') ⟨hb.size,hb.block,hb.os,hb.output⟩ (S':=E.S) (fun _ h=>h) (fun _ h=>.inl h);exact⟨qkm E.h.length ⟨E.b,E.S,E.h,w'⟩,_,rfl,qwe k1 _,qoj k2 (jD _),qmt _ _,by rw[qsq],by unfold rel;rfl⟩
     .cases hg
    .cases hg
   .cases hg
  .cases hg
theorem zsq{P:Program}{pg:Prg}{sf:Q->Option R}(hpg:Made P pg)(hV:∀k st r,sf (.code (.giv k) st)=some r->zlc k st=some r)(hC:qmn P sf):zwq P (qci pg sf):=by
 intro fid first caps args E res us hE hr h
 simp only[qci]at h;cases e:pg fid with
 | none=>rw[e]at h;cases h
 | some g =>
  rw[e]at h;simp only at h;rcases hpg fid g e with⟨fn,fresh,raw,md,hf,hg⟩ | ⟨rfl,_,hs⟩ | ⟨rfl,_,hs⟩
  rotate_left
  .exact zdg hs hV hE hr h
  .exact zhw hs hV hE hr h
  unfold zwg at hg;split at hg
  .cases hg
  split at hg
  .cases hg
  .rename_i hname;simp only[jM]at hg;obtain⟨b,hb,rfl⟩:=hg;simp only at h;refine⟨⟨fn,hf,by simpa using hname,by rw[hb];rfl⟩,?_⟩;cases e2:sf (.code (qcj md P b) ⟨q3w fn.ntmps (first++args++caps),E.h⟩)with
   | none=>rw[e2]at h;cases h
   | some r =>
    rw[e2]at h;simp only at h;have hx:(∀id,r.x ≠ .exit id)/\∃v h',qme { ntmps:=fn.ntmps,results:=fn.results.toList.map (cRV P),body:=qcj md P b,fresh:=fresh,raw:=raw } E.h.length r.st=some (v,h')/\res={ v:=v,st:=⟨[],h'⟩ }:=by
     cases hx:r.x<;>rw[hx]at h<;>simp only at h
     case exit=>cases h
     all_goals
      refine⟨fun id hh=>by(cases hh),?_⟩;split at h
      .rename_i v h' hl;cases h;exact⟨v,h',hl,rfl⟩
      .cases h
    obtain⟨hx,v,h',hl,rfl⟩:=hx;refine Go.callsIn_of_wp_marks (F:=Fence.wide) hf hb trivial ?_;have hw:=hC b none E _ { tmps:=us++Array.replicate (fn.ntmps-us.size) undef,defers:=[] } r hE (fun _ h=>by cases h) (zut hr fn.ntmps) e2;refine Go.wpIn_mono (F:=Fence.wide) hw ?_;rintro e' a' w' ⟨E',M,k1,k2,rfl,k4,k5,rfl,k7,k8⟩;have key:Go.LeavesInM Fence.wide 0 P fn a'.tmps (Ret P E v h') a'.defers .returning E'.w:=by
     rw[k7];simp only[List.append_nil];refine quh M E'.w k8.1 k8.2 fun w'' s1 s2=>?_;have hl2:qme { ntmps:=fn.ntmps,results:=fn.results.toList.map (cRV P),body:=qcj md P b,fresh:=fresh,raw:=raw } E.h.length ⟨r.st.s,(swE E' w'').h⟩=some (v,h'):=by show qme _ _ ⟨r.st.s,E'.h⟩=_;rw[k4];exact hl
     obtain⟨E3,u,g1,g2,g3,g4,g5,g6⟩:=znw (z5a k1 s1) (zzz k1 k2 s1 s2) (qql s1 _ _ k5) (g:={ ntmps:=fn.ntmps,results:=fn.results.toList.map (cRV P),body:=qcj md P b,fresh:=fresh,raw:=raw }) rfl hl2;exact⟨u,g1,E3,u,rfl,g2,g3,g4,g5,g6⟩
    cases hxx:r.x with
    | normal=>exact key
    | ret=>exact key
    | exit id=>exact absurd hxx (hx id)
theorem zax{E:Env}:∀{ps:List Nat} {args:List V} {us:List Value} {sl:List V} {ts:Array Value},qaj E args us->args.length=ps.length->qaj E sl ts.toList ->
  qaj E (qfr sl ps args) ((ps.zip us).foldl (fun(tmps:Array Value) (p:Nat×Value)=>tmps.setIfInBounds p.1 p.2) ts).toList
 | [],args,us,sl,ts,_,_,h=>by cases args<;>simpa[qfr]using h
 | p :: ps,[],us,sl,ts,_,hl,h=>by simp at hl
 | p :: ps,v :: args,us,sl,ts,ha,hl,h=>by unfold qaj at ha;obtain⟨u,us',rfl,h1,h2⟩:=ha;simp only[qfr,List.zip_cons_cons,List.foldl_cons];refine zax h2 (by simpa using hl) ?_;rw[Array.toList_setIfInBounds];exact q3b h1 p h
theorem zkw{E:Env}{L:Go.Loop}{sl args:List V}{us:Array Value}(h1:qaj E sl L.tmps.toList)(h2:qaj E args us.toList)(hl:args.length=L.params.toList.length):qaj E (qfr sl L.params.toList args) (q7a L us).toList:=by
 have:=zax h2 hl h1;have e:q7a L us=(L.params.toList.zip us.toList).foldl (fun(tmps:Array Value) (p:Nat×Value)=>tmps.setIfInBounds p.1 p.2) L.tmps:=by unfold q7a;rw[<-Array.foldl_toList,Array.toList_zip]
 rw[e];exact this
theorem q2p{P:Program}{E:Env}(hE:Ok P E){l g b:Nat}{D:Nat×Nat}{sl sl':List V}{ps:List Nat}{as bd:C}{p p':Option X}{L L':Go.Loop}(ho:E.h[l]?=some ⟨g,.loop sl ps as bd p⟩)(hb:E.b l=some (b,D))(hw:E.w.heap[b]?=some (.loop L))(hn:¬E.S b)
  (ht:qaj E sl' L'.tmps.toList) (h1:L'.params.toList=ps) (h2:∃md,qcj md P L'.assign=as/\qcj md P L'.body=bd)
  (h4:match p' with
     | none=>L'.state=.ready/\L'.pending=none
     | some .normal=>True
     | some x=>L'.state=.done/\L'.pending=q6b x) :
  ∃E',Ok P E'/\Ext E E'/\E'.h=E.h.set l ⟨g,.loop sl' ps as bd p'⟩/\E'.w={ E.w with heap:=E.w.heap.setIfInBounds b (.loop L') }/\E'.S=E.S:=by
 have hbs:=qec hw;obtain⟨k1,k2⟩:=qkz hE ho rfl (o':=⟨g,.loop sl' ps as bd p'⟩) (fun _ h=>by cases h) (w':={ E.w with heap:=E.w.heap.setIfInBounds b (.loop L') }) (by simp) (fun k hk hne=>by
   have:k≠b:=fun h=>hne D (by rw[h];exact hb);simp only;rw[Array.getElem?_setIfInBounds_ne (Ne.symm this)]) rfl rfl (E.b l) (fun k D' hk=>.inl ⟨D',hk⟩)
  (jD _) rfl (fun _=>⟨rfl,jD _,rfl⟩) (fun y=>by
   unfold qem;refine⟨b,D,L',by simp[hb],hn,by simp[hbs],qba hE y.toExt0 _ _ ht,h1,h2,h4⟩)
 exact⟨_,k1,k2,rfl,rfl,rfl⟩
theorem zpi{P:Program}{pg:Prg}{sf:Q->Option R}(hC:qmn P sf):zfh P (qci pg sf):=by
 intro l args E res us hE hr h;simp only[qci]at h;split at h
 .rename_i g0 sl params assign bd0 hob;split at h
  .rename_i hlen;have hro:=hE.obj l _ hob;unfold qem at hro;obtain⟨b,C,L,q1,q2,q3,q4,q5,⟨md,q6,q7⟩,q8⟩:=hro;have hlt:=qbe hob;have hRo:qps E (some b):=fun b' hb'=>by cases hb';exact⟨l,C,_,q1,hob,rfl⟩
   have hal:=qau hr;refine⟨b,C,L,q1,⟨_,hob,rfl⟩,q3,?_,?_⟩
   .rw[<-q5]at hlen;simp at hal hlen;omega
   .cases e1:sf (.code assign ⟨qfr sl params args,E.h⟩)with
    | none=>rw[e1]at h;cases h
    | some r1 =>
     rw[e1]at h;simp only at h;cases hx1:r1.x<;>rw[hx1]at h<;>simp only at h<;>try (cases h;done)
     split at h
     .rename_i g sl' ps' as' bd' hob1;cases e2:sf (.code bd0 ⟨r1.st.s,r1.st.h.set l ⟨g,.loop sl' ps' as' bd' (some .normal)⟩⟩)with
      | none=>rw[e2]at h;cases h
      | some r2 =>
       rw[e2]at h;simp only at h;split at h
       .rename_i g2 sl2 ps2 as2 bd2 p2 hob2;refine Go.roundIn_of_wpIn (F:=Fence.wide) trivial ?_;have hset:qaj E (qfr sl params args) (q7a L us).toList:=by
         rw[<-q5];exact zkw q4 hr (by rw[q5];exact hlen)
        have ha:=hC L.assign (some b) E (qfr sl params args) { tmps:=q7a L us,defers:=[] } r1 hE hRo hset (by rw[q6];exact e1);refine Go.wpIn_mono (F:=F0 (some b)) ha ?_;rintro e a1 w1 ⟨E1,M1,k1,k2,rfl,k4,k5,rfl,k7,k8⟩;rw[hx1];have hob1':E1.h[l]?=some ⟨g,.loop sl' ps' as' bd' none⟩:=by rw[k4];exact hob1
        have hb1:=zix k2 hlt hob1' rfl q1;have hro1:=k1.obj l _ hob1';unfold qem at hro1;obtain⟨b1,C1,L1,p1,p2',p3,p4,p5,p6,p8⟩:=hro1;rw[hb1]at p1;cases p1;obtain⟨E2,m1,m2,m3,m4,m5⟩:=q2p (p':=some .normal) (L':={ L1 with state:=.busy }) k1 hob1' hb1 p3 p2' p4 p5 p6 trivial;refine⟨E2.w,?_,?_⟩
        .rw[m4];simp[Go.Instr.beginRound,Go.Instr.getLoop,Go.getObj,Go.setObj,Sem.run,Go.Result.andThen,p3,p8.1]
        .have hbd:=hC L.body (some b) E2 r1.st.s a1 r2 m1 (qht m2 (qht k2 hRo)) (qba k1 m2.toExt0 _ _ k5) (by rw[q7,m3,k4];exact e2);refine Go.wpIn_mono (F:=F0 (some b)) hbd ?_;rintro e a2 w3 ⟨E3,M3,n1,n2,rfl,n4,n5,rfl,n7,n8⟩;have c1:=qwe n1 E.h.length;have c2:Ext E (qkm E.h.length E3):=qoj ((k2.trans m2).trans n2) (jD _);have hob3:(qkm E.h.length E3).h[l]?=some ⟨g2,.loop sl2 ps2 as2 bd2 p2⟩:=by
          rw[qsq,n4];exact hob2
         have hb3:=zix c2 hlt hob3 rfl q1;have hro3:=c1.obj l _ hob3;unfold qem at hro3;obtain⟨b3,C3,L3,t1,t2,t3,t4,t5,t6,t8⟩:=hro3;rw[hb3]at t1;cases t1;have fin:∀(p:Option X) (jump:Option Go.Code),(p=none/\jump=none\/∃x,p=some x/\x ≠ .normal/\jump=q6b x/\jump≠none) ->
           ∃v w4,(Go.Instr.endRound b jump).run P E3.w=.ok v w4/\Ret P E (.bool jump.isNone) ((qde E.h.length r2.st.h).set l ⟨g2,.loop sl2 ps2 as2 bd2 p⟩) (.returned v) w4:=by
          intro p jump hpj;obtain⟨E4,d1,d2,d3,d4,d5⟩:=q2p (p':=p) (L':={ L3 with state:=if jump.isNone then .ready else .done,pending:=jump }) c1 hob3 hb3 t3 t2 t4 t5 t6 (by
           rcases hpj with⟨rfl,rfl⟩ | ⟨x,rfl,hx,rfl,hj⟩
           .simp
           .cases x with
            | normal=>exact absurd rfl hx
            | exit id=>simp[q6b]
            | ret=>simp[q6b])
          refine⟨.bool jump.isNone,E4.w,?_,E4,_,rfl,d1,c2.trans d2,rfl,by rw[d3,qsq,n4],by unfold rel;rfl⟩;rw[d4];have t3':E3.w.heap[b]?=some (.loop L3):=by rw[<-qmt E.h.length E3];exact t3
          simp[Go.Instr.endRound,Go.Instr.getLoop,Go.getObj,Go.setObj,Sem.run,Go.Result.andThen,t3',qmt]
         cases hx2:r2.x<;>rw[hx2]at h<;>simp only[jC]at h<;>subst h
         .exact fin none none (.inl ⟨rfl,rfl⟩)
         .exact fin _ (some (.exit _)) (.inr ⟨_,rfl,by simp,rfl,by simp⟩)
         .exact fin _ (some .ret) (.inr ⟨_,rfl,by simp,rfl,by simp⟩)
       .cases h
     .cases h
  .cases h
 .cases h
end Go.Am
