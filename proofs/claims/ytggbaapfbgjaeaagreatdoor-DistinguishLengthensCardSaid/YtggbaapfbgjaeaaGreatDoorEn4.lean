/- Functions and. -/
import Derived.Test.YtggbaapfbgjaeaaGreatDoorEn3
import Derived.RangeFuncLeaves
import Derived.Sort.Grow
import Derived.Below
set_option linter.all false
set_option maxHeartbeats 4000000
namespace Go.Am
open Go (World Value Addr Obj Program Act Operand Oper Op Sem Result Next undef execOp TypeId TypeDesc)
variable{md:Nat}
theorem qqn{P:Program}{o:Oper}{q:O}(h:cOp md P o=some q):zop md P o=some q:=by
 unfold cOp at h;split at h
 .split at h
  .cases h
  .rename_i e _;cases h;exact e
 .cases h
theorem qpd:∀{l:List (Nat×Operand)} {ps:List (Nat×A)},l.mapM qyq=some ps->ps.length=l.length
 | [],ps,h=>by simp at h;subst h;rfl
 | x :: xs,ps,h=>by simp only[List.mapM_cons,bind,jB,pure,jC]at h;obtain⟨a,_,b,h2,rfl⟩:=h;simp[qpd h2]
section
variable{P:Program}{E:Env}(hE:Ok P E){s:List V}{a:Act}(hs:qai E s a.tmps.toList){o:Oper}
include hE
omit hE in
theorem zae{p q:V}{h:H}{ks:List Nat}{neg:Bool}{v:V}{h':H}(hv:(match p,q with
  | .agg a,.agg b=>match eqL ks a b with
   | some t=>some (V.bool (if neg then !t else t),h)
   | none=>none
  | _,_=>none)=some (v,h')):∃a b t,p=.agg a/\q=.agg b/\eqL ks a b=some t/\v=.bool (if neg then !t else t)/\h'=h:=by
 split at hv
 .split at hv
  .cases hv;exact⟨_,_,_,rfl,rfl,by assumption,rfl,rfl⟩
  .cases hv
 .cases hv
theorem q7g{x:Operand}{t e:TypeId}{n:Nat}{c:Go.Call}(ho:o.op=.call c)(hc:c.callee=.builtin .len)(ha:c.args.toList=[x])(hat:c.argTypes.toList=[t])(ht:P.underlying t=some (.array n e)):Does P E a o (.int .i64 n) E.h:=by
 have ha':c.args=#[x]:=by rw[<-Array.toList_inj];simpa using ha
 have hat':c.argTypes=#[t]:=by rw[<-Array.toList_inj];simpa using hat
 refine Does.same hE (u:=.int .i64 n) ?_ (by unfold rel;rfl);simp[execOp,ho,Go.resolve,hc,ha',hat',Go.invoke,Go.builtin,Go.Builtin.len_,Go.run_underlying ht,Go.goInt]
include hs
omit hE in
theorem zaq{x:Operand}{y:A}(hc:cA x=some y):rel E ((zyc y).ev s) (a.eval x):=by
 have h:=qax hs hc;unfold zyc;split
 .cases x with
  | const v =>
   simp only[cA,jM]at hc;obtain⟨w,hw,e⟩:=hc;cases e;have hv:v=.slice none 0 0:=by
    unfold cV at hw;split at hw
    .simp only[jM]at hw;obtain⟨_,_,e⟩:=hw;cases e
    .unfold cV1 at hw;split at hw<;>try (cases hw;done)
     .rfl
     .split at hw<;>cases hw
   subst hv;simp only[A.ev,Act.eval];unfold rel;rfl
  | tmp t=>simp[cA]at hc
  | func f=>simp only[cA]at hc;split at hc<;>cases hc
  | global g=>simp[cA]at hc
 .exact h
theorem q9n{x:Operand}{y:A}(ho:o.op=.move x\/o.op=.assign x)(hc:cA x=some y){v:V}{h':H}(hv:exO (.mv (if z2z md then zyc y else y)) s E.h=some (v,h')):Does P E a o v h':=by
 cases hv;split
 .exact Does.same hE (by rcases ho with ho | ho<;>simp[execOp,ho]) (zaq hs hc)
 .exact zrc hE hs ho hc
theorem zgp{q:O}(hc0:cOp md P o=some q){v:V}{h':H}(hv:exO q s E.h=some (v,h')):Does P E a o v h':=by
 have hc:=qqn hc0;cases hop:o.op<;>(unfold zop at hc;rw[hop]at hc;simp only at hc)<;>try (cases hc;done)
 case move x =>simp only[jM]at hc;obtain⟨x',h1,rfl⟩:=hc;exact q9n hE hs (.inl hop) h1 hv
 case assign x =>simp only[jM]at hc;obtain⟨x',h1,rfl⟩:=hc;exact q9n hE hs (.inr hop) h1 hv
 case pick c x y =>
  simp only[Option.bind_eq_bind,Option.pure_def,jB,jC]at hc;obtain⟨c',h1,x',h2,y',h3,rfl⟩:=hc;simp only[exO]at hv;split at hv
  .cases hv;exact zge hE hs hop h1 h2 h3 (by assumption)
  .cases hv
 case alloc e =>
  simp only[jB]at hc;obtain⟨z,h1,hc⟩:=hc;split at hc
  .rename_i hk;cases hc;cases hv;exact zcg hE hop h1 (by simpa using hk)
  .cases hc
 case box e x =>
  simp only[jM]at hc;obtain⟨x',h1,rfl⟩:=hc;simp only[exO]at hv;split at hv
  .cases hv;exact zls hE hs hop h1 (by assumption)
  .cases hv
 case build t parts =>
  simp only[Option.bind_eq_bind,Option.pure_def,jB]at hc;obtain⟨zs,hz,hc⟩:=hc;have fin:∀ps,((∃fs,P.underlying t=some (.struct fs)/\parts.toList.mapM (zix P fs)=some ps/\fs.toList.all (fun f=>(P.info? f.type).isSome)=true)\/(∃n e,P.underlying t=some (.array n e)/\parts.toList.mapM (ziw P e)=some ps/\(P.info? e).isSome=true)) ->
    exO (.build zs ps) s E.h=some (v,h')->Does P E a o v h':=by
   intro ps hp hv;simp only[exO]at hv;split at hv
   .cases hv;exact zch hE hs hop hz hp (by assumption)
   .cases hv
  split at hc
  .rename_i fs ht;simp only[jB]at hc;obtain⟨ps,hp,hc⟩:=hc;split at hc
   .rename_i hall;cases hc;exact fin ps (.inl ⟨fs,ht,hp,hall⟩) hv
   .cases hc
  .rename_i n e ht;simp only[jB]at hc;obtain⟨ps,hp,hc⟩:=hc;split at hc
   .rename_i hall;cases hc;exact fin ps (.inr ⟨n,e,ht,hp,hall⟩) hv
   .cases hc
  .cases hc
 case buildSlice t len parts =>
  simp only[Option.bind_eq_bind,Option.pure_def,jB]at hc;obtain⟨e,he,zs,hz,ps,hp,hc⟩:=hc;have ht:P.underlying t=some (.slice e):=by
   unfold qfk at he;split at he
   .cases he;assumption
   .cases he
  split at hc
  .rename_i hh;cases hc;exact zmb hE hs hop ht hz hp hh.2.2.1 hh.2.2.2.1 hh.2.2.2.2 hv
  split at hc
  .rename_i hh;cases hc;exact zlz hE hs hop ht hz hp hh.2.2.1 hh.2.2.2.1 hh.1 hh.2.2.2.2 hv
  split at hc
  .rename_i hh;cases hc;by_cases h0:len=0
   .subst h0;simp only[exO,if_true]at hv;split at hv
    .rename_i hps;cases hv;have hps':ps=[]:=by simpa using hps
     subst hps';have hp0:parts.toList=[]:=by have:=qpd hp;exact List.length_eq_zero_iff.1 this.symm
     exact q4e hE hop ht hh.2.1 hp0
    .cases hv
   .exact q7f hE hs hop ht hz hp hh.1 hh.2.1 h0 hh.2.2 hv
  .cases hc
 case load t x =>
  simp only[Option.bind_eq_bind,Option.pure_def,jB,jC]at hc;obtain⟨z,hz,x',h1,rfl⟩:=hc;simp only[exO]at hv;split at hv
  .cases hv;exact zfz hE hs hop hz h1 (by assumption)
  .cases hv
 case store t x y =>
  split at hc
  .rename_i hz;simp only[Option.bind_eq_bind,Option.pure_def,jB,jC]at hc;obtain⟨x',h1,y',h2,rfl⟩:=hc;simp only[exO]at hv;split at hv
   .cases hv;refine zck hE hs hop hz h1 ?_ (by assumption);split
    .exact zaq hs h2
    .exact qax hs h2
   .cases hv
  .cases hc
 case nilCheck x =>
  simp only[jM]at hc;obtain⟨x',h1,rfl⟩:=hc;simp only[exO]at hv;split at hv<;>rename_i hx<;>cases hv<;>rw[<-hx]
  .exact qod hE hs hop h1 (.inl ⟨_,hx⟩)
  .exact qod hE hs hop h1 (.inr (.inl ⟨_,_,_,_,hx⟩))
  .exact qod hE hs hop h1 (.inr (.inr (.inr ⟨_,_,hx⟩)))
  .exact qod hE hs hop h1 (.inr (.inr (.inl ⟨_,_,_,hx⟩)))
 case binOp op t x y yt =>
  have fin:∀isb,(isb=true->P.underlying t=some .bool)->(do return O.bin isb op (<-cA x) (<-cA y))=some q->Does P E a o v h':=by
   intro isb hb hc;simp only[Option.bind_eq_bind,Option.pure_def,jB,jC]at hc;obtain⟨x',h1,y',h2,rfl⟩:=hc;simp only[exO]at hv;split at hv
   .cases hv;exact zlr hE hs hop hb h1 h2 (by assumption)
   .cases hv
  split at hc
  .exact fin true (fun _=>by assumption) hc
  .exact fin false (fun h=>by cases h) hc
  .exact fin false (fun h=>by cases h) hc
  .rename_i fs ht;simp only[Option.bind_eq_bind,jB]at hc;obtain⟨kss,hks,hc⟩:=hc;split at hc
   .rename_i hcond;simp only[jE,Bool.not_eq_true']at hcond;obtain⟨⟨hof,hst⟩,hg⟩:=hcond;have fin2:∀neg,((neg=false/\op=.eql)\/(neg=true/\op=.neq))->(do return O.eqa neg kss.flatten (<-cA x) (<-cA y))=some q->Does P E a o v h':=by
     intro neg hop' hc;simp only[Option.bind_eq_bind,Option.pure_def,jB,jC]at hc;obtain⟨x',h1,y',h2,rfl⟩:=hc;simp only[exO]at hv;obtain⟨p,r,b,e1,e2,e3,rfl,rfl⟩:=zae hv;exact zlw hE hs hop hop' ht hks hst hg hof h1 h2 e1 e2 e3
    split at hc
    .exact fin2 false (.inl ⟨rfl,rfl⟩) hc
    .exact fin2 true (.inr ⟨rfl,rfl⟩) hc
    .cases hc
   .cases hc
  .rename_i n e ht;simp only[Option.bind_eq_bind,jB]at hc;obtain⟨k,hk,hc⟩:=hc;split at hc
   .rename_i hcond;simp only[jE,jW,Bool.not_eq_true']at hcond;have fin2:∀neg,((neg=false/\op=.eql)\/(neg=true/\op=.neq))->(do return O.eqa neg (List.replicate n k) (<-cA x) (<-cA y))=some q->Does P E a o v h':=by
     intro neg hop' hc;simp only[Option.bind_eq_bind,Option.pure_def,jB,jC]at hc;obtain⟨x',h1,y',h2,rfl⟩:=hc;simp only[exO]at hv;obtain⟨p,r,b,e1,e2,e3,rfl,rfl⟩:=zae hv;exact zfv hE hs hop hop' ht hk hcond.1 hcond.2 h1 h2 e1 e2 e3
    split at hc
    .exact fin2 false (.inl ⟨rfl,rfl⟩) hc
    .exact fin2 true (.inr ⟨rfl,rfl⟩) hc
    .cases hc
   .cases hc
  .rename_i e ht;split at hc
   .simp only[Option.bind_eq_bind,Option.pure_def,jB,jC]at hc;obtain⟨x',h1,rfl⟩:=hc;exact qzc hE hs hop (.inl ⟨rfl,rfl⟩) ht h1 hv
   .simp only[Option.bind_eq_bind,Option.pure_def,jB,jC]at hc;obtain⟨x',h1,rfl⟩:=hc;exact qzc hE hs hop (.inr ⟨rfl,rfl⟩) ht h1 hv
   .cases hc
  .rename_i e ht;split at hc
   .simp only[Option.bind_eq_bind,Option.pure_def,jB,jC]at hc;obtain⟨x',h1,rfl⟩:=hc;exact qvv hE hs hop (.inl ⟨rfl,rfl⟩) ht h1 hv
   .simp only[Option.bind_eq_bind,Option.pure_def,jB,jC]at hc;obtain⟨x',h1,rfl⟩:=hc;exact qvv hE hs hop (.inr ⟨rfl,rfl⟩) ht h1 hv
   .cases hc
  .cases hc
 case unOp op t x =>
  simp only[Option.bind_eq_bind,Option.pure_def,jB,jC]at hc;obtain⟨x',h1,rfl⟩:=hc;simp only[exO]at hv;split at hv
  .cases hv;exact zrd hE hs hop h1 (by assumption)
  .cases hv
 case convert src dst x =>
  have fin:∀c,(cA x).map (O.conv c)=some q->((c=.i2s/\(∃k,P.underlying src=some (.int k))/\P.underlying dst=some .string)\/(∃k k',c=.int k/\P.underlying src=some (.int k')/\P.underlying dst=some (.int k))\/(c=.same/\P.underlying src=some .string/\P.underlying dst=some .string))->Does P E a o v h':=by
   intro c hc hcc;simp only[jM]at hc;obtain⟨x',h1,rfl⟩:=hc;simp only[exO]at hv;split at hv
   .rename_i u hu;cases hv;exact zfu hE hs hop h1 hcc hu (fun hcs=>by
     subst hcs;unfold q7c at hu;split at hu<;>first | (exact⟨_,by assumption⟩) | (cases hu;done) | skip
     all_goals simp_all)
   .cases hv
  split at hc
  .rename_i k k' e1 e2;exact fin _ hc (.inr (.inl ⟨_,_,rfl,e1,e2⟩))
  .rename_i k e1 e2;exact fin _ hc (.inl ⟨rfl,⟨_,e1⟩,e2⟩)
  .rename_i e1 e2;exact fin _ hc (.inr (.inr ⟨rfl,e1,e2⟩))
  .cases hc
 case makeMap t r =>
  cases r<;>simp only at hc<;>try (cases hc;done)
  split at hc
  .split at hc
   .cases hc;exact zci hE hop hv
   .cases hc
  .cases hc
 case lookup t x k ok =>
  split at hc
  .rename_i kt e ht;simp only[Option.bind_eq_bind,jB]at hc;obtain⟨kk,hk,zero,hz,hc⟩:=hc;split at hc
   .rename_i hzs;simp only[Option.pure_def,jB,jC]at hc;obtain⟨x',h1,y',h2,rfl⟩:=hc;exact zga hE hs hop ht hk hz hzs h1 h2 hv
   .cases hc
  .cases hc
 case mapUpdate t m k v0 =>
  split at hc
  .rename_i kt e ht;simp only[Option.bind_eq_bind,Option.pure_def,jB,jC]at hc;obtain⟨kk,hk,x',h1,y',h2,z',h3,rfl⟩:=hc;exact zmd hE hs hop ht hk h1 h2 h3 hv
  .cases hc
 case makeInterface t x =>
  split at hc
  .cases hc
  .cases hc
  .rename_i d hn1 hn2;simp only[Option.bind_eq_bind,Option.pure_def,jB,jC]at hc;obtain⟨x',h1,rfl⟩:=hc;cases hv;refine zgc hE hs hop ?_ h1;cases hd:P.underlying t with
   | none=>exact absurd hd (by assumption)
   | some d=>exact⟨d,rfl,fun m hm=>by subst hm;exact hn2 _ hd⟩
 case makeFunc f first caps =>
  cases f<;>simp only at hc<;>try (cases hc;done)
  split at hc
  case isFalse=>cases hc
  rename_i hlt;simp only[Option.bind_eq_bind,Option.pure_def,jB,jC]at hc;obtain⟨f',h1,c',h2,rfl⟩:=hc;cases hv;exact zgb hE hs hop hlt h1 h2
 case makeSlice t l c =>
  simp only[Option.bind_eq_bind,Option.pure_def,jB]at hc;obtain⟨e,he,zs,hz,hc⟩:=hc;split at hc
  .rename_i hh;simp only[jB,jC]at hc;obtain⟨l',h1,c',h2,rfl⟩:=hc;have ht:P.underlying t=some (.slice e):=by
    unfold qfk at he;split at he
    .cases he;assumption
    .cases he
   exact zcj hE hs hop ht hz hh.2.1 hh.2.2.1 h1 h2 hv
  split at hc
  .rename_i hh;simp only[jB,jC]at hc;obtain⟨l',h1,c',h2,rfl⟩:=hc;have ht:P.underlying t=some (.slice e):=by
    unfold qfk at he;split at he
    .cases he;assumption
    .cases he
   exact q4f hE hs hop ht hz hh.1 hh.2 h1 h2 hv
  .cases hc
 case slice t x lo hi mx =>
  split at hc
  .rename_i ht;split at hc
   .cases hc
   .rename_i hmx;simp only[Option.bind_eq_bind,Option.pure_def,jB,jC]at hc;obtain⟨x',h1,lo',h2,hi',h3,rfl⟩:=hc;have:mx=none:=by simpa using hmx
    subst this;simp only[exO]at hv;split at hv
    .split at hv
     .split at hv
      .rename_i hle;cases hv;exact zgh hE hs hop ht h1 h2 h3 (by assumption) (by assumption) (by assumption) hle.1 hle.2
      .cases hv
     .cases hv
    .cases hv
  .rename_i e ht;split at hc
   .rename_i hh;simp only[Option.bind_eq_bind,Option.pure_def,jB,jC]at hc;obtain⟨x',h1,lo',h2,hi',h3,mx',h4,rfl⟩:=hc;obtain⟨rfl,hd⟩:=zgg hE hs hop ht hh.1 h1 h2 h3 h4 (fun h=>by
     have:=hh.2;rw[h]at this;simpa using this) hv
    exact hd
   .cases hc
  .rename_i n e ht;split at hc
   .cases hc
   .rename_i hmz;simp only[Option.bind_eq_bind,Option.pure_def,jB,jC]at hc;obtain⟨x',h1,lo',h2,hi',h3,rfl⟩:=hc;have hmx:mx=none:=by
     cases mx with
     | none=>rfl
     | some y=>exact absurd (.inl rfl) hmz
    subst hmx;simp only[exO]at hv;split at hv
    .split at hv
     .split at hv
      .rename_i hle;cases hv;exact zgf hE hs hop ht (fun h=>hmz (.inr h)) h1 h2 h3 (by assumption) (by assumption) (by assumption) hle.1 hle.2
      .cases hv
     .cases hv
    .cases hv
  .cases hc
 case fieldAddr t x f =>
  split at hc
  .rename_i fs ht;simp only[Option.bind_eq_bind,jB]at hc;obtain⟨fd,hf,hc⟩:=hc;split at hc
   .rename_i hz;simp only[Option.pure_def,jB,jC]at hc;obtain⟨x',h1,rfl⟩:=hc;simp only[exO]at hv;split at hv
    .split at hv
     .cases hv;exact qsi hE hs hop ht hf hz h1 (.inl ⟨_,by assumption,rfl⟩)
     .cases hv
    .cases hv;exact qsi hE hs hop ht hf hz h1 (.inr (.inl ⟨_,_,_,_,by assumption,rfl⟩))
    .cases hv;exact qsi hE hs hop ht hf hz h1 (.inr (.inr ⟨_,_,by assumption,rfl⟩))
    .cases hv
   .cases hc
  .cases hc
 case field t x f =>
  split at hc
  .rename_i fs ht;simp only[Option.bind_eq_bind,Option.pure_def,jB,jC]at hc;obtain⟨fd,hf,z,hz,x',h1,rfl⟩:=hc;simp only[exO]at hv;split at hv
   .split at hv
    .cases hv;exact zly hE hs hop ht hf hz h1 (by assumption) (by assumption)
    .cases hv
   .cases hv
  .cases hc
 case indexAddr t x i =>
  split at hc
  .rename_i n e ht;split at hc
   .rename_i hz;simp only[Option.bind_eq_bind,Option.pure_def,jB,jC]at hc;obtain⟨x',h1,i',h2,rfl⟩:=hc;simp only[exO]at hv;split at hv
    .split at hv
     .rename_i hk;cases hv;exact qpo hE hs hop ht hz h1 h2 (by assumption) hk.1 (.inl ⟨_,by assumption,rfl⟩)
     .cases hv
    .split at hv
     .rename_i hk;cases hv;exact qpo hE hs hop ht hz h1 h2 (by assumption) hk (.inr (.inl ⟨_,_,_,_,by assumption,rfl⟩))
     .cases hv
    .split at hv
     .rename_i hk;cases hv;exact qpo hE hs hop ht hz h1 h2 (by assumption) hk (.inr (.inr ⟨_,_,by assumption,rfl⟩))
     .cases hv
    .cases hv
   .cases hc
  .rename_i e ht;split at hc
   .rename_i hz;simp only[Option.bind_eq_bind,Option.pure_def,jB,jC]at hc;obtain⟨x',h1,i',h2,rfl⟩:=hc;simp only[exO]at hv;split at hv
    .split at hv
     .split at hv
      .rename_i hk;cases hv;exact qlf hE hs hop ht hz h1 h2 (by assumption) (.inl ⟨_,_,by assumption,by assumption,hk,rfl⟩)
      .cases hv
     .cases hv
    .split at hv
     .rename_i hx _ hk;cases hv;rw[hk.2]at hx;exact qlf hE hs hop ht hz h1 h2 (by assumption) (.inr (.inl ⟨_,_,_,_,hx,hk.1,rfl⟩))
     .cases hv
    .split at hv
     .rename_i hx _ hk;cases hv;rw[hk.2]at hx;exact qlf hE hs hop ht hz h1 h2 (by assumption) (.inr (.inr (.inl ⟨_,_,_,hx,hk.1,rfl⟩)))
     .cases hv
    .split at hv
     .rename_i hx _ hk;cases hv;exact qlf hE hs hop ht hz h1 h2 (by assumption) (.inr (.inr (.inr ⟨_,hx,hk.1,hk.2,rfl⟩)))
     .cases hv
    .cases hv
   .cases hc
  .cases hc
 case index t x i =>
  split at hc
  .rename_i n e ht;simp only[Option.bind_eq_bind,jB]at hc;obtain⟨z,hz,hc⟩:=hc;split at hc
   .rename_i hh;simp only[Option.pure_def,jB,jC]at hc;obtain⟨x',h1,i',h2,rfl⟩:=hc;simp only[exO]at hv;split at hv
    .split at hv
     .split at hv
      .cases hv;exact zfw hE hs hop ht hz hh.1 hh.2 h1 h2 (by assumption) (by assumption) (by assumption) (by assumption)
      .cases hv
     .cases hv
    .cases hv
   .cases hc
  .rename_i ht;simp only[Option.bind_eq_bind,Option.pure_def,jB,jC]at hc;obtain⟨x',h1,i',h2,rfl⟩:=hc;simp only[exO]at hv;split at hv
   .split at hv
    .cases hv;exact zfx hE hs hop ht h1 h2 (by assumption) (by assumption) (by assumption)
    .cases hv
   .cases hv
  .cases hc
 case range t x =>
  split at hc
  .rename_i ht;simp only[jM]at hc;obtain⟨x',h1,rfl⟩:=hc;exact zmc hE hs hop ht h1 hv
  .cases hc
 case next x b =>
  cases b<;>simp only at hc<;>try (cases hc;done)
  simp only[jM]at hc;obtain⟨x',h1,rfl⟩:=hc;exact zma hE hs hop h1 hv
 case extract x i =>
  simp only[jM]at hc;obtain⟨x',h1,rfl⟩:=hc;simp only[exO]at hv;split at hv
  .split at hv
   .cases hv;exact zlx hE hs hop h1 (by assumption) (by assumption)
   .cases hv
  .cases hv
 case call c =>
  split at hc
  .simp only[Option.bind_eq_bind,Option.pure_def,jB,jC]at hc;obtain⟨f',h1,as,h2,rfl⟩:=hc;cases hv
  .split at hc
   .simp only[Option.bind_eq_bind,Option.pure_def,jB,jC]at hc;obtain⟨as,h2,rfl⟩:=hc;cases hv
   .cases hc
  .cases hc
  .rename_i b hb;split at hc
   .rename_i x t e1 e2;split at hc
    .rename_i n e ht;cases hc;cases hv;exact q7g hE hop hb e1 e2 ht
    .rename_i ht;simp only[jM]at hc;obtain⟨x',h1,rfl⟩:=hc;simp only[exO]at hv;split at hv
     .cases hv;exact q9m hE hs hop hb e1 e2 (.inl ⟨rfl,ht⟩) h1 (by assumption)
     .cases hv
    .rename_i e ht;simp only[jM]at hc;obtain⟨x',h1,rfl⟩:=hc;simp only[exO]at hv;split at hv
     .cases hv;exact q9m hE hs hop hb e1 e2 (.inr ⟨rfl,_,ht⟩) h1 (by assumption)
     .cases hv
    .rename_i k e ht;simp only[jM]at hc;obtain⟨x',h1,rfl⟩:=hc;exact zfy hE hs hop hb e1 e2 ht h1 hv
    .cases hc
   .rename_i x t e1 e2;split at hc
    .rename_i e ht;simp only[jM]at hc;obtain⟨x',h1,rfl⟩:=hc;exact zlt hE hs hop hb e1 e2 ht h1 hv
    .cases hc
   .rename_i x y t u e1 e2;simp only[Option.bind_eq_bind,jB]at hc;obtain⟨e,he,zs,hz,hc⟩:=hc;have ht:P.underlying t=some (.slice e):=by
     unfold qfk at he;split at he
     .cases he;assumption
     .cases he
    split at hc
    .rename_i k hu;split at hc
     .rename_i hh;simp only[Option.pure_def,jB,jC]at hc;obtain⟨x',h1,y',h2,rfl⟩:=hc;exact zft hE hs hop hb e1 e2 ht hu hz hh.1 hh.2.1 hh.2.2 h1 h2 hv
     .cases hc
    .rename_i e' hu;split at hc
     .rename_i hh;split at hc
      .simp only[Option.pure_def,jB,jC]at hc;obtain⟨x',h1,y',h2,rfl⟩:=hc;exact zfs hE hs hop hb e1 e2 ht hu hz hh.1 hh.2.1 hh.2.2 h1 h2 hv
      simp only[Option.pure_def,jB,jC]at hc;obtain⟨x',h1,y',h2,rfl⟩:=hc;exact zlq hE hs hop hb e1 e2 ht hu hz hh.1 hh.2.1 hh.2.2 h1 h2 hv
     .cases hc
    .cases hc
   .rename_i x t e1 e2;simp only[Option.bind_eq_bind,jB]at hc;obtain⟨e,he,zs,hz,hc⟩:=hc;have ht:P.underlying t=some (.slice e):=by
     unfold qfk at he;split at he
     .cases he;assumption
     .cases he
    split at hc
    .rename_i hh;simp only[Option.pure_def,jB,jC]at hc;obtain⟨x',h1,rfl⟩:=hc;exact zlu hE hs hop hb e1 e2 ht hh.1 hz hh.2 h1 hv
    .cases hc
   .rename_i x y t u e1 e2;simp only[Option.bind_eq_bind,jB]at hc;obtain⟨e,he,e',he',hc⟩:=hc;have ht:P.underlying t=some (.slice e):=by
     unfold qfk at he;split at he
     .cases he;assumption
     .cases he
    split at hc
    .rename_i hh;simp only[Option.pure_def,jB,jC]at hc;obtain⟨x',h1,y',h2,rfl⟩:=hc;exact zlv hE hs hop hb e1 e2 ht hh h1 h2 hv
    .cases hc
   .rename_i x y e1;split at hc
    .simp only[Option.bind_eq_bind,Option.pure_def,jB,jC]at hc;obtain⟨x',h1,y',h2,rfl⟩:=hc;exact zgd hE hs (mn:=false) hop hb e1 h1 h2 hv
    .cases hc
   .rename_i x y e1;split at hc
    .simp only[Option.bind_eq_bind,Option.pure_def,jB,jC]at hc;obtain⟨x',h1,y',h2,rfl⟩:=hc;exact zgd hE hs (mn:=true) hop hb e1 h1 h2 hv
    .cases hc
   .cases hc
end
theorem q0b{P:Program}{E E':Env}(hE:Ok P E)(x:Ext E E')(hw:E'.w=E.w):∀{vs:List V} {us:List Value},qai E vs us->(∀v∈vs,inS E E'.S v)->qai E' (vs.map (qan E.h)) us
 | [],us,h,_=>by unfold qai at *;exact h
 | v :: vs,us,h,hi=>by unfold qai at h;obtain⟨u,us',rfl,h1,h2⟩:=h;simp only[List.map_cons];unfold qai;exact⟨u,us',rfl,qsx hE x hw h1 (hi v (by simp)),q0b hE x hw h2 (fun w hw=>hi w (by simp[hw]))⟩
theorem q5u{P:Program}{E E':Env}(hE:Ok P E)(x:Ext E E')(hw:E'.w=E.w){v:V}{u:Value}(h:rel E v u)(hi:∀c∈v.cells,inS E E'.S c):rel E' (qfn E.h v) u:=by
 cases v<;>try exact qsx hE x hw h (hi _ (by simp[V.cells]))
 case agg cs =>unfold rel at h;obtain⟨us,rfl,hl⟩:=h;simp only[qfn];unfold rel;exact⟨us,rfl,q0b hE x hw hl hi⟩
 case tup vs=>simp only[qfn];unfold rel;trivial
theorem qsz{P:Program}{E E':Env}(hE:Ok P E)(x:Ext E E')(hw:E'.w=E.w):∀{vs:List V} {us:List Value},qai E vs us->(∀v∈vs,∀c∈v.cells,inS E E'.S c)->qai E' (vs.map (qfn E.h)) us
 | [],us,h,_=>by unfold qai at *;exact h
 | v :: vs,us,h,hi=>by unfold qai at h;obtain⟨u,us',rfl,h1,h2⟩:=h;simp only[List.map_cons];unfold qai;exact⟨u,us',rfl,q5u hE x hw h1 (hi v (by simp)),qsz hE x hw h2 (fun w hw=>hi w (by simp[hw]))⟩
theorem zjn{P:Program}{E:Env}(hE:Ok P E){s:List V}{tmps:Array Value}(hs:qai E s tmps.toList):∀{rs:List Go.ResultVar} {vs:List V},rvs ⟨s,E.h⟩ (rs.map (cRV P))=some vs ->
  ∃us,(rs.mapM fun r=>(match r with
   | .tmp t=>pure (tmps.getD t undef)
   | .cell a t=>do Go.loadVar t (<-Go.asAddr (tmps.getD a undef)):Sem Value)).run P E.w=.ok us E.w/\qai E vs us
 | [],vs,h=>by simp only[List.map_nil,rvs,jC]at h;subst h;exact⟨[],by simp,by simp[qai]⟩
 | r :: rs,vs,h=>by
  simp only[List.map_cons,rvs]at h;cases h1:rvV ⟨s,E.h⟩ (cRV P r)with
  | none=>rw[h1]at h;cases h
  | some v =>
   rw[h1]at h;cases h2:rvs ⟨s,E.h⟩ (rs.map (cRV P))with
   | none=>rw[h2]at h;cases h
   | some ws =>
    rw[h2]at h;cases h;obtain⟨us,k1,k2⟩:=zjn hE hs h2;have one:∃u,(match r with
     | .tmp t=>pure (tmps.getD t undef)
     | .cell a t=>do Go.loadVar t (<-Go.asAddr (tmps.getD a undef)):Sem Value).run P E.w=.ok u E.w/\rel E v u:=by
     cases r with
     | tmp t =>simp only[cRV,rvV,jC]at h1;subst h1;refine⟨_,rfl,?_⟩;have:=qls t hs;rw[qqi];exact this
     | cell p t =>
      simp only[cRV]at h1;cases hz:szT P t with
      | none=>rw[hz]at h1;simp[rvV]at h1
      | some z =>rw[hz]at h1;simp only[rvV]at h1;have hp:=qls p hs;rw[<-qqi]at hp;obtain⟨b,y,hu,u,q1,q2⟩:=q5b hE hz hp h1;refine⟨u,?_,q2⟩;simp only[hu,Go.asAddr,Sem.run_bind,Sem.run_pure,Go.Result.andThen_ok,q1]
    obtain⟨u,q1,q2⟩:=one;refine⟨u :: us,?_,?_⟩
    .rw[List.mapM_cons];simp only[Sem.run_bind,q1,Go.Result.andThen_ok,k1,Sem.run_pure]
    .unfold qai;exact⟨u,us,rfl,q2,k2⟩
def ztm(us:Array Value):Value:=if h:us.size=1 then us[0]else .tuple us
theorem q8f{P:Program}{E:Env}(hE:Ok P E){s:List V}{tmps:Array Value}(hs:qai E s tmps.toList){fn:Go.Func}{vs:List V}(h:rvs ⟨s,E.h⟩ (fn.results.toList.map (cRV P))=some vs) :
  ∃us:List Value,(Go.results fn tmps).run P E.w=.ok (ztm us.toArray) E.w/\qai E vs us:=by
 obtain⟨us,h1,h2⟩:=zjn hE hs h;refine⟨us,?_,h2⟩;unfold Go.results;rw[Array.mapM_eq_mapM_toList];simp only[Sem.run_bind,map_eq_pure_bind,Sem.run_pure,ztm];have h3:=congrArg (fun z:Result (List Value)=>(z.andThen fun a w'=>Result.ok a.toArray w').andThen fun a w'=>Result.ok (if h:a.size=1 then a[0]else Value.tuple a) w') h1;exact h3
theorem q2n{E:Env}{vs:List V}{us:List Value}(h:qai E vs us):rel E (zeh vs) (ztm us.toArray):=by
 have hl:=qav h;cases vs with
 | nil =>unfold qai at h;subst h;simp only[zeh,ztm];unfold rel;exact⟨#[],by simp,by simp[qai]⟩
 | cons v vs =>
  unfold qai at h;obtain⟨u,us',rfl,h1,h2⟩:=h;cases vs with
  | nil =>unfold qai at h2;subst h2;simpa[zeh,ztm]using h1
  | cons w ws =>
   have:ztm (u :: us').toArray=.tuple (u :: us').toArray:=by simp only[List.length_cons]at hl;unfold ztm;rw[dif_neg (by simp;intro h;subst h;simp at hl)]
   rw[this];simp only[zeh];unfold rel;exact⟨_,rfl,by unfold qai;exact⟨u,us',rfl,h1,h2⟩⟩
def qcj(E:Env)(nx:Nat)(acc:List (Nat×Ob)):Env :=
 ⟨fun i=>if i<nx then E.b i else(acc[i-nx]?).bind fun p=>E.b p.1,E.S,qlc nx E.h++acc.map (·.2),E.w⟩
def qkj(E:Env)(nx:Nat)(acc:List (Nat×Ob)):Prop :=
 (∀(j:Nat) id ob,acc[j]?=some (id,ob)->nx<=id/\((∃g n els k,E.h[id]?=some ⟨g,.arr n els⟩/\ob=⟨0,.arr n (els.take k)⟩) \/
  ∃g n els R,E.h[id]?=some ⟨g,.nst n els⟩/\ob=⟨0,.nst n R⟩/\R.length<=els.length/\R.all (qek (nx+j))=true/\∀b C,E.b id=some (b,C)->qak (qcj E nx (acc.take j)) n R b (C.2*n)))/\(acc.map (·.1)).Nodup
theorem qoi{E:Env}{nx:Nat}(hnx:nx<=E.h.length){acc:List (Nat×Ob)}{i:Nat}{o:Ob}(h:(qcj E nx acc).h[i]?=some o) :
  (i<nx/\∃o0,E.h[i]?=some o0/\o=qbw nx o0)\/(nx<=i/\∃id,acc[i-nx]?=some (id,o)):=by
 have hl:(qlc nx E.h).length=nx:=by rw[qdz];omega
 simp only[qcj]at h;by_cases hi:i<nx
 .rw[jI (by omega)]at h;obtain⟨_,o0,h1,h2⟩:=qhi h;exact .inl ⟨hi,o0,h1,h2⟩
 .rw[jJ (by omega),hl]at h;simp only[List.getElem?_map,jM]at h;obtain⟨p,h1,rfl⟩:=h;exact .inr ⟨by omega,p.1,h1⟩
theorem qzs{E:Env}{nx:Nat}(hnx:nx<=E.h.length)(acc:List (Nat×Ob)):Agree nx E (qcj E nx acc):=by
 have hl:(qlc nx E.h).length=nx:=by rw[qdz];omega
 refine⟨rfl,fun _ h=>h,fun i hi hil=>⟨by simp[qcj,hl];omega,?_,by simp[qcj,hi],fun o' ho'=>?_⟩⟩
 .unfold qgr;simp only[qcj];rw[jI (by omega)];exact quw hi
 .rcases qoi hnx ho' with⟨_,o0,h1,rfl⟩ | ⟨h,_⟩
  .obtain⟨s1,s2,s3,s4,_⟩:=qda nx o0;exact⟨o0,h1,s1.symm,s2.symm,s3.symm,s4.symm⟩
  .omega
theorem que{n:Nat}{E E':Env}(x:Agree n E E'){v:V}{u:Value}(h:rel E v u):rel E' (qbl n v) u:=by
 unfold qbl;split
 .rename_i hl;exact qeb x v u hl h
 .unfold rel;trivial
theorem quf{n:Nat}{E E':Env}(x:Agree n E E'):∀{vs:List V} {us:List Value},qai E vs us->qai E' (vs.map (qbl n)) us
 | [],_,h=>by unfold qai at *;exact h
 | v :: vs,us,h=>by unfold qai at h;obtain⟨u,us',h1,h2,h3⟩:=h;simp only[List.map_cons];unfold qai;exact⟨u,us',h1,que x h2,quf x h3⟩
theorem qlw{n:Nat}{E E':Env}(x:Agree n E E'):∀{vs:List V} {b o:Nat},qbc E vs b o->qbc E' (vs.map (qbl n)) b o
 | [],_,_,_=>by simp[qbc]
 | v :: vs,b,o,h=>by unfold qbc at h;obtain⟨⟨u,h1,h2⟩,h3⟩:=h;simp only[List.map_cons];unfold qbc;exact⟨⟨u,by rw[x.w];exact h1,que x h2⟩,qlw x h3⟩
theorem qnj{n:Nat}{E E':Env}(x:Agree n E E'){m:Nat}:∀{rs:List (List V)} {b o:Nat},qak E m rs b o->qak E' m (rs.map fun r=>r.map (qbl n)) b o
 | [],_,_,_=>by simp[qak]
 | r :: rs,b,o,h=>by unfold qak at h;simp only[List.map_cons];unfold qak;exact⟨by simpa using h.1,qlw x h.2.1,qnj x h.2.2⟩
theorem zds{P:Program}{n:Nat}{E E':Env}(x:Agree n E E')(hS:E'.S=E.S){i:Nat}{o:Ob}(hr:qej P E i o)(hb:E'.b i=E.b i):qej P E' i (qbw n o):=by
 unfold qej at hr ⊢;unfold qbw;cases hk:o.k<;>rw[hk]at hr<;>simp only[hk]
 case box cells =>refine hr.imp (fun h=>hb.trans h) ?_;rintro⟨b,C,cs,ty,q1,q2,q3,q4,q5⟩;exact⟨b,C,cs,ty,hb.trans q1,by rw[hS];exact q2,by rw[x.w];exact q3,by simpa using q4,qlw x q5⟩
 case arr m els =>refine⟨hr.1,hr.2.imp (fun h=>⟨hb.trans h.1,h.2⟩) ?_⟩;rintro⟨b,C,cs,ty,q1,q2,q3,q4,q5,q6,q7⟩;exact⟨b,C,cs,ty,hb.trans q1,by rw[hS];exact q2,by rw[x.w];exact q3,q4,q5,q6,qdr x _ _ _ _ hr.1 q7⟩
 case frz m els =>refine⟨hr.1,hr.2.imp (fun h=>⟨hb.trans h.1,h.2⟩) ?_⟩;rintro⟨b,C,cs,ty,q1,q2,q3,q4,q5,q6,q7⟩;exact⟨b,C,cs,ty,hb.trans q1,by rw[hS];exact q2,by rw[x.w];exact q3,q4,q5,q6,qdr x _ _ _ _ hr.1 q7⟩
 case nst m els =>refine hr.imp (fun h=>⟨hb.trans h.1,by rw[h.2];rfl⟩) ?_;rintro⟨b,C,cs,ty,q1,q2,q3,q4,q5,q6,q7⟩;exact⟨b,C,cs,ty,hb.trans q1,by rw[hS];exact q2,by rw[x.w];exact q3,q4,q5,by simpa using q6,qnj x q7⟩
 case map es =>obtain⟨b,C,ms,cl,h1,h2,h3,h4⟩:=hr;exact⟨b,C,ms,cl,hb.trans h1,by rw[hS];exact h2,by rw[x.w];exact h3,qrl x _ _ h4⟩
 case sit s p =>obtain⟨b,C,h1,h2,h3⟩:=hr;exact⟨b,C,hb.trans h1,by rw[hS];exact h2,by rw[x.w];exact h3⟩
 case loop sl ps a c p =>obtain⟨b,C,L,h1,h2,h3,h4,h5,h6,h7⟩:=hr;exact⟨b,C,L,hb.trans h1,by rw[hS];exact h2,by rw[x.w];exact h3,quf x h4,h5,h6,h7⟩
theorem qoj{E:Env}{nx:Nat}(hnx:nx<=E.h.length){acc more:List (Nat×Ob)}{v:V}{u:Value}(hl:v.low (nx+acc.length)=true)(h:rel (qcj E nx acc) v u):rel (qcj E nx (acc++more)) v u:=by
 have hcl:(qlc nx E.h).length=nx:=by rw[qdz];omega
 have hget:∀i,i<nx+acc.length->(qcj E nx (acc++more)).h[i]?=(qcj E nx acc).h[i]?:=by intro i hi;simp only[qcj,List.map_append,<-List.append_assoc];rw[jI (by simp[hcl];omega)]
 refine qeb (n:=nx+acc.length) (E:=qcj E nx acc) (E':=qcj E nx (acc++more)) ⟨rfl,fun _ h=>h,fun i hi hil=>⟨by simp[qcj,hcl]at hil ⊢;omega,?_,?_,fun o' ho'=>?_⟩⟩ v u hl h
 .unfold qgr;rw[hget i hi]
 .simp only[qcj];by_cases h:i<nx
  .simp[h]
  .simp only[if_neg h];rw[jI (by omega)]
 .rw[hget i hi]at ho';exact⟨o',ho',rfl,rfl,rfl,rfl⟩
theorem qss{E:Env}{nx:Nat}(hnx:nx<=E.h.length){acc more:List (Nat×Ob)}{n:Nat}:∀{R:List (List V)} {b o:Nat},R.all (qek (nx+acc.length))=true->qak (qcj E nx acc) n R b o->qak (qcj E nx (acc++more)) n R b o
 | [],_,_,_,_=>by simp[qak]
 | r :: rs,b,o,hl,h=>by
  simp only[List.all_cons,jE]at hl;unfold qak at h ⊢;refine⟨h.1,?_,qss hnx hl.2 h.2.2⟩;have hl':=hl.1;have h':=h.2.1;clear hl h;induction r generalizing o with
  | nil=>simp[qbc]
  | cons v vs ih =>simp only[qek,jE]at hl';unfold qbc at h' ⊢;obtain⟨⟨u,h1,h2⟩,h3⟩:=h';exact⟨⟨u,h1,qoj hnx hl'.1 h2⟩,ih _ hl'.2 h3⟩
theorem ztg{P:Program}{E:Env}(hE:Ok P E){nx:Nat}(hnx:nx<=E.h.length){acc:List (Nat×Ob)}(ha:qkj E nx acc):Ok P (qcj E nx acc):=by
 have hag:=qzs hnx acc;refine⟨fun i o ho=>?_,fun i j o1 o2 b C C' h1 h2 f1 f2 b1 b2=>?_,hE.S⟩
 .rcases qoi hnx ho with⟨hi,o0,h1,rfl⟩ | ⟨hi,id,h1⟩
  .exact zds hag rfl (hE.obj i o0 h1) (by simp[qcj,hi])
  .obtain⟨hge,⟨g,n,els,k,h2,rfl⟩ | ⟨g,n,els,R,h2,rfl,hle,hlw,hrw⟩⟩:=ha.1 _ _ _ h1
   case inr =>
    have hr:=hE.obj id _ h2;unfold qej at hr ⊢;have hbi:(qcj E nx acc).b i=E.b id:=by simp[qcj,h1,show ¬i<nx by omega]
    rw[hbi];simp only;refine hr.imp (fun h=>⟨h.1,?_⟩) ?_
    .rw[h.2]at hle;exact List.length_eq_zero_iff.1 (Nat.le_zero.1 hle)
    rintro⟨b,C,cs,ty,q1,q2,q3,q4,q5,q6,q7⟩;refine⟨b,C,cs,ty,q1,q2,q3,q4,q5,by omega,?_⟩;have hjl:=(jG.1 h1).1;have e:=qss hnx (acc:=acc.take (i-nx)) (more:=acc.drop (i-nx)) (by rw[List.length_take,Nat.min_eq_left (by omega)];exact hlw) (hrw b C q1);rw[List.take_append_drop]at e;exact e
   have hr:=hE.obj id _ h2;unfold qej at hr ⊢;have hbi:(qcj E nx acc).b i=E.b id:=by simp[qcj,h1,show ¬i<nx by omega]
   rw[hbi];simp only;refine⟨qih hr.1,hr.2.imp (fun h=>⟨h.1,by rw[h.2];simp⟩) ?_⟩;rintro⟨b,C,cs,ty,q1,q2,q3,q4,q5,q6,q7⟩;exact⟨b,C,cs,ty,q1,q2,q3,q4,q5,by simp;omega,qdr hag _ _ _ _ (qih hr.1) (qel k q7)⟩
 .have src:∀(i:Nat) (o:Ob),(qcj E nx acc).h[i]?=some o->o.k.isFrz=false->∃id o0,E.h[id]?=some o0/\o0.k.isFrz=false/\(qcj E nx acc).b i=E.b id/\((i<nx/\id=i)\/(nx<=i/\nx<=id/\∃ob,acc[i-nx]?=some (id,ob))):=by
   intro i o ho hf;rcases qoi hnx ho with⟨hi,o0,h1,rfl⟩ | ⟨hi,id,h1⟩
   .exact⟨i,o0,h1,by rw[<-(qda nx o0).2.2.2.2];exact hf,by simp[qcj,hi],.inl ⟨hi,rfl⟩⟩
   .obtain⟨hge,⟨g,n,els,k,h2,rfl⟩ | ⟨g,n,els,R,h2,rfl,_⟩⟩:=ha.1 _ _ _ h1
    .exact⟨id,_,h2,rfl,by simp[qcj,h1,show ¬i<nx by omega],.inr ⟨hi,hge,_,h1⟩⟩
    .exact⟨id,_,h2,rfl,by simp[qcj,h1,show ¬i<nx by omega],.inr ⟨hi,hge,_,h1⟩⟩
  obtain⟨i',o1',p1,p2,p3,p4⟩:=src i o1 h1 f1;obtain⟨j',o2',r1,r2,r3,r4⟩:=src j o2 h2 f2;have hij:=hE.inj i' j' o1' o2' b C C' p1 r1 p2 r2 (by rw[<-p3];exact b1) (by rw[<-r3];exact b2);subst hij;rcases p4 with⟨a1,a2⟩ | ⟨a1,a2,ob,a3⟩<;>rcases r4 with⟨c1,c2⟩ | ⟨c1,c2,ob',c3⟩
  .omega
  .omega
  .omega
  .have hlt1:=(jG.1 a3).1;have hlt2:=(jG.1 c3).1;have:=(List.getElem?_inj (i:=i-nx) (j:=j-nx) (l:=acc.map (·.1)) (by simpa using hlt1) ha.2).1 (by simp[a3,c3]);omega
theorem zni{E0 E:Env}(x:Ext E0 E){nx:Nat}(h:E0.h.length<=nx)(hnx:nx<=E.h.length){acc:List (Nat×Ob)}(ha:qkj E nx acc):Ext E0 (qcj E nx acc):=by
 have hl:(qlc nx E.h).length=nx:=by rw[qdz];omega
 have hlow:∀i,i<E0.h.length->(qcj E nx acc).h[i]?=(q1o nx E).h[i]?:=by intro i hi;simp only[qcj,q1o];rw[jI (by omega)]
 have y:=qsk x h;refine⟨⟨x.S,x.size,x.keep,fun b hb hm=>?_,?_,fun i hi=>?_,fun i o' hi ho' hc=>?_,x.os,x.output,fun i o' hi ho'=>?_⟩,x.back,fun i g cells h1 h2 h3=>?_⟩
 .obtain⟨i,o,C,h1,h2,h3⟩:=hm;rcases qoi hnx h1 with⟨hi,o0,q1,rfl⟩ | ⟨hi,id,q1⟩
  .exact x.muts b hb ⟨i,o0,C,q1,by simpa[qcj,hi]using h2,by rw[<-(qda nx o0).2.2.2.2];exact h3⟩
  .obtain⟨hge,⟨g,n,els,k,q2,rfl⟩ | ⟨g,n,els,R,q2,rfl,_⟩⟩:=ha.1 _ _ _ q1
   .exact x.muts b hb ⟨id,_,C,q2,by simpa[qcj,q1,show ¬i<nx by omega]using h2,rfl⟩
   .exact x.muts b hb ⟨id,_,C,q2,by simpa[qcj,q1,show ¬i<nx by omega]using h2,rfl⟩
 .simp[qcj,hl];omega
 .have:=y.gen i hi;unfold qgr at this ⊢;rw[hlow i hi];exact this
 .rw[hlow i hi]at ho';obtain⟨o,r1,r2,r3,r4,r5,r6⟩:=y.obj i o' hi ho' hc;have hbi:(qcj E nx acc).b i=(q1o nx E).b i:=by simp[qcj,q1o,show i<nx by omega]
  exact⟨o,r1,r2,r3,r4,fun z hz=>by rw[hbi];exact r5 z hz,fun ht=>by rw[hbi];exact r6 ht⟩
 .rw[hlow i hi]at ho';exact y.tags i o' hi ho'
 .obtain⟨q1,q2⟩:=y.free i g cells h1 h2 h3;have hi:=qbe h1;exact⟨by rw[hlow i hi];exact q1,by rw[<-q2];simp[qcj,q1o,show i<nx by omega]⟩
theorem qux{P:Program}{E:Env}(hE:Ok P E){nx:Nat}(hnx:nx<=E.h.length){acc:List (Nat×Ob)}(ha:qkj E nx acc){v:V}{u:Value}(h:rel E v u) :
  qkj E nx (qed nx E.h acc v).2/\(∃more,(qed nx E.h acc v).2=acc++more)/\(qed nx E.h acc v).1.low (nx+(qed nx E.h acc v).2.length)=true/\rel (qcj E nx (qed nx E.h acc v).2) (qed nx E.h acc v).1 u:=by
 have same:∀w:V,w.low nx=true->rel E w u->qkj E nx acc/\(∃more,acc=acc++more)/\w.low (nx+acc.length)=true/\rel (qcj E nx acc) w u :=
  fun w hl hr=>⟨ha,⟨[],by simp⟩,qll (by omega) w hl,qeb (qzs hnx acc) w u hl hr⟩
 have undef:qkj E nx acc/\(∃more,acc=acc++more)/\V.undef.low (nx+acc.length)=true/\rel (qcj E nx acc) .undef u :=
  ⟨ha,⟨[],by simp⟩,rfl,by unfold rel;trivial⟩
 have scr:qkj E nx acc/\(∃more,acc=acc++more)/\(qbl nx v).low (nx+acc.length)=true/\rel (qcj E nx acc) (qbl nx v) u:=by
  unfold qbl;split
  .rename_i hl;exact same v hl h
  .exact undef
 cases v<;>try exact scr
 case sl id gen m off len =>
  simp only[qed];split
  .rename_i hlt;exact same _ (by simp[V.low,hlt]) h
  .rename_i hge;cases hob:E.h[id]? with
   | none=>exact undef
   | some ob =>
    obtain⟨g,k⟩:=ob;cases k<;>try exact undef
    case arr n els =>
     simp only;split
     .rename_i hc;obtain⟨rfl,rfl,rfl,hle,hnin⟩:=hc;have hif:(if len=els.length then els else els.take len)=els.take len:=by
       split
       .rename_i e;rw[e,List.take_length]
       .rfl
      rw[hif];have hnew:(acc++[(id,(⟨0,.arr m (els.take len)⟩:Ob))])[acc.length]?=some (id,⟨0,.arr m (els.take len)⟩):=by simp
      refine⟨⟨fun j i ob hj=>?_,?_⟩,⟨_,rfl⟩,by simp[V.low],?_⟩
      .by_cases hj':j<acc.length
       .rw[jI hj']at hj;rw[List.take_append_of_le_length (by omega)];exact ha.1 j i ob hj
       .rw[jJ (by omega)]at hj;have h0:j-acc.length=0:=by
         have:=(jG.1 hj).1;simp at this;omega
        rw[h0]at hj;simp at hj;obtain⟨rfl,rfl⟩:=hj;exact⟨by omega,.inl ⟨g,m,els,len,hob,rfl⟩⟩
      .rw[List.map_append,List.nodup_append];refine⟨ha.2,by simp,fun a hin b hb=>?_⟩;simp at hb;subst hb;simp only[jP,bne_iff_ne]at hnin;obtain⟨p,hp,rfl⟩:=List.mem_map.1 hin;exact hnin p hp
      .unfold rel at h ⊢;obtain⟨_,_,a,cap,hu,hc1,hc2,hc3,h3⟩:=h;have hcl:(qlc nx E.h).length=nx:=by rw[qdz];omega
       refine⟨by simp[qcj,hcl],by simp,a,cap,hu,hc1,hc2,hc3,fun o ho _ _=>?_⟩;obtain⟨_,h5,h6⟩:=h3 _ hob rfl rfl;rcases qoi hnx ho with⟨hi,_⟩ | ⟨_,id',h7⟩
       .omega
       .rw[show nx+acc.length-nx=acc.length by omega,hnew]at h7;cases h7;have hbi:(qcj E nx (acc++[(id,(⟨0,.arr m (els.take len)⟩:Ob))])).b (nx+acc.length)=E.b id:=by
         simp only[qcj,if_neg (show ¬(nx+acc.length<nx)by omega),show nx+acc.length-nx=acc.length by omega,hnew,Option.bind_some]
        rw[hbi];exact⟨by simp[qmh];omega,by simp[qcl],h6⟩
     .exact undef
    case frz n els =>
     have hi:inS E E.S (.sl id gen m off len):=by
      intro u hu;have hr:=qhf hE (S':=E.S) (fun _ h=>h) hu (fun b C o hb ho _=>by
       rw[hob]at ho;cases ho;have hr:=hE.obj id _ hob;unfold qej at hr;rcases hr.2 with h | ⟨b',C'',cs,ty,q1,q2,_⟩
       .rw[hb]at h;cases h.1
       .rw[hb]at q1;cases q1;exact q2)
      have e:qan E.h (.sl id gen m off len)=qbr E.h (.sl id gen m off len):=by simp only[qbr,qan,qpb,hob]
      rw[e];exact hr
     have hp:=qfy E.h (.sl id gen m off len) (.inr ⟨id,gen,m,off,len,rfl⟩);have hr:=qii hE (fun _ h=>h) h hi;have hr2:=qeb (n:=0) (E:=⟨E.b,E.S,E.h,E.w⟩) (E':=qcj E nx acc) ⟨rfl,fun _ h=>h,fun i hi=>absurd hi (Nat.not_lt_zero _)⟩ (qan E.h (.sl id gen m off len)) u hp hr;exact⟨ha,⟨[],by simp⟩,qll (Nat.zero_le _) _ hp,hr2⟩
theorem q5h{P:Program}{E:Env}(hE:Ok P E){nx:Nat}(hnx:nx<=E.h.length):∀{vs:List V} {b o:Nat} {acc:List (Nat×Ob)},qkj E nx acc->qbc E vs b o ->
  qkj E nx (qir nx E.h acc vs).2/\(∃more,(qir nx E.h acc vs).2=acc++more)/\qek (nx+(qir nx E.h acc vs).2.length) (qir nx E.h acc vs).1=true/\(qir nx E.h acc vs).1.length=vs.length/\qbc (qcj E nx (qir nx E.h acc vs).2) (qir nx E.h acc vs).1 b o
 | [],b,o,acc,ha,h=>⟨ha,⟨[],by simp[qir]⟩,rfl,rfl,by simp[qir,qbc]⟩
 | v :: vs,b,o,acc,ha,h=>by
  unfold qbc at h;obtain⟨⟨u,h0,h1⟩,h2⟩:=h;obtain⟨k1,⟨m1,k2⟩,k3,k4⟩:=qux hE hnx ha h1;obtain⟨r1,⟨m2,r2⟩,r3,r5,r4⟩:=q5h hE hnx k1 h2;simp only[qir];refine⟨r1,⟨m1++m2,by rw[r2,k2,List.append_assoc]⟩,?_,by simp[r5],?_⟩
  .simp only[qek,jE];exact⟨qll (by rw[r2];simp) _ k3,r3⟩
  .unfold qbc;refine⟨⟨u,h0,?_⟩,r4⟩;rw[r2];exact qoj hnx k3 k4
theorem q5i{P:Program}{E:Env}(hE:Ok P E){nx:Nat}(hnx:nx<=E.h.length){n:Nat}:∀{rs:List (List V)} {b o:Nat} {acc:List (Nat×Ob)},qkj E nx acc->qak E n rs b o ->
  qkj E nx (qes nx E.h acc rs).2/\(∃more,(qes nx E.h acc rs).2=acc++more)/\(qes nx E.h acc rs).1.all (qek (nx+(qes nx E.h acc rs).2.length))=true/\(qes nx E.h acc rs).1.length=rs.length/\qak (qcj E nx (qes nx E.h acc rs).2) n (qes nx E.h acc rs).1 b o
 | [],b,o,acc,ha,h=>⟨ha,⟨[],by simp[qes]⟩,rfl,rfl,by simp[qes,qak]⟩
 | r :: rs,b,o,acc,ha,h=>by
  unfold qak at h;obtain⟨k1,⟨m1,k2⟩,k3,k5,k4⟩:=q5h hE hnx ha h.2.1;obtain⟨r1,⟨m2,r2⟩,r3,r5,r4⟩:=q5i hE hnx k1 h.2.2;simp only[qes];refine⟨r1,⟨m1++m2,by rw[r2,k2,List.append_assoc]⟩,?_,by simp[r5],?_⟩
  .simp only[List.all_cons,jE];exact⟨qcu (by rw[r2];simp) _ k3,r3⟩
  .have e:qak (qcj E nx (qir nx E.h acc r).2) n [(qir nx E.h acc r).1] b o:=by
    unfold qak;exact⟨k5.trans h.1,k4,by simp[qak]⟩
   have e2:=qss (more:=m2) hnx (by simpa using k3) e;rw[<-r2]at e2;unfold qak at e2 ⊢;exact⟨e2.1,e2.2.1,r4⟩
theorem zan{P:Program}{E:Env}(hE:Ok P E){nx:Nat}(hnx:nx<=E.h.length){acc:List (Nat×Ob)}(ha:qkj E nx acc){v:V}{u:Value}(h:rel E v u) :
  qkj E nx (qyo nx E.h acc v).2/\(∃more,(qyo nx E.h acc v).2=acc++more)/\(qyo nx E.h acc v).1.low (nx+(qyo nx E.h acc v).2.length)=true/\rel (qcj E nx (qyo nx E.h acc v).2) (qyo nx E.h acc v).1 u:=by
 cases v<;>try exact qux hE hnx ha h
 case sl id gen m off len =>
  simp only[qyo];split
  .rename_i hlt;have e:qed nx E.h acc (.sl id gen m off len)=(.sl id gen m off len,acc):=by simp only[qed,hlt,if_true]
   have:=qux hE hnx ha h;rw[e]at this;exact this
  .rename_i hge;split
   .rename_i g n els hob;have hro:=hE.obj id _ hob;unfold qej at hro;split
    .rename_i hc;obtain⟨rfl,rfl,rfl,hle,hnin⟩:=hc;have key:qkj E nx (qes nx E.h acc (els.take len)).2/\(∃more,(qes nx E.h acc (els.take len)).2=acc++more)/\(qes nx E.h acc (els.take len)).1.all (qek (nx+(qes nx E.h acc (els.take len)).2.length))=true/\(qes nx E.h acc (els.take len)).1.length=(els.take len).length /\
       ∀b C,E.b id=some (b,C)->qak (qcj E nx (qes nx E.h acc (els.take len)).2) m (qes nx E.h acc (els.take len)).1 b (C.2*m):=by
      rcases hro with⟨h1,rfl⟩ | ⟨b,C,cs,ty,q1,q2,q3,q4,q5,q6,q7⟩
      .exact⟨by simpa[qes]using ha,⟨[],by simp[qes]⟩,by simp[qes],by simp[qes],fun b C hb=>by rw[h1]at hb;cases hb⟩
      .obtain⟨r1,r2,r3,r5,r4⟩:=q5i hE hnx ha (qel len q7);refine⟨r1,r2,r3,r5,fun b' C' hb=>?_⟩;rw[q1]at hb;cases hb;exact r4
     obtain⟨r1,⟨m1,r2⟩,r3,r5,r4⟩:=key;generalize hR:qes nx E.h acc (els.take len)=q at r1 r2 r3 r5 r4 hnin ⊢;obtain⟨R,acc'⟩:=q;simp only at r1 r2 r3 r5 r4 hnin ⊢;have hnew:(acc'++[(id,(⟨0,.nst m R⟩:Ob))])[acc'.length]?=some (id,⟨0,.nst m R⟩):=by simp
     have hRl:R.length=len:=by rw[r5,List.length_take];omega
     refine⟨⟨fun j i ob hj=>?_,?_⟩,⟨m1++[(id,⟨0,.nst m R⟩)],by rw[r2,List.append_assoc]⟩,by simp[V.low],?_⟩
     .by_cases hj':j<acc'.length
      .rw[jI hj']at hj;rw[List.take_append_of_le_length (by omega)];exact r1.1 j i ob hj
      .rw[jJ (by omega)]at hj;have h0:j-acc'.length=0:=by
        have:=(jG.1 hj).1;simp at this;omega
       rw[h0]at hj;simp at hj;obtain⟨rfl,rfl⟩:=hj;have hjj:j=acc'.length:=by omega
       subst hjj;refine⟨by omega,.inr ⟨g,m,els,R,hob,rfl,by omega,r3,fun b C hb=>?_⟩⟩;rw[List.take_append_of_le_length (jD _),List.take_length];exact r4 b C hb
     .rw[List.map_append,List.nodup_append];refine⟨r1.2,by simp,fun a hin b hb=>?_⟩;simp at hb;subst hb;simp only[jP,bne_iff_ne]at hnin;obtain⟨p,hp,rfl⟩:=List.mem_map.1 hin;exact hnin p hp
     .unfold rel at h ⊢;obtain⟨_,_,a,cap,hu,hc1,hc2,hc3,h3⟩:=h;have hcl:(qlc nx E.h).length=nx:=by rw[qdz];omega
      refine⟨by simp[qcj,hcl],by simp,a,cap,hu,hc1,hc2,hc3,fun o ho _ _=>?_⟩;obtain⟨_,h5,h6⟩:=h3 _ hob rfl rfl;rcases qoi hnx ho with⟨hi,_⟩ | ⟨_,id',h7⟩
      .omega
      .rw[show nx+acc'.length-nx=acc'.length by omega,hnew]at h7;cases h7;have hbi:(qcj E nx (acc'++[(id,(⟨0,.nst m R⟩:Ob))])).b (nx+acc'.length)=E.b id:=by
        simp only[qcj,if_neg (show ¬(nx+acc'.length<nx)by omega),show nx+acc'.length-nx=acc'.length by omega,hnew,Option.bind_some]
       rw[hbi];exact⟨by simp[qmh];omega,by simp[qcl],h6⟩
    .exact⟨ha,⟨[],by simp⟩,rfl,by unfold rel;trivial⟩
   .exact qux hE hnx ha h
theorem zam{P:Program}{E:Env}(hE:Ok P E){nx:Nat}(hnx:nx<=E.h.length):∀{vs:List V} {us:List Value} {acc:List (Nat×Ob)},qkj E nx acc->qai E vs us ->
  qkj E nx (qmi nx E.h acc vs).2/\(∃more,(qmi nx E.h acc vs).2=acc++more)/\qek (nx+(qmi nx E.h acc vs).2.length) (qmi nx E.h acc vs).1=true/\qai (qcj E nx (qmi nx E.h acc vs).2) (qmi nx E.h acc vs).1 us
 | [],us,acc,ha,h=>⟨ha,⟨[],by simp[qmi]⟩,rfl,by unfold qai at *;exact h⟩
 | v :: vs,us,acc,ha,h=>by
  unfold qai at h;obtain⟨u,us',rfl,h1,h2⟩:=h;obtain⟨k1,⟨m1,k2⟩,k3,k4⟩:=zan hE hnx ha h1;obtain⟨r1,⟨m2,r2⟩,r3,r4⟩:=zam hE hnx k1 h2;simp only[qmi];refine⟨r1,⟨m1++m2,by rw[r2,k2,List.append_assoc]⟩,?_,?_⟩
  .simp only[qek,jE];exact⟨qll (by rw[r2];simp) _ k3,r3⟩
  .unfold qai;refine⟨u,us',rfl,?_,r4⟩;rw[r2];exact qoj hnx k3 k4
theorem znh{P:Program}{E:Env}(hE:Ok P E){nx:Nat}(hnx:nx<=E.h.length){acc:List (Nat×Ob)}(ha:qkj E nx acc){v:V}{u:Value}(h:rel E v u) :
  qkj E nx (qet nx E.h acc v).2/\(∃more,(qet nx E.h acc v).2=acc++more)/\(qet nx E.h acc v).1.low (nx+(qet nx E.h acc v).2.length)=true/\rel (qcj E nx (qet nx E.h acc v).2) (qet nx E.h acc v).1 u:=by
 cases v<;>try exact zan hE hnx ha h
 case agg cs =>unfold rel at h;obtain⟨us,rfl,hl⟩:=h;obtain⟨r1,r2,r3,r4⟩:=zam hE hnx ha hl;simp only[qet];exact⟨r1,r2,by simpa[V.low]using r3,by unfold rel;exact⟨us,rfl,r4⟩⟩
theorem q5j{P:Program}{E:Env}(hE:Ok P E){nx:Nat}(hnx:nx<=E.h.length):∀{vs:List V} {us:List Value} {acc:List (Nat×Ob)},qkj E nx acc->qai E vs us ->
  qkj E nx (qck nx E.h acc vs).2/\(∃more,(qck nx E.h acc vs).2=acc++more)/\qai (qcj E nx (qck nx E.h acc vs).2) (qck nx E.h acc vs).1 us
 | [],us,acc,ha,h=>⟨ha,⟨[],by simp[qck]⟩,by unfold qai at *;exact h⟩
 | v :: vs,us,acc,ha,h=>by unfold qai at h;obtain⟨u,us',rfl,h1,h2⟩:=h;obtain⟨k1,⟨m1,k2⟩,k3,k4⟩:=znh hE hnx ha h1;obtain⟨r1,⟨m2,r2⟩,r4⟩:=q5j hE hnx k1 h2;simp only[qck];refine⟨r1,⟨m1++m2,by rw[r2,k2,List.append_assoc]⟩,?_⟩;unfold qai;refine⟨u,us',rfl,?_,r4⟩;rw[r2];exact qoj hnx k3 k4
theorem zna{P:Program}{E0 E:Env}(hE:Ok P E)(x:Ext E0 E){s:List V}{tmps:Array Value}(hs:qai E s tmps.toList){fn:Go.Func}{g:Fun}(hg:g.results=fn.results.toList.map (cRV P)){v:V}{h':H}
  (hv:qmb g E0.h.length ⟨s,E.h⟩=some (v,h')):∃E' u,(Go.results fn tmps).run P E.w=.ok u E.w/\Ok P E'/\Ext E0 E'/\E'.w=E.w/\E'.h=h'/\rel E' v u:=by
 unfold qmb at hv;rw[hg]at hv;cases hr:rvs ⟨s,E.h⟩ (fn.results.toList.map (cRV P))with
 | none=>rw[hr]at hv;cases hv
 | some vs =>
  rw[hr]at hv;simp only at hv;obtain⟨us,h1,h2⟩:=q8f hE hs hr;split at hv
  .cases hv;obtain⟨r1,⟨m,r2⟩,r4⟩:=q5j hE x.len (acc:=[]) ⟨fun j id ob h=>by simp at h,by simp⟩ h2;exact⟨_,_,h1,ztg hE x.len r1,zni x (jD _) x.len r1,rfl,rfl,q2n r4⟩
  .obtain⟨E1,b1,b2,b3,b4,b5,b6⟩:=qwg hE vs;have hr1:=qsz hE b2 b4 h2 b6;split at hv
   .rename_i hp;cases hv;have hcut:=qjv (n:=0) (E:=E1) (E':=qkk E0.h.length E1) ⟨qmp _ _,fun b h=>by unfold qkk;split<;>exact h,fun i hi=>absurd hi (Nat.not_lt_zero _)⟩ _ _ hp hr1;exact⟨qkk E0.h.length E1,_,h1,qvq b1 _,qoe (x.trans b2) (jD _),by rw[qmp];exact b4,by rw[qsh,b3],q2n hcut⟩
   .cases hv;exact⟨E1,_,h1,b1,x.trans b2,b4,b3,q2n hr1⟩
def qse(S:Nat->Prop)(w:World):Env:=⟨fun _=>none,S,[],w⟩
theorem zfa{P:Program}{S:Nat->Prop}{w:World}(h:∀b,S b->b<w.heap.size):Ok P (qse S w) :=
 ⟨fun id o ho=>by simp[qse]at ho,fun i j o1 o2 b C C' h1=>by simp[qse]at h1,h⟩
theorem qur{S:Nat->Prop}{w:World}{b:Nat}:¬Mut (qse S w) b:=by rintro⟨id,o,C,h,_⟩;simp[qse]at h
theorem zld{E:Env}{v:V}{u:Value}(hp:v.pure=true)(h:rel E v u):rel (qse E.S E.w) v u :=
 qeb (n:=0) (E:=E) (E':=qse E.S E.w) ⟨rfl,fun _ h=>h,fun _ hi=>absurd hi (Nat.not_lt_zero _)⟩ v u hp h
theorem zfb{E:Env}{vs:List V}{us:List Value}(hp:zjd vs=true)(h:qai E vs us):qai (qse E.S E.w) vs us :=
 qjv (n:=0) (E:=E) (E':=qse E.S E.w) ⟨rfl,fun _ h=>h,fun _ hi=>absurd hi (Nat.not_lt_zero _)⟩ vs us hp h
def qbz(E:Env)(S':Nat->Prop)(E':Env):Env:=⟨fun i=>if i<E.h.length then E.b i else E'.b (i-E.h.length),S',E.h++E'.h.map (qid E.h.length),E'.w⟩
theorem qgb(n:Nat)(o:Ob):(qid n o).gen=o.gen/\qjd (qid n o).k=qjd o.k/\qcl (qid n o).k=qcl o.k/\qmh (qid n o).k=qmh o.k/\(qid n o).k.isFrz=o.k.isFrz:=by unfold qid;cases hk:o.k<;>simp[qjd,qcl,qmh,K.isFrz,hk]
theorem q6f{n:Nat}:∀{h:H},h.all (fun o=>o.k.isArr)=true->h.map (qid n)=h
 | [],_=>rfl
 | o :: h,e=>by simp only[List.all_cons,jE]at e;simp only[List.map_cons,q6f e.2];congr 1;have:=e.1;unfold qid;cases hk:o.k<;>simp[K.isArr,hk]at this<;>rfl
theorem zql{h:H}(e:h.all (fun o=>o.k.isArr)=true):h.all (fun o=>o.k.isOwn)=true:=by rw[jP]at *;intro o ho;have:=e o ho;cases hk:o.k<;>simp[K.isArr,hk]at this<;>rfl
theorem qrc{E E':Env}{S':Nat->Prop}{i:Nat}{o:Ob}(h:(qbz E S' E').h[i]?=some o):(i<E.h.length/\E.h[i]?=some o/\(qbz E S' E').b i=E.b i)\/(E.h.length<=i/\(∃o',E'.h[i-E.h.length]?=some o'/\o=qid E.h.length o')/\(qbz E S' E').b i=E'.b (i-E.h.length)):=by
 simp only[qbz]at h ⊢;by_cases hi:i<E.h.length
 .rw[jI hi]at h;exact .inl ⟨hi,h,if_pos hi⟩
 .rw[jJ (by omega)]at h;rw[List.getElem?_map,jM]at h;obtain⟨o',h1,h2⟩:=h;exact .inr ⟨by omega,⟨o',h1,h2.symm⟩,if_neg hi⟩
theorem zak{P:Program}{E E':Env}{S1 S':Nat->Prop}(hE:Ok P E)(hE':Ok P E')(x:Ext (qse S1 E.w) E')(harr:E'.h.all (fun o=>o.k.isOwn)=true)
  (hS:∀b,E.S b->S' b) (hback:∀b,b<E.w.heap.size->S' b->E.S b) (hS':∀b,S' b->E'.S b)
  (hrow:∀(j:Nat) g n els b o,E'.h[j]?=some ⟨g,.arr n els⟩->qak E' n els b o->qak (qbz E S' E') n els b o)
  (hrow2:∀(j:Nat) g n els b o,E'.h[j]?=some ⟨g,.nst n els⟩->qak E' n els b o->qak (qbz E S' E') n (els.map fun r=>qdd E.h.length r) b o):Ok P (qbz E S' E')/\Ext E (qbz E S' E'):=by
 have keep:∀b,b<E.w.heap.size->E'.w.heap[b]?=E.w.heap[b]?:=fun b hb=>x.keep b hb qur;have newm:∀b,Mut E' b->¬b<E.w.heap.size:=fun b hm hb=>qur (x.muts b hb hm);have hgetlow:∀i,i<E.h.length->(qbz E S' E').h[i]?=E.h[i]?:=fun i hi=>jI hi;have hblow:∀i,i<E.h.length->(qbz E S' E').b i=E.b i:=fun i hi=>if_pos hi;have X:Ext E (qbz E S' E'):=by
  refine⟨⟨hS,x.size,fun b hb _=>keep b hb,fun b hb hm=>?_,by simp[qbz],fun i hi=>?_,fun i o' hi ho' _=>?_,x.os,x.output,fun i o' hi ho'=>?_⟩,fun b hb h=>.inl (hback b hb h),fun i g cells h1 h2 _=>⟨by rw[hgetlow i (qbe h1)];exact h1,by rw[hblow i (qbe h1)];exact h2⟩⟩
  .obtain⟨i,o,C,h1,h2,h3⟩:=hm;rcases qrc h1 with⟨_,q1,q2⟩ | ⟨_,q1,q2⟩
   .exact⟨i,o,C,q1,by rw[<-q2];exact h2,h3⟩
   .obtain⟨o',q1,rfl⟩:=q1;exact absurd hb (newm b ⟨_,o',C,q1,by rw[<-q2];exact h2,by rw[<-(qgb E.h.length o').2.2.2.2];exact h3⟩)
  .simp only[qgr,hgetlow i hi];exact jD _
  .exact⟨o',by rw[<-hgetlow i hi];exact ho',rfl,rfl,jD _,fun z hz=>by rw[hblow i hi];exact hz,fun _=>hblow i hi⟩
  .exact⟨o',by rw[<-hgetlow i hi];exact ho',rfl⟩
 refine⟨⟨fun i o ho=>?_,fun i j o1 o2 b C C' h1 h2 f1 f2 b1 b2=>?_,fun b hb=>hE'.S b (hS' b hb)⟩,X⟩
 .rcases qrc ho with⟨hi,q1,q2⟩ | ⟨hi,q1,q2⟩
  .refine qht hE X (hE.obj i o q1) q2 fun b C hb=>⟨keep b (hE.bound q1 hb),fun hf hSb=>?_⟩
   exact hE.notS q1 hf hb (hback b (hE.bound q1 hb) hSb)
  .obtain⟨o,q1,rfl⟩:=q1;have hr:=hE'.obj _ o q1;have ha:o.k.isOwn=true:=(jP.1 harr) o (jR q1);obtain⟨g,k⟩:=o;cases k<;>try (simp[K.isOwn]at ha;done)
   case nst n els =>unfold qej at hr ⊢;rw[q2];simp only[qid];refine hr.imp (fun h=>⟨h.1,by rw[h.2];rfl⟩) ?_;rintro⟨b,C,cs,ty,r1,r2,r3,r4,r5,r6,r7⟩;exact⟨b,C,cs,ty,r1,fun h=>r2 (hS' b h),r3,r4,r5,by simpa using r6,hrow2 _ _ _ _ _ _ q1 r7⟩
   rename_i n els;unfold qej at hr ⊢;rw[q2];simp only[qid];refine⟨hr.1,hr.2.imp (fun h=>h) ?_⟩;rintro⟨b,C,cs,ty,r1,r2,r3,r4,r5,r6,r7⟩;exact⟨b,C,cs,ty,r1,fun h=>r2 (hS' b h),r3,r4,r5,r6,hrow _ _ _ _ _ _ q1 r7⟩
 .rcases qrc h1 with⟨l1,p1,p2⟩ | ⟨l1,p1,p2⟩<;>rcases qrc h2 with⟨l2,q1,q2⟩ | ⟨l2,q1,q2⟩
  .exact hE.inj i j o1 o2 b C C' p1 q1 f1 f2 (by rw[<-p2];exact b1) (by rw[<-q2];exact b2)
  .obtain⟨o2,q1,rfl⟩:=q1;rw[(qgb E.h.length o2).2.2.2.2]at f2;have h3:=hE.bound p1 (by rw[<-p2];exact b1);exact absurd h3 (newm b ⟨_,o2,C',q1,by rw[<-q2];exact b2,f2⟩)
  .obtain⟨o1,p1,rfl⟩:=p1;rw[(qgb E.h.length o1).2.2.2.2]at f1;have h3:=hE.bound q1 (by rw[<-q2];exact b2);exact absurd h3 (newm b ⟨_,o1,C,p1,by rw[<-p2];exact b1,f1⟩)
  .obtain⟨o1,p1,rfl⟩:=p1;obtain⟨o2,q1,rfl⟩:=q1;rw[(qgb E.h.length o1).2.2.2.2]at f1;rw[(qgb E.h.length o2).2.2.2.2]at f2;have:=hE'.inj _ _ o1 o2 b C C' p1 q1 f1 f2 (by rw[<-p2];exact b1) (by rw[<-q2];exact b2);omega
theorem qfl{E E':Env}{S':Nat->Prop}(i:Nat):(qbz E S' E').h[E.h.length+i]?=(E'.h[i]?).map (qid E.h.length)/\(qbz E S' E').b (E.h.length+i)=E'.b i:=by
 constructor
 .simp only[qbz];rw[jJ (by omega),Nat.add_sub_cancel_left,List.getElem?_map]
 .simp only[qbz];rw[if_neg (by omega),Nat.add_sub_cancel_left]
theorem qlj{E E':Env}{S':Nat->Prop}{i:Nat}{o:Ob}(h:(qbz E S' E').h[E.h.length+i]?=some o):∃o',E'.h[i]?=some o'/\o.gen=o'.gen/\qjd o.k=qjd o'.k/\qcl o.k=qcl o'.k/\qmh o.k=qmh o'.k:=by rw[(qfl i).1,jM]at h;obtain⟨o',h1,rfl⟩:=h;obtain⟨s1,s2,s3,s4,_⟩:=qgb E.h.length o';exact⟨o',h1,s1,s2,s3,s4⟩
theorem q5g{E E':Env}{S':Nat->Prop}(i:Nat):qgr (qbz E S' E').h (E.h.length+i)=qgr E'.h i:=by
 simp only[qgr,(qfl (E:=E) (E':=E') (S':=S') i).1];cases E'.h[i]? with
 | none=>rfl
 | some o=>exact(qgb _ o).1
theorem zbg{E E':Env}{S':Nat->Prop}{id g n off len:Nat}{u:Value}(h:rel E' (.sl id g n off len) u):rel (qbz E S' E') (.sl (E.h.length+id) g n off len) u:=by unfold rel at *;obtain⟨h1,h2,a,cap,h3,h4,h5,h6,h7⟩:=h;refine⟨by simp[qbz,h1],by rw[q5g];exact h2,a,cap,h3,h4,h5,h6,fun o ho=>?_⟩;obtain⟨o',ho',s1,s2,s3,s4⟩:=qlj ho;rw[(qfl id).2];simp only[s1,s2,s3,s4];exact h7 o' ho'
theorem qqf(n:Nat):∀vs:List V,(qdd n vs).length=vs.length
 | []=>rfl
 | v :: vs=>by simp only[qdd,List.length_cons,qqf n vs]
mutual
theorem qyc{E E':Env}{S':Nat->Prop}(hS:∀b,E'.S b->S' b):∀(v:V) (u:Value),rel E' v u->rel (qbz E S' E') (qco E.h.length v) u
 | .undef,_,_=>by unfold qco rel;trivial
 | .bool b,u,h=>by simp only[qco];unfold rel at *;exact h
 | .int k n,u,h=>by simp only[qco];unfold rel at *;exact h
 | .str s,u,h=>by simp only[qco];unfold rel at *;exact h
 | .nils,u,h=>by simp only[qco];unfold rel at *;exact h
 | .nilx,u,h=>by simp only[qco];unfold rel at *;exact h
 | .imm els,u,h=>by simp only[qco];exact qeb (n:=0) (E:=E') (E':=qbz E S' E') ⟨rfl,hS,fun i hi=>absurd hi (Nat.not_lt_zero _)⟩ _ _ rfl h
 | .immc els,u,h=>by simp only[qco];exact qeb (n:=0) (E:=E') (E':=qbz E S' E') ⟨rfl,hS,fun i hi=>absurd hi (Nat.not_lt_zero _)⟩ _ _ rfl h
 | .iptr cells,u,h=>by simp only[qco];exact qeb (n:=0) (E:=E') (E':=qbz E S' E') ⟨rfl,hS,fun i hi=>absurd hi (Nat.not_lt_zero _)⟩ _ _ rfl h
 | .bptr id off,u,h=>by simp only[qco];unfold rel at *;obtain⟨h1,b,y,h2,h3⟩:=h;refine⟨by simp[qbz,h1],b,y,h2,fun o ho=>?_⟩;obtain⟨o',ho',s1,s2,s3,s4⟩:=qlj ho;rw[(qfl id).2];simp only[s1,s2,s3,s4];exact h3 o' ho'
 | .ptr id g el off,u,h=>by simp only[qco];unfold rel at *;obtain⟨h1,h0,b,y,h2,h3⟩:=h;refine⟨by simp[qbz,h1],by rw[q5g];exact h0,b,y,h2,fun o ho=>?_⟩;obtain⟨o',ho',s1,s2,s3,s4⟩:=qlj ho;rw[(qfl id).2];simp only[s1,s2,s3,s4];exact h3 o' ho'
 | .sl id g n off len,u,h=>by simp only[qco];exact zbg h
 | .bsl id off n len,u,h=>by simp only[qco];unfold rel at *;obtain⟨h1,b,y,cap,h2,hc,h3⟩:=h;refine⟨by simp[qbz,h1],b,y,cap,h2,hc,fun hn o ho=>?_⟩;obtain⟨o',ho',s1,s2,s3,s4⟩:=qlj ho;rw[(qfl id).2];simp only[s1,s2,s3,s4];exact h3 hn o' ho'
 | .agg cs,u,h=>by simp only[qco];unfold rel at *;obtain⟨us,h1,h2⟩:=h;exact⟨us,h1,qky hS cs us.toList h2⟩
 | .tup cs,u,h=>by simp only[qco];unfold rel at *;obtain⟨us,h1,h2⟩:=h;exact⟨us,h1,qky hS cs us.toList h2⟩
 | .fn f a c,u,h=>by simp only[qco];unfold rel at *;obtain⟨a',c',h1,h2,h3⟩:=h;exact⟨a',c',h1,qky hS a a'.toList h2,qky hS c c'.toList h3⟩
 | .ub,u,h=>by simp only[qco];unfold rel at *;exact h
 | .nilfn,u,h=>by simp only[qco];unfold rel at *;exact h
 | .nilp,u,h=>by simp only[qco];unfold rel at *;exact h
 | .map id,u,h=>by simp only[qco];unfold rel at *;obtain⟨h1,b,h2,h3⟩:=h;refine⟨by simp[qbz,h1],b,h2,fun o ho=>?_⟩;obtain⟨o',ho',s1,s2,s3,s4⟩:=qlj ho;rw[(qfl id).2];simp only[s1,s2,s3,s4];exact h3 o' ho'
 | .sit id,u,h=>by simp only[qco];unfold rel at *;obtain⟨h1,b,h2,h3⟩:=h;refine⟨by simp[qbz,h1],b,h2,fun o ho=>?_⟩;obtain⟨o',ho',s1,s2,s3,s4⟩:=qlj ho;rw[(qfl id).2];simp only[s1,s2,s3,s4];exact h3 o' ho'
 | .yld id,u,h=>by simp only[qco];unfold rel at *;obtain⟨h1,b,h2,h3⟩:=h;refine⟨by simp[qbz,h1],b,h2,fun o ho=>?_⟩;obtain⟨o',ho',s1,s2,s3,s4⟩:=qlj ho;rw[(qfl id).2];simp only[s1,s2,s3,s4];exact h3 o' ho'
 | .view p cells,u,h=>by simp only[qco];unfold rel at *;obtain⟨b,o,h1,h2,h3⟩:=h;exact⟨b,o,hS b h1,qqg hS cells b o h2,by rw[qqf];exact h3⟩
theorem qqg{E E':Env}{S':Nat->Prop}(hS:∀b,E'.S b->S' b):∀(vs:List V) (b o:Nat),qbc E' vs b o->qbc (qbz E S' E') (qdd E.h.length vs) b o
 | [],_,_,_=>by simp only[qdd];unfold qbc;trivial
 | v :: vs,b,o,h=>by simp only[qdd];unfold qbc at *;obtain⟨⟨u,h1,h2⟩,h3⟩:=h;exact⟨⟨u,h1,qyc hS v u h2⟩,qqg hS vs b (o+1) h3⟩
theorem qky{E E':Env}{S':Nat->Prop}(hS:∀b,E'.S b->S' b):∀(vs:List V) (us:List Value),qai E' vs us->qai (qbz E S' E') (qdd E.h.length vs) us
 | [],us,h=>by simp only[qdd];unfold qai at *;exact h
 | v :: vs,us,h=>by simp only[qdd];unfold qai at *;obtain⟨u,us',h1,h2,h3⟩:=h;exact⟨u,us',h1,qyc hS v u h2,qky hS vs us' h3⟩
end
theorem qru{E E':Env}{S':Nat->Prop}(hS:∀b,E'.S b->S' b){n:Nat}:∀(rs:List (List V)) (b o:Nat),qak E' n rs b o->qak (qbz E S' E') n (rs.map fun r=>qdd E.h.length r) b o
 | [],_,_,_=>by simp[qak]
 | r :: rs,b,o,h=>by unfold qak at h;simp only[List.map_cons];unfold qak;exact⟨by rw[qqf];exact h.1,qqg hS r b o h.2.1,qru hS rs b (o+n) h.2.2⟩
theorem zjo{E E':Env}{v:V}{u:Value}(hv:v.scal1=true)(h:rel E v u):rel E' v u:=by cases v<;>first | (simp[V.scal1]at hv;done) | (unfold rel at *;exact h)
theorem q0o{E E':Env}(hw:E'.w=E.w):∀{vs:List V} {b o:Nat},vs.all V.scal1=true->qbc E vs b o->qbc E' vs b o
 | [],_,_,_,_=>by unfold qbc;trivial
 | v :: vs,b,o,hv,h=>by simp only[List.all_cons,jE]at hv;unfold qbc at *;obtain⟨⟨u,h1,h2⟩,h3⟩:=h;exact⟨⟨u,by rw[hw];exact h1,zjo hv.1 h2⟩,q0o hw hv.2 h3⟩
theorem qud{E E':Env}(hw:E'.w=E.w){n:Nat}:∀{rs:List (List V)} {b o:Nat},(rs.all fun r=>r.all V.scal1)=true->qak E n rs b o->qak E' n rs b o
 | [],_,_,_,_=>by unfold qak;trivial
 | r :: rs,b,o,hv,h=>by simp only[List.all_cons,jE]at hv;unfold qak at *;exact⟨h.1,q0o hw (by simpa using hv.1) h.2.1,qud hw hv.2 h.2.2⟩
theorem qxv{E E':Env}{S':Nat->Prop}{v:V}{u:Value}(hv:v.safe1=true)(h:rel E' v u):rel (qbz E S' E') (qco E.h.length v) u:=by
 cases v<;>try (simp[V.safe1]at hv;done)
 case sl=>simp only[qco];exact zbg h
 all_goals
  simp only[qco];unfold rel at *;exact h
theorem q6b{E E':Env}{S':Nat->Prop}:∀{vs:List V} {us:List Value},vs.all V.safe1=true->qai E' vs us->qai (qbz E S' E') (qdd E.h.length vs) us
 | [],us,_,h=>by simp only[qdd];unfold qai at *;exact h
 | v :: vs,us,hv,h=>by simp only[List.all_cons,jE]at hv;simp only[qdd];unfold qai at *;obtain⟨u,us',h1,h2,h3⟩:=h;exact⟨u,us',h1,qxv hv.1 h2,q6b hv.2 h3⟩
theorem zbc{E E':Env}{S':Nat->Prop}{cs:List V}{u:Value}(hv:cs.all V.safe1=true)(h:rel E' (.agg cs) u):rel (qbz E S' E') (qco E.h.length (.agg cs)) u:=by simp only[qco];unfold rel at *;obtain⟨us,h1,h2⟩:=h;exact⟨us,h1,q6b hv h2⟩
theorem q6c{E E':Env}{S':Nat->Prop}:∀{vs:List V} {us:List Value},(vs.all fun v=>match v with | .agg cs=>cs.all V.safe1 | v=>v.safe1)=true->qai E' vs us->qai (qbz E S' E') (qdd E.h.length vs) us
 | [],us,_,h=>by simp only[qdd];unfold qai at *;exact h
 | v :: vs,us,hv,h=>by
  simp only[List.all_cons,jE]at hv;simp only[qdd];unfold qai at *;obtain⟨u,us',h1,h2,h3⟩:=h;refine⟨u,us',h1,?_,q6c hv.2 h3⟩;cases v<;>try exact qxv hv.1 h2
  exact zbc hv.1 h2
theorem zny{E E':Env}{S':Nat->Prop}{v:V}{u:Value}(hv:v.safe=true)(h:rel E' v u):rel (qbz E S' E') (qco E.h.length v) u:=by
 cases v<;>try exact qxv hv h
 case agg cs=>exact zbc hv h
 case tup vs =>simp only[qco];unfold rel at *;obtain⟨us,h1,h2⟩:=h;exact⟨us,h1,q6c hv h2⟩
open Go (World Value Addr Obj Program Act Operand Oper Op Sem Result Next undef execOp TypeId TypeDesc Ending CallsIn RoundIn Fence)
def Ret(P:Program)(E:Env)(v:V)(h':H):Ending->World->Prop:=fun e w'=>∃E' u,e=.returned u/\Ok P E'/\Ext E E'/\E'.w=w'/\E'.h=h'/\rel E' v u
def zvi(P:Program)(self:Q->Option R):Prop:=∀(fid:Nat) (first caps args:List V) (E:Env) (res:R) (us:Array Value),Ok P E->qai E (first++args++caps) us.toList->self (.call (.fn fid first caps) args E.h)=some res ->
 (∃ fn, P.funcs[qlr fid]? = some fn ∧ fn.name ≠ "runtime.NumGoroutine" ∧ fn.body.isSome = true) ∧ CallsIn Fence.wide 0 P (qlr fid) us E.w (Ret P E res.v res.st.h)
def q6p(L:Go.Loop)(us:Array Value):Array Value:=(L.params.zip us).foldl (fun tmps (t,a)=>tmps.setIfInBounds t a) L.tmps
def zes(P:Program)(self:Q->Option R):Prop:=∀(l:Nat) (args:List V) (E:Env) (res:R) (us:Array Value),Ok P E->qai E args us.toList->self (.call (.yld l) args E.h)=some res ->
 ∃b C L,E.b l=some (b,C)/\(∃o,E.h[l]?=some o/\qjd o.k=4)/\E.w.heap[b]?=some (.loop L)/\us.size=L.params.size/\RoundIn Fence.wide 0 P b L.fn (q6p L us) L.assign L.body E.w (Ret P E res.v res.st.h)
def Goes(P:Program)(u:Value)(us:Array Value)(w:World)(K:Ending->World->Prop):Prop :=
 ∃d,(Go.Deferred.ofValue u us).run P w=.ok d w/\((∃fid as,(Go.invoke d.target d.args).run P w=.ok (.enter fid as) w/\CallsIn Fence.wide 0 P fid as w K) \/
  ∃l fn tmps assign body,(Go.invoke d.target d.args).run P w=.ok (.round l fn tmps assign body) w/\RoundIn Fence.wide 0 P l fn tmps assign body w K)
theorem Goes.mono{P:Program}{u:Value}{us:Array Value}{w:World}{K K':Ending->World->Prop}(h:Goes P u us w K)(hk:∀e w',K e w'->K' e w'):Goes P u us w K':=by
 obtain⟨d,h1,h2⟩:=h;refine⟨d,h1,?_⟩;rcases h2 with⟨fid,as,h3,h4⟩ | ⟨l,fn,tmps,as,bd,h3,h4⟩
 .exact .inl ⟨fid,as,h3,h4.mono hk⟩
 .exact .inr ⟨l,fn,tmps,as,bd,h3,h4.mono hk⟩
theorem q1n{P:Program}{self:Q->Option R}(hF:zvi P self)(hY:zes P self)(hk:∀f args h res,self (.call f args h)=some res->(∃a b c,f=.fn a b c/\a<1000000)\/∃l,f=.yld l)
  {E:Env} (hE:Ok P E) {f:V} {u:Value} (hf:rel E f u) {args:List V} {us:Array Value} (ha:qai E args us.toList) {res:R} (h:self (.call f args E.h)=some res):Goes P u us E.w (Ret P E res.v res.st.h):=by
 rcases hk _ _ _ _ h with⟨fid,first,caps,rfl,hlt⟩ | ⟨l,rfl⟩
 .unfold rel at hf;obtain⟨a',c',hu | hu,h1,h2⟩:=hf
  case inr=>exact absurd hu.1 (by omega)
  obtain⟨_,rfl⟩:=hu;have hr:qai E (first++args++caps) ((a'++us)++c').toList:=by simpa using qch (qch h1 ha) h2
  obtain⟨⟨fn,q1,q2,q3⟩,q4⟩:=hF fid first caps args E res _ hE hr h
  refine⟨_,rfl,.inl ⟨qlr fid,(a'++us)++c',?_,q4⟩⟩;have hb:fn.body≠none:=by intro hb;rw[hb]at q3;cases q3
  simp[Go.invoke,Go.callFunc,q1,q2,hb]
 .unfold rel at hf;obtain⟨hlt,b,rfl,h1⟩:=hf;obtain⟨b',C,L,q1,⟨o,q2,q3⟩,q4,q5,q6⟩:=hY l args E res us hE ha h;obtain⟨C',h2⟩:=h1 o q2 q3;rw[q1]at h2;cases h2;refine⟨{ target:=.fn (.yield b) #[],args:=#[]++us },rfl,.inr ⟨b,L.fn,q6p L us,L.assign,L.body,?_,q6⟩⟩;have hsz:¬(us.size≠L.params.size):=by simp[q5]
  have hgl:(Go.Instr.getLoop b).run P E.w=.ok L E.w:=by simp[Go.Instr.getLoop,Go.getObj,Sem.run,q4]
  simp only[Go.invoke,Go.Instr.yield,Sem.run_bind,hgl,Go.Result.andThen_ok,Array.empty_append,hsz,if_false];simp[q6p]
theorem q9d{P:Program}{pg:Prg}{self:Q->Option R}(hF:zvi P self)(hY:zes P self)(hk:∀f args h res,self (.call f args h)=some res->(∃a b c,f=.fn a b c/\a<1000000)\/∃l,f=.yld l)
  {E:Env} (hE:Ok P E) {f:V} {u:Value} (hf:rel E f u) {args:List V} {us:Array Value} (ha:qai E args us.toList) {v:V} {h':H} (h:qmf pg self f args E.h=some (v,h')):Goes P u us E.w (Ret P E v h'):=by
 unfold qmf at h;split at h
 .cases e:self (.call f args E.h)with
  | none=>rw[e]at h;cases h
  | some r =>rw[e]at h;cases h;exact q1n hF hY hk hE hf ha e
 .obtain⟨E1,b1,b2,b3,b4,b5,b6⟩:=qwg hE args;have hf1:=qcz hE b2.toExt0 _ _ hf;have ha1:=qsz hE b2 b4 ha b6;simp only at h;split at h
  .rename_i hp;simp only[jE]at hp;cases e:self (.call f (args.map (qfn E.h)) [])with
   | none=>rw[e]at h;cases h
   | some r =>
    rw[e]at h;simp only at h;obtain⟨harr,hvv,hhh⟩:r.st.h.all (fun o=>o.k.isOwn)=true/\v=qco (if(r.v.safe&&r.st.h.all fun o=>o.k.safe)=true then E.h else qyn E.h args).length r.v/\h'=(if(r.v.safe&&r.st.h.all fun o=>o.k.safe)=true then E.h else qyn E.h args)++r.st.h.map (qid (if(r.v.safe&&r.st.h.all fun o=>o.k.safe)=true then E.h else qyn E.h args).length):=by
     split at h
     .rename_i harr;cases h;exact⟨zql harr,rfl,by rw[q6f harr]⟩
     .split at h
      .rename_i harr;cases h;exact⟨harr,rfl,rfl⟩
      .cases h
    subst hvv;subst hhh;clear h
    .have hB:Ok P (qse E1.S E1.w):=zfa b1.S;have hg:=q1n hF hY hk hB (zld hp.1 hf1) (zfb hp.2 ha1) e;rw[show(qse E1.S E1.w).w=E.w from b4]at hg;refine hg.mono ?_;rintro e' w' ⟨E',u',rfl,c1,c2,rfl,c3,c4⟩;have harr':E'.h.all (fun o=>o.k.isOwn)=true:=by rw[c3];exact harr
     split
     .rename_i hs;simp only[jE]at hs;rw[b4]at c2;obtain⟨m1,m2⟩:=zak (S':=E.S) hE c1 c2 harr' (fun _ h=>h) (fun _ _ h=>h) (fun b h=>c2.S b (b2.S b h)) (fun j g n els b _ hj hr=>by
       refine qud (E:=E') (E':=qbz E E.S E') rfl ?_ hr;have:=(jP.1 hs.2) _ (by rw[<-c3];exact jR hj);simpa[K.safe]using this) (fun j g n els b _ hj hr=>by
       have:=(jP.1 hs.2) _ (by rw[<-c3];exact jR hj);simp[K.safe]at this)
      refine⟨_,u',rfl,m1,m2,rfl,by simp[qbz,c3],zny hs.1 c4⟩
     .rw[<-b3];obtain⟨m1,m2⟩:=zak (S':=E'.S) b1 c1 c2 harr' c2.S (fun b hb h=>(c2.back b hb h).resolve_right qur) (fun _ h=>h) (fun j g n els b _ hj hr=>by
       have hro:=c1.obj j _ hj;unfold qej at hro;exact qdr (n:=0) (E:=E') (E':=qbz E1 E'.S E') ⟨rfl,fun _ h=>h,fun i hi=>absurd hi (Nat.not_lt_zero _)⟩ _ _ _ _ hro.1 hr) (fun j g n els b _ hj hr=>qru (fun _ h=>h) _ _ _ hr)
      refine⟨_,u',rfl,m1,b2.trans m2,rfl,by simp[qbz,c3],qyc (fun _ h=>h) _ _ c4⟩
  .cases e:self (.call f (args.map (qfn E.h)) (qyn E.h args))with
   | none=>rw[e]at h;cases h
   | some r =>rw[e]at h;cases h;rw[<-b3]at e;have hg:=q1n hF hY hk b1 hf1 ha1 e;rw[b4]at hg;refine hg.mono ?_;rintro e' w' ⟨E',u',rfl,c1,c2,c3,c4,c5⟩;exact⟨E',u',rfl,c1,b2.trans c2,c3,c4,c5⟩
theorem zcd{pg:Prg}{self:Q->Option R}(hk:∀f args h res,self (.call f args h)=some res->(∃a b c,f=.fn a b c/\a<1000000)\/∃l,f=.yld l){f:V}{args:List V}{h:H}{p:V×H}(e:qmf pg self f args h=some p):(∃a b c,f=.fn a b c/\a<1000000)\/∃l,f=.yld l:=by
 apply Classical.byContradiction;intro hno;have hn:∀a h,self (.call f a h)=none:=by
  intro a h;cases e1:self (.call f a h)with
  | none=>rfl
  | some r=>exact absurd (hk _ _ _ _ e1) hno
 unfold qmf at e;simp only[hn]at e;split at e
 .cases e
 .split at e<;>cases e
theorem zdf{P:Program}{name:String}{t:TypeId}{f:Nat}(h:qrd P name t=some f)(n:Nat)(w:Value)(W:World):(Go.method (n+1) t w name).run P W=.ok (f,w) W:=by
 unfold qrd at h;split at h
 .rename_i i hi;split at h
  .rename_i m hm;have h1:=Go.run_typeInfo (P:=P) (w:=W) hi;have key:∀pr,m.func=some (f,pr)->m.path=#[]->(∃d,P.underlying t=some d/\((∃e,d=.pointer e)/\pr=true\/(∀e,d ≠ .pointer e)/\pr=false))->(Go.method (n+1) t w name).run P W=.ok (f,w) W:=by
    intro pr hf hp ⟨d,hd,hdp⟩;unfold Go.method;simp only[Sem.run_bind,h1,Go.Result.andThen_ok,hm,hp,Go.follow,Sem.run_pure,hf,Go.receiverAt,Go.run_underlying hd];rcases hdp with⟨⟨e,rfl⟩,rfl⟩ | ⟨hne,rfl⟩
    .simp[Go.Place.get]
    .cases d<;>simp_all [Go.Place.get]
   split at h
   .rename_i f' pr e hf hd;split at h
    .rename_i hh;cases h;exact key pr hf hh.1 ⟨_,hd,.inl ⟨⟨_,rfl⟩,hh.2.1⟩⟩
    .cases h
   .rename_i f' pr d hne hf hd;split at h
    .rename_i hh;cases h;exact key pr hf hh.1 ⟨_,hd,.inr ⟨fun e he=>hne e he,hh.2.1⟩⟩
    .cases h
   .cases h
  .cases h
 .cases h
theorem zii{P:Program}{name:String}{t:TypeId}{f:Nat}(h:qrd P name t=some f):f<500000:=by
 unfold qrd at h;split at h
 .split at h
  .split at h
   .split at h
    .rename_i hh;cases h;exact hh.2.2
    .cases h
   .split at h
    .rename_i hh;cases h;exact hh.2.2
    .cases h
   .cases h
  .cases h
 .cases h
theorem zij{P:Program}{name:String}{k f:Nat}(h:zvg (q2i P name) k=some f):∃t,k=t+1000000/\qrd P name t=some f:=by
 have key:∀l:List Nat,zvg (l.filterMap fun t=>(qrd P name t).map fun f=>(t,f)) k=some f->∃t,k=t+1000000/\qrd P name t=some f:=by
  intro l;induction l with
  | nil=>intro h;cases h
  | cons t l ih =>
   intro h;simp only[List.filterMap_cons]at h;cases hm:qrd P name t with
   | none=>rw[hm]at h;exact ih h
   | some g =>
    rw[hm]at h;simp only[Option.map_some,zvg]at h;split at h
    .rename_i hk;cases h;exact⟨t,hk,hm⟩
    .exact ih h
 exact key _ h
theorem zxc{P:Program}{pg:Prg}{self:Q->Option R}(hF:zvi P self)(hY:zes P self)(hk:∀f args h res,self (.call f args h)=some res->(∃a b c,f=.fn a b c/\a<1000000)\/∃l,f=.yld l)
  {E:Env} (hE:Ok P E) {x:V} {u:Value} {name:String} (hx:rel E x u) {args:List V} {us:Array Value} (ha:qai E args us.toList) {v:V} {h':H} (h:qmf pg self (z0l (q2i P name) x) args E.h=some (v,h')) :
  (∃fid as,(Go.invoke (.fn (.method name) #[]) (#[u]++us)).run P E.w=.ok (.enter fid as) E.w/\CallsIn Fence.wide 0 P fid as E.w (Ret P E v h')) \/
  ∃l fn tmps assign body,(Go.invoke (.fn (.method name) #[]) (#[u]++us)).run P E.w=.ok (.round l fn tmps assign body) E.w/\RoundIn Fence.wide 0 P l fn tmps assign body E.w (Ret P E v h'):=by
 have hne:=zcd hk h;unfold z0l at h hne;split at h
 .rename_i k y;split at h
  .rename_i f hf;obtain⟨t,rfl,hm⟩:=zij hf;unfold rel at hx;obtain⟨a',c',hu,h1,h2⟩:=hx;have hc:c'=#[]:=by simpa[qai]using h2
   subst hc;obtain⟨w,rfl⟩:∃w,a'=#[w]:=by simp only[qai]at h1;obtain⟨w,r,e,_,rfl⟩:=h1;exact⟨w,Array.ext' (by simpa using e)⟩
   have hu:u=.iface t w:=by
    rcases hu with hu | ⟨_,_,w',e1,e2⟩
    .exact absurd hu.1 (Nat.not_lt.2 (Nat.le_add_left _ _))
    .have e3:w'=w:=by simpa using e1.symm
     rw[e2,e3,Nat.add_sub_cancel]
   subst hu;have hrun:∀nx,(Go.callFunc f (#[w]++us)).run P E.w=.ok nx E.w->(Go.invoke (.fn (.method name) #[]) (#[Value.iface t w]++us)).run P E.w=.ok nx E.w:=by
    intro nx hn;have e1:(#[Value.iface t w]++us)[0]?=some (Value.iface t w):=by rw[Array.getElem?_append_left (by simp)];rfl
    have e2:(#[Value.iface t w]++us).extract 1 (#[Value.iface t w]++us).size=us:=by simp
    simp only[Go.invoke,e1,e2,Go.callMethod,Sem.run_bind,Go.run_program,Go.Result.andThen_ok];rw[show P.types.size+Go.Made.depth=(P.types.size+99)+1 from rfl,zdf hm];exact hn
   have hf2:f<500000:=zii hm;obtain⟨dd,g1,g2⟩:=q9d hF hY hk hE (f:=.fn f [y] []) (u:=.func (.func f) #[w] #[]) (by
    unfold rel;exact⟨_,_,.inl ⟨jS hf2 (by decide),by rw[qri hf2]⟩,h1,h2⟩) ha h
   have hd:dd={ target:=.fn (.func f) #[],args:=#[w]++us }:=by simp[Go.Deferred.ofValue,Sem.run_pure]at g1;exact g1.symm
   subst hd;simp only[Go.invoke,Array.append_empty]at g2;rcases g2 with⟨a,b,g3,g4⟩ | ⟨a,b,c,d,e,g3,g4⟩
   .exact .inl ⟨a,b,hrun _ g3,g4⟩
   .exact .inr ⟨a,b,c,d,e,hrun _ g3,g4⟩
  .rename_i hno;simp only[hno]at hne;rcases hne with⟨_,_,_,e,_⟩ | ⟨_,e⟩<;>cases e
 .rename_i hno;rcases hne with⟨_,_,_,e,_⟩ | ⟨_,e⟩
  all_goals
   split at e
   .exact(hno _ _ rfl).elim
   .cases e
open Go (World Value Addr Obj Program Act Operand Oper Op Sem Result Next undef execOp TypeId TypeDesc Ending CallsIn RoundIn Fence Exit)
variable{md:Nat}
def F0(r:Option Nat):Fence:={ Fence.wide with round:=r }
structure SelfOk(P:Program)(sf:Q->Option R):Prop where
 fn:zvi P sf
 yld:zes P sf
 kind:∀f args h res,sf (.call f args h)=some res->(∃a b c,f=.fn a b c/\a<1000000)\/∃l,f=.yld l
theorem qoq{E:Env}{s:List V}{a:Act}(hs:qai E s a.tmps.toList)(d:Option Nat){v:V}{u:Value}(h:rel E v u):qai E (q3n s d v) (a.put d u).tmps.toList:=by
 cases d with
 | none=>exact hs
 | some d =>simp only[q3n,Go.Act.put,Array.toList_setIfInBounds];exact q2s h d hs
theorem qhe(a:Act)(d:Option Nat)(u:Value):(a.put d u).defers=a.defers:=by cases d<;>rfl
theorem q0y{P:Program}{E:Env}{s:List V}{a:Act}(hs:qai E s a.tmps.toList){ops:Array Oper}{o:Oper}{t:Bool}{d:Option Nat}{g:Option (Nat×Bool)}{q:O}(hi:cI md P ops o=⟨d,g,q⟩)(hw:qcb s ⟨d,g,q⟩=some t) :
  d=o.dst/\(q=.stuck/\g=none\/(q=(cOp (zpb md ops o) P o).getD .stuck/\Go.Region.wanted o (Go.yielded ops a.tmps)=t)):=by
 unfold cI at hi;split at hi
 .rename_i hg;simp only[I.mk.injEq]at hi;obtain⟨rfl,rfl,rfl⟩:=hi;simp only[qcb,jC]at hw;subst hw;exact⟨rfl,.inr ⟨rfl,by simp[Go.Region.wanted,hg]⟩⟩
 .rename_i j b hg;split at hi
  .rename_i e he;simp only[I.mk.injEq]at hi;obtain⟨rfl,rfl,rfl⟩:=hi;refine⟨rfl,.inr ⟨rfl,?_⟩⟩;have hr:=qls e hs;simp only[qcb]at hw;have hy:Go.yielded ops a.tmps j=match a.tmps[e]? with | some (.bool b)=>some b | _=>none:=by
    unfold Go.yielded;rw[he];rfl
   have hgd2:a.tmps.toList.getD e undef=(a.tmps[e]?).getD undef:=by simp
   rw[hgd2]at hr;split at hw
   .rename_i t' ht';cases hw;rw[ht']at hr;unfold rel at hr;have:a.tmps[e]?=some (.bool t'):=by
     cases h:a.tmps[e]? with
     | none=>rw[h]at hr;simp[undef]at hr
     | some u=>rw[h]at hr;simpa using hr
    simp[Go.Region.wanted,hg,hy,this]
   .rename_i ht';cases hw;rw[ht']at hr;unfold rel at hr;obtain⟨us,hu,hl⟩:=hr;have:∀b',a.tmps[e]?≠some (.bool b'):=by
     intro b' h;rw[h]at hu;cases hu
    have hy2:Go.yielded ops a.tmps j=none:=by
     rw[hy];split
     .rename_i b' h;exact absurd h (this b')
     .rfl
    simp[Go.Region.wanted,hg,hy2]
   .cases hw
  .simp only[I.mk.injEq]at hi;exact⟨hi.1.symm,.inl ⟨hi.2.2.symm,hi.2.1.symm⟩⟩
theorem qyj{P:Program}{E:Env}{s:List V}{a:Act}(hs:qai E s a.tmps.toList){ops:Array Oper}{o:Oper}{t:Bool}{d:Option Nat}{g:Option (Nat×Bool)}{q:O}(hi:cI md P ops o=⟨d,g,q⟩)(hq:q ≠ .stuck)(hw:qcb s ⟨d,g,q⟩=some t) :
  d=o.dst/\cOp (zpb md ops o) P o=some q/\Go.Region.wanted o (Go.yielded ops a.tmps)=t:=by
 obtain⟨h1,h2 | ⟨h2,h3⟩⟩:=q0y hs hi hw
 .exact absurd h2.1 hq
 .refine⟨h1,?_,h3⟩;cases hc:cOp (zpb md ops o) P o with
  | none=>rw[hc]at h2;exact absurd h2 hq
  | some y=>rw[hc]at h2;simp at h2;rw[h2]
theorem zuc{P:Program}{E:Env}{s:List V}{a:Act}(hs:qai E s a.tmps.toList){ops:Array Oper}{o:Oper}{d:Option Nat}{g:Option (Nat×Bool)}{q:O}(hi:cI md P ops o=⟨d,g,q⟩)(hw:qcb s ⟨d,g,q⟩=some false) :
  d=o.dst/\Go.Region.wanted o (Go.yielded ops a.tmps)=false:=by
 obtain⟨h1,h2 | ⟨h2,h3⟩⟩:=q0y hs hi hw
 .rw[h2.2]at hw;simp[qcb]at hw
 .exact⟨h1,h3⟩
theorem qvm{P:Program}{o:Oper}{q:O}(h:cOp md P o=some q):∀c,o.op ≠ .defer c:=by intro c hc;have h:=qqn h;unfold zop at h;rw[hc]at h;cases h
theorem zkw(m:Nat){E:Env}{s:List V}{x:A}{u:Value}(h:rel E (x.ev s) u):rel E ((zzw m x).ev s) u:=by
 unfold zzw;split
 .rename_i f;split
  .rename_i hf;simp only[A.ev]at h ⊢;unfold rel at h ⊢;obtain⟨a,c,h1,h2,h3⟩:=h;refine⟨a,c,?_,h2,h3⟩;rcases h1 with⟨_,rfl⟩ | ⟨h1,_⟩
   .refine .inl ⟨by omega,?_⟩;rw[qri hf.2];unfold qlr;rw[if_neg (by omega),Nat.add_sub_cancel]
   .omega
  .exact h
 .exact h
theorem zlh{P:Program}{o:Oper}{f:A}{as:List A}(h0:cOp md P o=some (.call f as)):∃c,o.op=.call c/\c.args.toList.mapM cA=some as/\((∃f0 f',c.callee=.value f0/\cA f0=some f'/\f=zzw md f')\/∃n name,c.callee=.invoke (.tmp n) name/\f=.m (q2i P name) n):=by
 have h:=qqn h0;have hi:q2c o.op=true:=by unfold cOp at h0;rw[h]at h0;simpa[O.isCall,O.isAlloc,O.isMk]using h0
 unfold q2c at hi;split at hi
 .rename_i c hop;split at hi
  .rename_i f0 hc;unfold zop at h;rw[hop]at h;simp only[hc,Option.bind_eq_bind,Option.pure_def,jB,jC]at h;obtain⟨f',h1,as',h2,h3⟩:=h;cases h3;exact⟨c,hop,h2,.inl ⟨f0,f',hc,h1,rfl⟩⟩
  .rename_i r name hc;unfold zop at h;rw[hop]at h;simp only[hc]at h;cases r<;>simp only at h<;>try (cases h;done)
   split at h
   .simp only[Option.bind_eq_bind,Option.pure_def,jB,jC]at h;obtain⟨as',h2,h3⟩:=h;cases h3;exact⟨c,hop,h2,.inr ⟨_,_,hc,rfl⟩⟩
   .cases h
  .cases hi
 .cases hi
theorem zet{P:Program}{o:Oper}{zs:List V}(h0:cOp md P o=some (.alloc zs)):∃e,o.op=.alloc e/\zeroCells P e=some zs:=by
 have h:=qqn h0;have hi:qwo o.op=true:=by unfold cOp at h0;rw[h]at h0;simpa[O.isCall,O.isAlloc,O.isMk]using h0
 unfold qwo at hi;split at hi
 .rename_i e hop;unfold zop at h;rw[hop]at h;simp only[jB]at h;obtain⟨z,h1,h2⟩:=h;split at h2
  .cases h2;exact⟨e,hop,by unfold zeroCells;rw[h1];rfl⟩
  .cases h2
 .cases hi
theorem zyb{P:Program}{o:Oper}{n b:Nat}{z:List V}{x y:A}(h0:cOp md P o=some (.mkslice n b z x y)):∃t e l c zs,o.op=.makeSlice t l c/\P.underlying t=some (.slice e)/\zeroCells P e=some zs/\P.cellsOf e≠0/\zs.length=P.cellsOf e/\cA l=some x/\cA c=some y/\n=P.cellsOf e/\b=P.bytesOf e/\z=zs.map (qan []):=by
 have h:=qqn h0;have hi:zhq o.op=true:=by unfold cOp at h0;rw[h]at h0;simpa[O.isCall,O.isAlloc,O.isMk]using h0
 unfold zhq at hi;split at hi
 .rename_i t l c hop;unfold zop at h;rw[hop]at h;simp only[Option.bind_eq_bind,Option.pure_def,jB]at h;obtain⟨e,he,zs,hz,h⟩:=h;split at h
  .simp only[jB,jC]at h;obtain⟨l',h1,c',h2,h3⟩:=h;cases h3
  split at h
  .rename_i hh;simp only[jB,jC]at h;obtain⟨l',h1,c',h2,h3⟩:=h;cases h3;have ht:P.underlying t=some (.slice e):=by
    unfold qfk at he;split at he
    .cases he;assumption
    .cases he
   exact⟨t,e,l,c,zs,hop,ht,hz,hh.1,hh.2,h1,h2,rfl,rfl,rfl⟩
  .cases h
 .cases hi
theorem zou{P:Program}{pg:Prg}{self:Q->Option R}(hS:SelfOk P self){E:Env}(hE:Ok P E){s:List V}{a:Act}(hs:qai E s a.tmps.toList){ops:Array Oper}{o:Oper}{st':St}(h:exI pg self (cI md P ops o) ⟨s,E.h⟩=some st')(ro:Option Nat) :
  (Go.Region.wanted o (Go.yielded ops a.tmps)=true/\∀(next:Act->World->Prop) (Qp:Exit->Act->World->Prop),(∀E' a',Ok P E'->Ext E E'->E'.h=st'.h->qai E' st'.s a'.tmps.toList->a'.defers=a.defers->next a' E'.w)->o.wpIn (F0 ro) 0 P a E.w next Qp) \/
  (Go.Region.wanted o (Go.yielded ops a.tmps)=false/\qai E st'.s (a.put o.dst undef).tmps.toList/\st'.h=E.h):=by
 cases hi:cI md P ops o with
 | mk d g q =>
  rw[hi]at h;unfold exI at h;cases hw:qcb s ⟨d,g,q⟩with
  | none=>simp only[hw]at h;cases h
  | some t =>
   simp only[hw]at h;have hq:t=true->q ≠ .stuck:=by rintro rfl hq;subst hq;simp only[exO]at h;cases h
   cases t with
   | false =>right;simp only[jC]at h;subst h;obtain⟨h1,h2⟩:=zuc hs hi hw;exact⟨h2,by rw[h1];exact qoq hs o.dst (by unfold rel;exact⟨#[],rfl,by simp[qai]⟩),rfl⟩
   | true =>
    left;obtain⟨rfl,hc,hwd⟩:=qyj hs hi (hq rfl) hw;refine⟨hwd,fun next Qp K=>⟨fun _ _=>trivial,?_⟩⟩;rw[Go.Oper.semAt_eq _ _ _ (qvm hc)];by_cases hcall:q.isCall=true
    .cases q<;>try (simp[O.isCall]at hcall;done)
     rename_i f as;simp only at h;obtain⟨c,hop,h2,hsrc⟩:=zlh hc;cases hco:qmf pg self (f.ev s) (as.map (A.ev s)) E.h with
     | none=>rw[hco]at h;cases h
     | some p =>
      obtain⟨v,h'⟩:=p;rw[hco]at h;cases h;have hargs:qai E (as.map (A.ev s)) (c.args.map a.eval).toList:=by simpa using qlm hs h2
      have g2:(∃fid as',(execOp a.eval o).run P E.w=.ok (.enter fid as') E.w/\CallsIn Fence.wide 0 P fid as' E.w (Ret P E v h')) \/
        ∃l fn tmps assign body,(execOp a.eval o).run P E.w=.ok (.round l fn tmps assign body) E.w/\RoundIn Fence.wide 0 P l fn tmps assign body E.w (Ret P E v h'):=by
       rcases hsrc with⟨f0,f',hcal,h1,rfl⟩ | ⟨n,name,hcal,rfl⟩
       .obtain⟨dd,g1,g2⟩:=q9d hS.fn hS.yld hS.kind hE (zkw _ (qax hs h1)) hargs hco;have hex:∀nx,(Go.invoke dd.target dd.args).run P E.w=.ok nx E.w->(execOp a.eval o).run P E.w=.ok nx E.w:=by
         intro nx hnx;simp only[execOp,hop,Go.resolve,hcal,Sem.run_bind,g1,Go.Result.andThen_ok,hnx]
        rcases g2 with⟨fid,as',g3,g4⟩ | ⟨l,fn,tmps,asg,bd,g3,g4⟩
        .exact .inl ⟨fid,as',hex _ g3,g4⟩
        .exact .inr ⟨l,fn,tmps,asg,bd,hex _ g3,g4⟩
       .have hx:rel E (qaj s n) (a.eval (.tmp n)):=qax (o:=.tmp n) (x:=.t n) hs rfl;have g2:=zxc hS.fn hS.yld hS.kind hE (name:=name) hx hargs hco;have hex:∀nx,(Go.invoke (.fn (.method name) #[]) (#[a.eval (.tmp n)]++c.args.map a.eval)).run P E.w=.ok nx E.w->(execOp a.eval o).run P E.w=.ok nx E.w:=by
         intro nx hnx;simp only[execOp,hop,Go.resolve,hcal,Sem.run_bind,Sem.run_pure,Go.Result.andThen_ok,hnx]
        rcases g2 with⟨fid,as',g3,g4⟩ | ⟨l,fn,tmps,asg,bd,g3,g4⟩
        .exact .inl ⟨fid,as',hex _ g3,g4⟩
        .exact .inr ⟨l,fn,tmps,asg,bd,hex _ g3,g4⟩
      have fin:∀e w',Ret P E v h' e w'->(match e with
        | .returned v=>next (a.put o.dst v) w'
        | .panicked chain=>Qp (.panic chain) a w'
        | .outgrown=>Go.LetsOut Qp):=by
       rintro e w' ⟨E',u,rfl,k1,k2,rfl,k3,k4⟩;exact K E' _ k1 k2 k3 (qoq (qbb hE k2.toExt0 _ _ hs) o.dst k4) (qhe _ _ _)
      rcases g2 with⟨fid,as',g3,g4⟩ | ⟨l,fn,tmps,asg,bd,g3,g4⟩
      .rw[g3,Go.Oper.uponIn_enter];refine⟨fun h=>by simp[F0,Fence.wide]at h,?_⟩;have g5:CallsIn (F0 ro) 0 P fid as' E.w (Ret P E v h'):=g4;exact g5.mono fun e w' he=>by have:=fin e w' he;cases e<;>exact this
      .rw[g3,Go.Oper.uponIn_round];refine⟨fun h=>by simp[F0,Fence.wide]at h,?_⟩;have g5:RoundIn (F0 ro) 0 P l fn tmps asg bd E.w (Ret P E v h'):=g4;exact g5.mono fun e w' he=>by have:=fin e w' he;cases e<;>exact this
    .have hx:∃v h',exO q s E.h=some (v,h')/\st'=⟨q3n s o.dst v,h'⟩:=by
      cases q<;>first
       | exact absurd rfl hcall
       | (simp only at h
          split at h
          .rename_i v h' e;cases h;exact⟨v,h',e,rfl⟩
          .cases h)
     obtain⟨v,h',hx,rfl⟩:=hx;obtain⟨E',k1,k2,k3,res,k4,k5⟩:=zgp hE hs hc hx;rw[k4];have hs':=qbb hE k2.toExt0 _ _ hs;rcases k5 with⟨u,rfl,k6⟩ | ⟨rfl,rfl⟩
     .rw[Go.Oper.uponIn_value];exact K E' _ k1 k2 k3 (qoq hs' o.dst k6) (qhe _ _ _)
     .rw[Go.Oper.uponIn_skip];exact K E' _ k1 k2 k3 (qoq hs' o.dst (by unfold rel;trivial)) (qhe _ _ _)
theorem zgn{P:Program}{pg:Prg}{self:Q->Option R}(hS:SelfOk P self){ops:Array Oper}(ro:Option Nat){Qp:Exit->Act->World->Prop}:∀(l:List Nat) {E:Env} {s:List V} {a:Act} {st':St},(∀i∈l,i<ops.size)->Ok P E->qai E s a.tmps.toList ->
  exL pg self (l.map fun i=>cI md P ops (ops.getD i default)) ⟨s,E.h⟩=some st'->(∀E' a',Ok P E'->Ext E E'->E'.h=st'.h->qai E' st'.s a'.tmps.toList->a'.defers=a.defers->Qp .normal a' E'.w)->Go.wpOpsIn (F0 ro) 0 P ops Qp l a E.w
 | [],E,s,a,st',_,hE,hs,h,K=>by simp only[List.map_nil,exL,jC]at h;subst h;exact K E a hE (Ext.refl E) rfl hs rfl
 | i :: l,E,s,a,st',hl,hE,hs,h,K=>by
  simp only[List.map_cons,exL]at h;have hi:=hl i (by simp);have hget:ops[i]?=some (ops.getD i default):=by simp[Array.getD,hi]
  cases h1:exI pg self (cI md P ops (ops.getD i default)) ⟨s,E.h⟩with
  | none=>rw[h1]at h;cases h
  | some st1 =>
   rw[h1]at h;simp only at h;unfold Go.wpOpsIn;simp only[hget];rcases zou hS hE hs h1 ro with⟨hw,k⟩ | ⟨hw,k1,k2⟩
   .rw[if_pos hw];refine k _ _ fun E' a' c1 c2 c3 c4 c5=>?_;refine zgn hS ro l (fun j hj=>hl j (by simp[hj])) c1 c4 (by rw[c3];exact h) fun E'' a'' d1 d2 d3 d4 d5=>?_;exact K E'' a'' d1 (c2.trans d2) d3 d4 (d5.trans c5)
   .rw[hw,if_neg (by simp)];refine⟨fun _ _=>trivial,?_⟩;refine zgn hS ro l (fun j hj=>hl j (by simp[hj])) hE k1 (by rw[<-k2];exact h) fun E'' a'' d1 d2 d3 d4 d5=>?_;exact K E'' a'' d1 d2 d3 d4 (d5.trans (qhe _ _ _))
theorem zdr{P:Program}{ops:Array Oper}:ops.toList.map (cI md P ops)=(List.range ops.size).map fun i=>cI md P ops (ops.getD i default):=by
 apply List.ext_getElem
 .simp
 .intro i h1 h2;simp at h1;simp[Array.getD,h1]
open Go (World Value Addr Obj Program Act Operand Oper Op Sem Result Next undef execOp TypeId TypeDesc Ending CallsIn RoundIn Fence Exit Deferred)
def qzq(r:Nat):Deferred:={ target:=.collected r,args:=#[] }
def qld(E E':Env)(M:List Nat):Prop:=M.Nodup/\∀r∈M,E.w.heap.size<=r/\E'.w.heap[r]?=some (.deferred (some []))
def zwr:X->Exit
 | .normal=>.normal
 | .exit id=>.exit id
 | .ret=>.ret
def q6s(P:Program)(E:Env)(a:Act)(res:R):Exit->Act->World->Prop:=fun e a' w'=>∃E' M,Ok P E'/\Ext E E'/\E'.w=w'/\E'.h=res.st.h/\qai E' res.st.s a'.tmps.toList/\e=zwr res.x/\a'.defers=M.map qzq++a.defers/\qld E E' M
theorem q2h{P:Program}{E:Env}(hE:Ok P E){r:Nat}{x:Option (List Deferred)}(h:E.w.heap[r]?=some (.deferred x)):¬Mut E r:=by
 rintro⟨id,o,C,ho,hb,hf⟩;have hr:=hE.obj id o ho;unfold qej at hr;cases hk:o.k<;>rw[hk]at hr hf<;>try (simp[K.isFrz]at hf;done)
 case box cells =>
  rcases hr with h1 | ⟨b,C',cs,ty,q1,_,q3,_⟩
  .rw[hb]at h1;cases h1
  .rw[hb]at q1;cases q1;rw[h]at q3;cases q3
 case arr n els =>
  rcases hr.2 with h1 | ⟨b,C',cs,ty,q1,_,q3,_⟩
  .rw[hb]at h1;cases h1.1
  .rw[hb]at q1;cases q1;rw[h]at q3;cases q3
 case nst n els =>
  rcases hr with h1 | ⟨b,C',cs,ty,q1,_,q3,_⟩
  .rw[hb]at h1;cases h1.1
  .rw[hb]at q1;cases q1;rw[h]at q3;cases q3
 case map es=>obtain⟨b,C',ms,cl,q1,_,q3,_⟩:=hr;rw[hb]at q1;cases q1;rw[h]at q3;cases q3
 case sit s p=>obtain⟨b,C',q1,_,q3⟩:=hr;rw[hb]at q1;cases q1;rw[h]at q3;cases q3
 case loop sl ps a c p=>obtain⟨b,C',L,q1,_,q3,_⟩:=hr;rw[hb]at q1;cases q1;rw[h]at q3;cases q3
theorem q5e{P:Program}{E E1 E2:Env}(h1:Ok P E1)(x:Ext E1 E2){M:List Nat}(h:qld E E1 M):qld E E2 M :=
 ⟨h.1,fun r hr=>⟨(h.2 r hr).1,by
  have h3:=(h.2 r hr).2;rw[x.keep r (qea h3) (q2h h1 h3)];exact h3⟩⟩
theorem qoo{P:Program}{E E1:Env}{a a1:Act}{res:R}(h1:Ok P E1)(x:Ext E E1){M1:List Nat}(hd:a1.defers=M1.map qzq++a.defers)(hm:qld E E1 M1){e:Exit}{a2:Act}{w2:World}(h:q6s P E1 a1 res e a2 w2):q6s P E a res e a2 w2:=by
 obtain⟨E2,M2,k1,k2,k3,k4,k5,k6,k7,k8⟩:=h;refine⟨E2,M2++M1,k1,x.trans k2,k3,k4,k5,k6,by rw[k7,hd,List.map_append,List.append_assoc],?_,?_⟩
 .rw[List.nodup_append];refine⟨k8.1,hm.1,fun p hp q hq=>?_⟩;have:=(k8.2 p hp).1;have:=qea (hm.2 q hq).2;omega
 .intro r hr;rcases jQ.1 hr with hr | hr
  .exact⟨Nat.le_trans x.size (k8.2 r hr).1,(k8.2 r hr).2⟩
  .exact(q5e h1 k2 hm).2 r hr
structure Sw(w w':World):Prop where
 size:w'.heap.size=w.heap.size
 keep:∀(b:Nat) (o:Obj),w.heap[b]?=some o->(∀x,o≠Obj.deferred x)->w'.heap[b]?=some o
 os:w'.os=w.os
 output:w'.output=w.output
theorem Sw.refl(w:World):Sw w w:=⟨rfl,fun _ _ h _=>h,rfl,rfl⟩
theorem Sw.trans{a b c:World}(h:Sw a b)(k:Sw b c):Sw a c :=
 ⟨k.size.trans h.size,fun i o hi hn=>k.keep i o (h.keep i o hi hn) hn,k.os.trans h.os,k.output.trans h.output⟩
theorem Sw.cell{w w':World}(h:Sw w w'){b o:Nat}{u:Value}(hc:w.cell? ⟨b,o,none⟩=some u):w'.cell? ⟨b,o,none⟩=some u:=by
 unfold World.cell? at hc ⊢;cases hb:w.heap[b]? with
 | none=>simp[hb]at hc
 | some ob =>
  by_cases hd:∃x,ob=.deferred x
  .obtain⟨x,rfl⟩:=hd;simp[hb]at hc
  .rw[h.keep b ob hb (fun x hx=>hd ⟨x,hx⟩)];rw[hb]at hc;exact hc
def swE(E:Env)(w':World):Env:=⟨E.b,E.S,E.h,w'⟩
mutual
theorem zbl{E:Env}{w':World}(x:Sw E.w w'):∀(v:V) (u:Value),rel E v u->rel (swE E w') v u
 | .undef,_,h=>by unfold rel at *;trivial
 | .bool b,u,h=>by unfold rel at *;exact h
 | .int k n,u,h=>by unfold rel at *;exact h
 | .str s,u,h=>by unfold rel at *;exact h
 | .nils,u,h=>by unfold rel at *;exact h
 | .nilx,u,h=>by unfold rel at *;exact h
 | .imm els,u,h=>by unfold rel at *;obtain⟨a,cap,h1,h2,h3,h4⟩:=h;refine⟨a,cap,h1,h2,h3,h4.imp (fun h=>h) ?_⟩;rintro⟨b,o,n,h5,h6,h7,h8⟩;exact⟨b,o,n,h5,h6,h7,qtl x _ _ _ _ h8⟩
 | .immc els,u,h=>by unfold rel at *;obtain⟨a,h1,h3,h4⟩:=h;refine⟨a,h1,h3,h4.imp (fun h=>h) ?_⟩;rintro⟨b,o,n,h5,h6,h7,h8⟩;exact⟨b,o,n,h5,h6,h7,qtl x _ _ _ _ h8⟩
 | .iptr cells,u,h=>by unfold rel at *;obtain⟨b,o,h1,h2,h3,h4⟩:=h;exact⟨b,o,h1,h2,h3,zjs x _ _ _ h4⟩
 | .bptr _ _,u,h=>by unfold rel at *;exact h
 | .ptr _ _ _ _,u,h=>by unfold rel at *;exact h
 | .sl _ _ _ _ _,u,h=>by unfold rel at *;exact h
 | .bsl _ _ _ _,u,h=>by unfold rel at *;exact h
 | .agg cs,u,h=>by unfold rel at *;obtain⟨us,h1,h2⟩:=h;exact⟨us,h1,qqh x _ _ h2⟩
 | .tup cs,u,h=>by unfold rel at *;obtain⟨us,h1,h2⟩:=h;exact⟨us,h1,qqh x _ _ h2⟩
 | .fn f a c,u,h=>by unfold rel at *;obtain⟨a',c',h1,h2,h3⟩:=h;exact⟨a',c',h1,qqh x _ _ h2,qqh x _ _ h3⟩
 | .ub,u,h=>by unfold rel at *;exact h
 | .nilfn,u,h=>by unfold rel at *;exact h
 | .nilp,u,h=>by unfold rel at *;exact h
 | .map _,u,h=>by unfold rel at *;exact h
 | .sit _,u,h=>by unfold rel at *;exact h
 | .yld _,u,h=>by unfold rel at *;exact h
 | .view _ _,u,h=>by unfold rel at *;obtain⟨b,o,h1,h2,h3⟩:=h;exact⟨b,o,h1,zjs x _ _ _ h2,h3⟩
theorem qqh{E:Env}{w':World}(x:Sw E.w w'):∀(vs:List V) (us:List Value),qai E vs us->qai (swE E w') vs us
 | [],_,h=>by unfold qai at *;exact h
 | v :: vs,us,h=>by unfold qai at *;obtain⟨u,us',h1,h2,h3⟩:=h;exact⟨u,us',h1,zbl x v u h2,qqh x vs us' h3⟩
theorem zjs{E:Env}{w':World}(x:Sw E.w w'):∀(vs:List V) (b o:Nat),qbc E vs b o->qbc (swE E w') vs b o
 | [],_,_,_=>by unfold qbc;trivial
 | v :: vs,b,o,h=>by unfold qbc at *;obtain⟨⟨u,h1,h2⟩,h3⟩:=h;exact⟨⟨u,x.cell h1,zbl x v u h2⟩,zjs x vs b (o+1) h3⟩
theorem qtl{E:Env}{w':World}(x:Sw E.w w'):∀(rs:List (List V)) (n b o:Nat),qak E n rs b o->qak (swE E w') n rs b o
 | [],_,_,_,_=>by unfold qak;trivial
 | r :: rs,n,b,o,h=>by unfold qak at *;exact⟨h.1,zjs x r b o h.2.1,qtl x rs n b (o+n) h.2.2⟩
end
theorem zyp{E:Env}{w':World}(x:Sw E.w w'):∀(es:List (V×V)) (ms:List Go.MapEntry),qjk E es ms->qjk (swE E w') es ms
 | [],_,h=>h
 | (k,v) :: r,ms,h=>by obtain⟨e,es',h1,h2,h3,h4,h5,h6⟩:=h;exact⟨e,es',h1,zbl x _ _ h2,zbl x _ _ h3,h4,h5,zyp x r es' h6⟩
theorem z3h{P:Program}{E:Env}(hE:Ok P E){w':World}(x:Sw E.w w'):Ok P (swE E w'):=by
 refine⟨fun id o ho=>?_,hE.inj,fun b hb=>by show b<w'.heap.size;rw[x.size];exact hE.S b hb⟩;have hr:=hE.obj id o ho;unfold qej at hr ⊢;cases hk:o.k<;>rw[hk]at hr<;>simp only
 case box cells =>refine hr.imp (fun h=>h) ?_;rintro⟨b,C,cs,ty,q1,q2,q3,q4,q5⟩;exact⟨b,C,cs,ty,q1,q2,x.keep _ _ q3 (fun _ h=>by cases h),q4,zjs x _ _ _ q5⟩
 case arr m els =>refine⟨hr.1,hr.2.imp (fun h=>h) ?_⟩;rintro⟨b,C,cs,ty,q1,q2,q3,q4,q5,q6,q7⟩;exact⟨b,C,cs,ty,q1,q2,x.keep _ _ q3 (fun _ h=>by cases h),q4,q5,q6,qtl x _ _ _ _ q7⟩
 case frz m els =>refine⟨hr.1,hr.2.imp (fun h=>h) ?_⟩;rintro⟨b,C,cs,ty,q1,q2,q3,q4,q5,q6,q7⟩;exact⟨b,C,cs,ty,q1,q2,x.keep _ _ q3 (fun _ h=>by cases h),q4,q5,q6,qtl x _ _ _ _ q7⟩
 case nst m els =>refine hr.imp (fun h=>h) ?_;rintro⟨b,C,cs,ty,q1,q2,q3,q4,q5,q6,q7⟩;exact⟨b,C,cs,ty,q1,q2,x.keep _ _ q3 (fun _ h=>by cases h),q4,q5,q6,qtl x _ _ _ _ q7⟩
 case map es =>obtain⟨b,C,ms,cl,h1,h2,h3,h4⟩:=hr;exact⟨b,C,ms,cl,h1,h2,x.keep _ _ h3 (fun _ h=>by cases h),zyp x _ _ h4⟩
 case sit s p =>obtain⟨b,C,h1,h2,h3⟩:=hr;exact⟨b,C,h1,h2,x.keep _ _ h3 (fun _ h=>by cases h)⟩
 case loop sl ps a c p =>obtain⟨b,C,L,h1,h2,h3,h4,h5,h6,h7⟩:=hr;exact⟨b,C,L,h1,h2,x.keep _ _ h3 (fun _ h=>by cases h),qqh x _ _ h4,h5,h6,h7⟩
theorem zyq{P:Program}{E0 E:Env}(_hE:Ok P E)(y:Ext E0 E){w':World}(x:Sw E.w w')(hk:∀b,b<E0.w.heap.size->w'.heap[b]?=E.w.heap[b]?):Ext E0 (swE E w') :=
 ⟨⟨y.S,by show _<=w'.heap.size;rw[x.size];exact y.size,fun b hb hm=>(hk b hb).trans (y.keep b hb hm),fun b hb hm=>y.muts b hb hm,y.len,y.gen,y.obj,x.os.trans y.os,x.output.trans y.output,y.tags⟩,y.back,y.free⟩
theorem qtx{P:Program}{fn:Go.Func}{tmps:Array Value}{R:Ending->World->Prop}{n0:Nat}:∀(M:List Nat) (w:World),M.Nodup->(∀r∈M,n0<=r/\w.heap[r]?=some (.deferred (some []))) ->
  (∀w',Sw w w'->(∀b,b<n0->w'.heap[b]?=w.heap[b]?)->∃v,(Go.results fn tmps).run P w'=.ok v w'/\R (.returned v) w')->Go.LeavesInM Fence.wide 0 P fn tmps R (M.map qzq) .returning w
 | [],w,_,_,h=>by simp only[List.map_nil,Go.LeavesInM,Go.LeavesIn];exact h w (Sw.refl w) fun _ _=>rfl
 | r :: M,w,hn,hr,h=>by
  obtain⟨h1,h2⟩:=hr r (by simp);have hlt:=qea h2;have hnd:=List.nodup_cons.1 hn;simp only[List.map_cons];unfold Go.LeavesInM;refine⟨by simp,.inl ⟨r,{ w with heap:=w.heap.setIfInBounds r (.deferred none) },rfl,?_,?_⟩⟩
  .simp[Go.Instr.takeDeferred,Go.getObj,Go.setObj,Sem.run,Go.Result.andThen,h2]
  .have hsw:Sw w { w with heap:=w.heap.setIfInBounds r (.deferred none) }:=by
    refine⟨by simp,fun b o hb hd=>?_,rfl,rfl⟩;have:b≠r:=fun e=>by subst e;rw[h2]at hb;cases hb;exact hd _ rfl
    simp only;rw[Array.getElem?_setIfInBounds_ne (Ne.symm this)];exact hb
   refine qtx M _ hnd.2 (fun q hq=>?_) fun w' k1 k2=>h w' (hsw.trans k1) fun b hb=>(k2 b hb).trans ?_
   .obtain⟨g1,g2⟩:=hr q (by simp[hq]);refine⟨g1,?_⟩;have:q≠r:=fun e=>hnd.1 (e ▸ hq);simp only;rw[Array.getElem?_setIfInBounds_ne (Ne.symm this)];exact g2
   .simp only;rw[Array.getElem?_setIfInBounds_ne (by omega)]
theorem zyt:∀{a b:List Int},a.Pairwise (·<=·)->b.Pairwise (·<=·)->a.Perm b->a=b
 | [],b,_,_,h=>by simpa using h.symm.eq_nil
 | x :: a,[],_,_,h=>by simpa using h.eq_nil
 | x :: a,y :: b,ha,hb,h=>by
  obtain⟨a1,a2⟩:=List.pairwise_cons.1 ha;obtain⟨b1,b2⟩:=List.pairwise_cons.1 hb;have e:x=y:=by
   have hx:y∈x :: a:=h.mem_iff.2 List.mem_cons_self;have hy:x∈y :: b:=h.mem_iff.1 List.mem_cons_self;rcases List.mem_cons.1 hx with hx | hx
   .exact hx.symm
   .rcases List.mem_cons.1 hy with hy | hy
    .exact hy
    .exact Int.le_antisymm (a1 y hx) (b1 x hy)
  subst e;rw[zyt a2 b2 (h.cons_inv)]
theorem zoc(l:List Int):l.mergeSort (fun x y=>decide (x<=y))=qla l:=by refine zyt ?_ (q2x l) ((List.mergeSort_perm l _).trans (qox l).symm);have:=List.pairwise_mergeSort (le:=fun x y:Int=>decide (x<=y)) (fun a b c h1 h2=>by simp at h1 h2 ⊢;omega) (fun a b=>by simp;omega) l;exact this.imp fun h=>by simpa using h
theorem q4u:∀{els:List (List V)} {l:List Int},qtw els=some l->els=qtd l
 | [],l,h=>by simp[qtw]at h;subst h;rfl
 | r :: els,l,h=>by
  unfold qtw at h;split at h
  .rename_i e;cases e
  .rename_i n r' e;cases e;split at h
   .rename_i l' e';cases h;simp[qtd,q4u e']
   .cases h
  .cases h
theorem zdu(l:List Int):qcc (qtd l)=true:=by simp[qcc,qtd,V.pcell]
def qun(P:Program)(f:Nat):Prop :=
 (∃ fn, P.funcs[f]? = some fn ∧ fn.name ≠ "runtime.NumGoroutine" ∧ fn.body.isSome = true) ∧
 (∀(blk off cap:Nat) (zs:List Int) (w:World),Go.Sort.Holds (Value.int .i64) w blk off zs.toArray->blk<w.heap.size->zs.length<4611686018427387904 ->
  Go.Calls P f #[.slice (some ⟨blk,off,none⟩) zs.length cap] w fun e w'=>e=.returned (.tuple #[])/\∃n os,w'=Go.Sort.grow (Go.Sort.putRow (Value.int .i64) (Go.Sort.ahead w n) blk off (zs.mergeSort fun x y=>decide (x<=y)).toArray) os) /\
 ∀(p:Option Addr) (cap:Nat) (w:World),Go.Calls P f #[.slice p 0 cap] w fun e w'=>e=.returned (.tuple #[])/\w'=w
def AtS(w:World)(l:List (Nat×Bool))(u:Value):Prop:=∃a cap,u=.slice a l.length cap/\(l≠[]->∃blk off,a=some ⟨blk,off,none⟩/\∀(j:Nat) (x:Nat×Bool),l[j]?=some x->w.cell? ⟨blk,off+2*j,none⟩=some (.int .i64 x.1)/\w.cell? ⟨blk,off+2*j+1,none⟩=some (.bool x.2))
def AtW(w:World)(l:List (List (Nat×Bool)))(u:Value):Prop:=∃a cap,u=.slice a l.length cap/\(l≠[]->∃blk off,a=some ⟨blk,off,none⟩/\∀(j:Nat) (x:List (Nat×Bool)),l[j]?=some x->∃v,w.cell? ⟨blk,off+j,none⟩=some v/\AtS w x v)
def zpu(P:Program)(f:Nat):Prop :=
 (∃ fn, P.funcs[f]? = some fn ∧ fn.name ≠ "runtime.NumGoroutine" ∧ fn.body.isSome = true) ∧
 ∀(l:List (List (Nat×Bool))) (b:Bool) (u:Value) (w:World),AtW w l u->l.length<100->(∀x∈l,x.length<1000/\∀y∈x,y.1<100) ->
  Go.Calls P f #[.agg #[u,.bool b]] w fun e w'=>e=.returned (.string ⟨(q7v l b).toArray⟩)/\Go.RowKit.Below w.heap.size w w'
theorem q3a:∀{els:List (List V)} {l:List (Nat×Bool)},qyv els=some l->els=l.map (fun x=>[V.int .i64 x.1,V.bool x.2])/\∀y∈l,y.1<100
 | [],l,h=>by simp[qyv]at h;subst h;exact⟨rfl,by simp⟩
 | r :: els,l,h=>by
  unfold qyv at h;split at h
  .rename_i e;cases e
  .rename_i a b r' e;cases e;split at h
   .rename_i hc;split at h
    .rename_i l' e';cases h;obtain⟨h1,h2⟩:=q3a e';refine⟨?_,?_⟩
     .simp only[List.map_cons,<-h1];rw[show((a.toNat:Nat):Int)=a by omega]
     .intro y hy;rcases List.mem_cons.1 hy with rfl | hy
      .show a.toNat<100;omega
      .exact h2 y hy
    .cases h
   .cases h
  .cases h
theorem q3i:∀{els:List (List V)} {l:List (List (Nat×Bool))},q3h els=some l->els.length=l.length/\∀(j:Nat) x,l[j]?=some x->∃v e,els[j]?=some [v]/\zob v=some e/\qyv e=some x
 | [],l,h=>by simp[q3h]at h;subst h;exact⟨rfl,by simp⟩
 | r :: els,l,h=>by
  unfold q3h at h;split at h
  .rename_i e;cases e
  .rename_i v r' e;cases e;split at h
   .rename_i e' he;split at h
    .rename_i x l' hx hl;cases h;obtain⟨h1,h2⟩:=q3i hl;refine⟨by simp[h1],?_⟩;intro j y hj;cases j with
     | zero=>simp at hj;subst hj;exact⟨v,e',rfl,he,hx⟩
     | succ j=>simpa using h2 j y (by simpa using hj)
    .cases h
   .cases h
  .cases h
theorem zpl{E:Env}{x:V}{els:List (List V)}{u:Value}(h:zob x=some els)(hr:rel E x u):∃a cap,u=.slice a els.length cap/\(els≠[]->∃blk off n,a=some ⟨blk,off,none⟩/\qak E n els blk off):=by
 cases x<;>simp only[zob]at h<;>try (cases h;done)
 case imm l =>
  cases h;unfold rel at hr;obtain⟨a,cap,rfl,_,_,h3⟩:=hr;refine⟨a,cap,rfl,fun hne=>?_⟩;rcases h3 with h3 | ⟨b,o,n,h4,_,_,h5⟩
  .exact absurd h3 hne
  .exact⟨b,o,n,h4,h5⟩
 case immc l =>
  cases h;unfold rel at hr;obtain⟨a,rfl,_,h3⟩:=hr;refine⟨a,_,rfl,fun hne=>?_⟩;rcases h3 with h3 | ⟨b,o,n,h4,_,_,h5⟩
  .exact absurd h3 hne
  .exact⟨b,o,n,h4,h5⟩
 case nils =>cases h;unfold rel at hr;obtain⟨a,rfl⟩:=hr;exact⟨a,0,rfl,fun h=>absurd rfl h⟩
 case nilx =>cases h;unfold rel at hr;exact⟨none,0,hr,fun h=>absurd rfl h⟩
theorem zyo{E:Env}{x:V}{els:List (List V)}{l:List (Nat×Bool)}{u:Value}(h:zob x=some els)(hs:qyv els=some l)(hr:rel E x u):AtS E.w l u:=by obtain⟨a,cap,rfl,h1⟩:=zpl h hr;obtain⟨rfl,_⟩:=q3a hs;refine⟨a,cap,by simp,fun hne=>?_⟩;obtain⟨blk,off,n,rfl,h2⟩:=h1 (by simpa using hne);refine⟨blk,off,rfl,fun j y hj=>?_⟩;obtain⟨h3,h4⟩:=qci h2 (i:=j) (r:=[V.int .i64 y.1,V.bool y.2]) (by rw[List.getElem?_map,hj];rfl);simp only[List.length_cons,List.length_nil]at h3;subst h3;unfold qbc at h4;obtain⟨⟨u1,h5,h6⟩,h4⟩:=h4;unfold qbc at h4;obtain⟨⟨u2,h7,h8⟩,_⟩:=h4;unfold rel at h6 h8;subst h6 h8;rw[show off+2*j=off+j*(0+1+1)by omega];exact⟨h5,h7⟩
theorem zyu{E:Env}{x:V}{els:List (List V)}{l:List (List (Nat×Bool))}{u:Value}(h:zob x=some els)(hs:q3h els=some l)(hr:rel E x u):AtW E.w l u:=by obtain⟨a,cap,rfl,h1⟩:=zpl h hr;obtain⟨hl,hg⟩:=q3i hs;refine⟨a,cap,by rw[hl],fun hne=>?_⟩;obtain⟨blk,off,n,rfl,h2⟩:=h1 (by rintro rfl;exact hne (by simpa using hl.symm));refine⟨blk,off,rfl,fun j y hj=>?_⟩;obtain⟨v,e,g1,g2,g3⟩:=hg j y hj;obtain⟨h3,h4⟩:=qci h2 g1;simp only[List.length_cons,List.length_nil]at h3;subst h3;unfold qbc at h4;obtain⟨⟨u1,h5,h6⟩,_⟩:=h4;exact⟨u1,by rw[show off+j=off+j*(0+1)by omega];exact h5,zyo g2 g3 h6⟩
def Made(P:Program)(pg:Prg):Prop:=∀f g,pg f=some g->(∃fn fresh raw md,P.funcs[qlr f]?=some fn/\zuz P fresh raw fn md=some g)\/(g=qyu/\f<500000/\qun P (qlr f))\/(g=zkk/\f<500000/\zpu P (qlr f))
theorem zue{P:Program}{f:Nat}(hs:qun P f){E:Env}(hE:Ok P E){i g:Nat}{els:List (List V)}{l:List Int}{u:Value}(hr:rel E (.sl i g 1 0 els.length) u)(ho:E.h[i]?=some ⟨g,.arr 1 els⟩)(hlt:els.length<4611686018427387904)(hl:qtw els=some l) :
  Go.Calls P f #[u] E.w fun e w'=>e=.returned (.tuple #[])/\∃E',Ok P E'/\Ext E E'/\E'.w=w'/\E'.h=E.h.set i ⟨g,.arr 1 (qtd (qla l))⟩:=by
 have he:=q4u hl;have hle:els.length=l.length:=by rw[he];simp[qtd]
 by_cases h0:els.length=0
 .have hr':=hr;unfold rel at hr';obtain⟨_,_,a,cap,rfl,_⟩:=hr';rw[h0];refine(hs.2.2 a cap E.w).mono ?_;rintro e w' ⟨rfl,rfl⟩;refine⟨rfl,E,hE,Ext.refl E,rfl,?_⟩;have:l=[]:=by simpa using hle.symm.trans h0
  subst this;have:els=[]:=by simpa using h0
  subst this;obtain⟨hi,hg⟩:=jG.1 ho;show E.h=E.h.set i ⟨g,.arr 1 []⟩;rw[<-hg,List.set_getElem_self]
 .obtain⟨b,C,cap,rfl,hb⟩:=zud hE hr ho h0 (by omega);rw[show(C.2+0)*1=C.2 by omega];have hro:=hE.obj i _ ho;unfold qej at hro;obtain⟨hpe,hor⟩:=hro;rcases hor with⟨h,_⟩ | ⟨b',C',cs,ty,q1,q2,q3,q4,q5,q6,q7⟩
  .rw[hb]at h;cases h
  .rw[hb]at q1;cases q1;have hbs:=qea q3;have hcell:∀j (hj:j<l.length),E.w.cell? ⟨b,C.2+j,none⟩=some (Value.int .i64 l[j]):=by
    intro j hj;have hje:els[j]?=some [.int .i64 l[j]]:=by rw[he];simp[qtd,hj]
    have h1:=(qci q7 hje).2;unfold qbc at h1;obtain⟨⟨u,h2,h3⟩,_⟩:=h1;unfold rel at h3;rw[show C.2*1+j*1=C.2+j by omega]at h2;rw[h2,h3]
   have hH:Go.Sort.Holds (Value.int .i64) E.w b C.2 l.toArray:=by
    intro j hj;have hj':j<l.length:=by simpa using hj
    refine⟨?_,?_⟩
    .rw[hcell j hj'];simp[hj']
    .unfold World.frozen?;rw[q3];simp
   rw[hle];refine(hs.2.1 b C.2 cap l E.w hH hbs (by omega)).mono ?_;rintro e w' ⟨rfl,n,os,rfl⟩;refine⟨rfl,?_⟩;rw[zoc];have hsz:(qla l).length=l.length:=(qox l).length_eq;generalize hw':Go.Sort.grow (Go.Sort.putRow (Value.int .i64) (Go.Sort.ahead E.w n) b C.2 (qla l).toArray) os=w';have hold:∀k,k<E.w.heap.size->k≠b->w'.heap[k]?=E.w.heap[k]?:=by intro k hk hne;rw[<-hw',Go.Sort.heap_grow_old _ _ (by simpa using hk)];simp[Go.Sort.putRow,Go.Sort.mapBlock,Array.getElem?_modify,Ne.symm hne]
   have hnew:w'.heap[b]?=some (.cells (Go.Sort.putCells (Value.int .i64) C.2 (qla l).toArray cs) ty (0,0)):=by rw[<-hw',Go.Sort.heap_grow_old _ _ (by simpa using hbs)];simp[Go.Sort.putRow,Go.Sort.mapBlock,Array.getElem?_modify,q3,Go.Sort.onCells]
   have hwc:∀j (hj:j<(qla l).length),w'.cell? ⟨b,C.2+j,none⟩=some (Value.int .i64 (qla l)[j]):=by intro j hj;have:=Go.Sort.cell?_putRow (Value.int .i64) E.w b C.2 l.toArray (qla l).toArray hH (by simpa using hsz) j (by simpa using hj);rw[<-hw',Go.Sort.cell?_grow _ _ _ (by simpa using hbs)];rw[Go.Sort.putRow_ahead,Go.Sort.cell?_ahead,this];simp[hj]
   obtain⟨k1,k2⟩:=qkx hE ho rfl (o':=⟨g,.arr 1 (qtd (qla l))⟩) (fun _ h=>by cases h) (w':=w') (by rw[<-hw'];simp) (fun k hk hne=>hold k hk fun h=>hne C (by rw[h];exact hb)) (by rw[<-hw'];rfl) (by rw[<-hw'];rfl) (E.b i) (fun k D hk=>.inl ⟨D,hk⟩)
    (jD _) rfl (fun _=>⟨rfl,by simp[qmh,qtd,hle,hsz],rfl⟩) (fun y=>by
     unfold qej;refine⟨zdu _,.inr ⟨b,C,_,ty,by simp[hb],q2,hnew,q4,by simp[Go.Sort.putCells,q5],by simp[qtd,hsz];omega,?_⟩⟩;rw[qfz];intro j r hj;simp only[qtd,List.getElem?_map,jM]at hj;obtain⟨z,hz,rfl⟩:=hj;obtain⟨hz1,hz2⟩:=jG.1 hz;refine⟨rfl,?_⟩;unfold qbc;refine⟨⟨.int .i64 z,?_,by unfold rel;rfl⟩,by unfold qbc;trivial⟩;have:=hwc j hz1;rw[hz2]at this;rw[show C.2*1+j*1=C.2+j by omega];exact this)
   exact⟨_,k1,k2,rfl,rfl⟩
variable{md:Nat}
def qpm(E:Env)(ro:Option Nat):Prop:=∀b,ro=some b->∃id C o,E.b id=some (b,C)/\E.h[id]?=some o/\qjd o.k=4
theorem qhv{E E':Env}(x:Ext E E'){ro:Option Nat}(h:qpm E ro):qpm E' ro:=by intro b hb;obtain⟨id,C,o,h1,h2,h3⟩:=h b hb;have hlt:=qbe h2;have hlt':=jS hlt x.len;obtain⟨o0,q1,q2⟩:=x.tags id _ hlt (jA hlt');rw[h2]at q1;cases q1;obtain⟨o1,r1,r2,_,_,r5,_⟩:=x.obj id _ hlt (jA hlt') (.inr (by omega));exact⟨id,C,_,r5 _ h1,jA hlt',by omega⟩
theorem zie{E E':Env}(x:Ext E E'){id:Nat}{o':Ob}(hlt:id<E.h.length)(h:E'.h[id]?=some o')(ht:qjd o'.k=4){y:Nat×Nat×Nat}(hb:E.b id=some y):E'.b id=some y:=by obtain⟨o1,r1,r2,_,_,r5,_⟩:=x.obj id _ hlt h (.inr (by omega));exact r5 _ hb
def qmj(P:Program)(sf:Q->Option R):Prop:=∀{md:Nat} (c:Go.Code) (ro:Option Nat) (E:Env) (s:List V) (a:Act) (res:R),Ok P E->qpm E ro->qai E s a.tmps.toList->sf (.code (qcg md P c) ⟨s,E.h⟩)=some res->c.wpIn (F0 ro) 0 P (q6s P E a res) a E.w
theorem ztn{E:Env}{vs:List V}{us:Array Value}(h:qai E vs us.toList)(n:Nat):qai E (q3m n vs) (us++Array.replicate (n-us.size) undef).toList:=by
 have hl:=qav h;simp only[q3m,Array.toList_append,Array.toList_replicate];refine qch h ?_;have:vs.length=us.size:=by simpa using hl
 rw[this];generalize n-us.size=k;induction k with
 | zero=>simp[qai]
 | succ k ih =>simp only[List.replicate_succ];unfold qai;exact⟨_,_,rfl,by unfold rel;trivial,ih⟩
theorem zcs{P:Program}{f:Nat}(hs:qun P f){sf:Q->Option R}(hV:∀k st r,sf (.code (.giv k) st)=some r->zki k st=some r){vs:List V}{E:Env}{res:R}{us:Array Value}(hE:Ok P E)(hr:qai E vs us.toList)
  (h:(match sf (.code qyu.body ⟨q3m qyu.ntmps vs,E.h⟩)with
   | some r=>(match r.x with
    | .exit _=>none
    | _=>match qmb qyu E.h.length r.st with
     | some (v,h')=>some { v:=v,st:=⟨[],h'⟩ }
     | none=>none)
   | none=>none)=some res) :
  (∃ fn, P.funcs[f]? = some fn ∧ fn.name ≠ "runtime.NumGoroutine" ∧ fn.body.isSome = true) ∧ CallsIn Fence.wide 0 P f us E.w (Ret P E res.v res.st.h) := by
 refine⟨hs.1,Go.callsIn_wide.2 ?_⟩;cases e:sf (.code qyu.body ⟨q3m qyu.ntmps vs,E.h⟩)with
 | none=>rw[e]at h;cases h
 | some r =>
  rw[e]at h;have hg:=hV _ _ _ e;unfold zki at hg;rw[if_pos rfl]at hg;split at hg
  .rename_i i g m o n es;split at hg
   .rename_i g' w els ho;split at hg
    .rename_i hc;obtain⟨rfl,rfl,rfl,rfl,rfl,hlt⟩:=hc;split at hg
     .rename_i l hl;cases hg;have hvs:vs=[.sl i g' 1 0 els.length]:=by
       rw[show qyu.ntmps=1 from rfl]at es;unfold q3m at es;cases vs with
       | nil=>simp at es
       | cons v vs =>simp only[List.length_cons,List.cons_append,List.cons.injEq]at es;obtain⟨rfl,es⟩:=es;have:=(List.append_eq_nil_iff.1 es).1;rw[this]
      subst hvs;unfold qai at hr;obtain⟨u,us',hu,h1,h2⟩:=hr;unfold qai at h2;subst h2;have hus:us=#[u]:=by cases us;simpa using hu
      subst hus;simp only[qmb,rvs,qyu]at h;simp[qyn,zeh,qek]at h;subst h;refine(zue hs hE h1 ho hlt hl).mono ?_;rintro e w' ⟨rfl,E',k1,k2,rfl,k4⟩;exact⟨qkk E.h.length E',.tuple #[],rfl,qvq k1 _,qoe k2 (jD _),qmp _ _,by rw[qsh,k4],by unfold rel;exact⟨#[],rfl,by unfold qai;rfl⟩⟩
     .cases hg
    .cases hg
   .cases hg
  .cases hg
theorem zhe{P:Program}{f:Nat}(hs:zpu P f){sf:Q->Option R}(hV:∀k st r,sf (.code (.giv k) st)=some r->zki k st=some r){vs:List V}{E:Env}{res:R}{us:Array Value}(hE:Ok P E)(hr:qai E vs us.toList)
  (h:(match sf (.code zkk.body ⟨q3m zkk.ntmps vs,E.h⟩)with
   | some r=>(match r.x with
    | .exit _=>none
    | _=>match qmb zkk E.h.length r.st with
     | some (v,h')=>some { v:=v,st:=⟨[],h'⟩ }
     | none=>none)
   | none=>none)=some res) :
  (∃ fn, P.funcs[f]? = some fn ∧ fn.name ≠ "runtime.NumGoroutine" ∧ fn.body.isSome = true) ∧ CallsIn Fence.wide 0 P f us E.w (Ret P E res.v res.st.h) := by
 refine⟨hs.1,Go.callsIn_wide.2 ?_⟩;cases e:sf (.code zkk.body ⟨q3m zkk.ntmps vs,E.h⟩)with
 | none=>rw[e]at h;cases h
 | some r =>
  rw[e]at h;have hg:=hV _ _ _ e;unfold zki at hg;rw[if_neg (by decide),if_pos rfl]at hg;unfold z1s at hg;split at hg
  .rename_i x b es;split at hg
   .rename_i els hx;split at hg
    .rename_i l hl;split at hg
     .rename_i hc;cases hg;have hvs:vs=[.agg [x,.bool b]]:=by
       rw[show zkk.ntmps=1 from rfl]at es;unfold q3m at es;cases vs with
       | nil=>simp at es
       | cons v vs =>simp only[List.length_cons,List.cons_append,List.cons.injEq]at es;obtain⟨rfl,es⟩:=es;have:=(List.append_eq_nil_iff.1 es).1;rw[this]
      subst hvs;unfold qai at hr;obtain⟨u,us',hu,h1,h2⟩:=hr;unfold qai at h2;subst h2;have hus:us=#[u]:=by cases us;simpa using hu
      subst hus;unfold rel at h1;obtain⟨cs,rfl,h1⟩:=h1;unfold qai at h1;obtain⟨ux,c1,e1,h3,h1⟩:=h1;unfold qai at h1;obtain⟨ub,c2,e2,h4,h1⟩:=h1;unfold qai at h1;unfold rel at h4;subst h1 h4 e2;have hcs:cs=#[ux,.bool b]:=by cases cs;simpa using e1
      subst hcs;simp only[qmb,rvs,zkk]at h;simp[rvV,qaj,qyn,zcm,zwx,q7m,V.cells,zeh,qek,V.low,V.low1,qfn,qan,zjd,V.pure]at h;subst h;have hw:=zyu hx hl h3;refine(hs.2 l b ux E.w hw hc.1 (fun y hy=>⟨by have:=(jP.1 hc.2) y hy;exact of_decide_eq_true this,?_⟩)).mono ?_
      .intro z hz;obtain⟨j,hj⟩:=List.mem_iff_getElem?.1 hy;obtain⟨v,e',_,_,g3⟩:=(q3i hl).2 j y hj;exact(q3a g3).2 z hz
      rintro e w' ⟨rfl,hb⟩;obtain⟨k1,k2⟩:=qwj hE (w':=w') ⟨hb.size,hb.block,hb.os,hb.output⟩ (S':=E.S) (fun _ h=>h) (fun _ h=>.inl h);exact⟨qkk E.h.length ⟨E.b,E.S,E.h,w'⟩,_,rfl,qvq k1 _,qoe k2 (jD _),qmp _ _,by rw[qsh],by unfold rel;rfl⟩
     .cases hg
    .cases hg
   .cases hg
  .cases hg
theorem zrl{P:Program}{pg:Prg}{sf:Q->Option R}(hpg:Made P pg)(hV:∀k st r,sf (.code (.giv k) st)=some r->zki k st=some r)(hC:qmj P sf):zvi P (qcf pg sf):=by
 intro fid first caps args E res us hE hr h
 simp only[qcf]at h;cases e:pg fid with
 | none=>rw[e]at h;cases h
 | some g =>
  rw[e]at h;simp only at h;rcases hpg fid g e with⟨fn,fresh,raw,md,hf,hg⟩ | ⟨rfl,_,hs⟩ | ⟨rfl,_,hs⟩
  rotate_left
  .exact zcs hs hV hE hr h
  .exact zhe hs hV hE hr h
  unfold zuz at hg;split at hg
  .cases hg
  split at hg
  .cases hg
  .rename_i hname;simp only[jM]at hg;obtain⟨b,hb,rfl⟩:=hg;simp only at h;refine⟨⟨fn,hf,by simpa using hname,by rw[hb];rfl⟩,?_⟩;cases e2:sf (.code (qcg md P b) ⟨q3m fn.ntmps (first++args++caps),E.h⟩)with
   | none=>rw[e2]at h;cases h
   | some r =>
    rw[e2]at h;simp only at h;have hx:(∀id,r.x ≠ .exit id)/\∃v h',qmb { ntmps:=fn.ntmps,results:=fn.results.toList.map (cRV P),body:=qcg md P b,fresh:=fresh,raw:=raw } E.h.length r.st=some (v,h')/\res={ v:=v,st:=⟨[],h'⟩ }:=by
     cases hx:r.x<;>rw[hx]at h<;>simp only at h
     case exit=>cases h
     all_goals
      refine⟨fun id hh=>by(cases hh),?_⟩;split at h
      .rename_i v h' hl;cases h;exact⟨v,h',hl,rfl⟩
      .cases h
    obtain⟨hx,v,h',hl,rfl⟩:=hx;refine Go.callsIn_of_wp_marks (F:=Fence.wide) hf hb trivial ?_;have hw:=hC b none E _ { tmps:=us++Array.replicate (fn.ntmps-us.size) undef,defers:=[] } r hE (fun _ h=>by cases h) (ztn hr fn.ntmps) e2;refine Go.wpIn_mono (F:=Fence.wide) hw ?_;rintro e' a' w' ⟨E',M,k1,k2,rfl,k4,k5,rfl,k7,k8⟩;have key:Go.LeavesInM Fence.wide 0 P fn a'.tmps (Ret P E v h') a'.defers .returning E'.w:=by
     rw[k7];simp only[List.append_nil];refine qtx M E'.w k8.1 k8.2 fun w'' s1 s2=>?_;have hl2:qmb { ntmps:=fn.ntmps,results:=fn.results.toList.map (cRV P),body:=qcg md P b,fresh:=fresh,raw:=raw } E.h.length ⟨r.st.s,(swE E' w'').h⟩=some (v,h'):=by show qmb _ _ ⟨r.st.s,E'.h⟩=_;rw[k4];exact hl
     obtain⟨E3,u,g1,g2,g3,g4,g5,g6⟩:=zna (z3h k1 s1) (zyq k1 k2 s1 s2) (qqh s1 _ _ k5) (g:={ ntmps:=fn.ntmps,results:=fn.results.toList.map (cRV P),body:=qcg md P b,fresh:=fresh,raw:=raw }) rfl hl2;exact⟨u,g1,E3,u,rfl,g2,g3,g4,g5,g6⟩
    cases hxx:r.x with
    | normal=>exact key
    | ret=>exact key
    | exit id=>exact absurd hxx (hx id)
theorem zaj{E:Env}:∀{ps:List Nat} {args:List V} {us:List Value} {sl:List V} {ts:Array Value},qai E args us->args.length=ps.length->qai E sl ts.toList ->
  qai E (qga sl ps args) ((ps.zip us).foldl (fun(tmps:Array Value) (p:Nat×Value)=>tmps.setIfInBounds p.1 p.2) ts).toList
 | [],args,us,sl,ts,_,_,h=>by cases args<;>simpa[qga]using h
 | p :: ps,[],us,sl,ts,_,hl,h=>by simp at hl
 | p :: ps,v :: args,us,sl,ts,ha,hl,h=>by unfold qai at ha;obtain⟨u,us',rfl,h1,h2⟩:=ha;simp only[qga,List.zip_cons_cons,List.foldl_cons];refine zaj h2 (by simpa using hl) ?_;rw[Array.toList_setIfInBounds];exact q2s h1 p h
theorem zkc{E:Env}{L:Go.Loop}{sl args:List V}{us:Array Value}(h1:qai E sl L.tmps.toList)(h2:qai E args us.toList)(hl:args.length=L.params.toList.length):qai E (qga sl L.params.toList args) (q6p L us).toList:=by
 have:=zaj h2 hl h1;have e:q6p L us=(L.params.toList.zip us.toList).foldl (fun(tmps:Array Value) (p:Nat×Value)=>tmps.setIfInBounds p.1 p.2) L.tmps:=by unfold q6p;rw[<-Array.foldl_toList,Array.toList_zip]
 rw[e];exact this
theorem q2g{P:Program}{E:Env}(hE:Ok P E){l g b:Nat}{D:Nat×Nat}{sl sl':List V}{ps:List Nat}{as bd:C}{p p':Option X}{L L':Go.Loop}(ho:E.h[l]?=some ⟨g,.loop sl ps as bd p⟩)(hb:E.b l=some (b,D))(hw:E.w.heap[b]?=some (.loop L))(hn:¬E.S b)
  (ht:qai E sl' L'.tmps.toList) (h1:L'.params.toList=ps) (h2:∃md,qcg md P L'.assign=as/\qcg md P L'.body=bd)
  (h4:match p' with
     | none=>L'.state=.ready/\L'.pending=none
     | some .normal=>True
     | some x=>L'.state=.done/\L'.pending=q5q x) :
  ∃E',Ok P E'/\Ext E E'/\E'.h=E.h.set l ⟨g,.loop sl' ps as bd p'⟩/\E'.w={ E.w with heap:=E.w.heap.setIfInBounds b (.loop L') }/\E'.S=E.S:=by
 have hbs:=qea hw;obtain⟨k1,k2⟩:=qkx hE ho rfl (o':=⟨g,.loop sl' ps as bd p'⟩) (fun _ h=>by cases h) (w':={ E.w with heap:=E.w.heap.setIfInBounds b (.loop L') }) (by simp) (fun k hk hne=>by
   have:k≠b:=fun h=>hne D (by rw[h];exact hb);simp only;rw[Array.getElem?_setIfInBounds_ne (Ne.symm this)]) rfl rfl (E.b l) (fun k D' hk=>.inl ⟨D',hk⟩)
  (jD _) rfl (fun _=>⟨rfl,jD _,rfl⟩) (fun y=>by
   unfold qej;refine⟨b,D,L',by simp[hb],hn,by simp[hbs],qbb hE y.toExt0 _ _ ht,h1,h2,h4⟩)
 exact⟨_,k1,k2,rfl,rfl,rfl⟩
theorem zoh{P:Program}{pg:Prg}{sf:Q->Option R}(hC:qmj P sf):zes P (qcf pg sf):=by
 intro l args E res us hE hr h;simp only[qcf]at h;split at h
 .rename_i g0 sl params assign bd0 hob;split at h
  .rename_i hlen;have hro:=hE.obj l _ hob;unfold qej at hro;obtain⟨b,C,L,q1,q2,q3,q4,q5,⟨md,q6,q7⟩,q8⟩:=hro;have hlt:=qbe hob;have hRo:qpm E (some b):=fun b' hb'=>by cases hb';exact⟨l,C,_,q1,hob,rfl⟩
   have hal:=qav hr;refine⟨b,C,L,q1,⟨_,hob,rfl⟩,q3,?_,?_⟩
   .rw[<-q5]at hlen;simp at hal hlen;omega
   .cases e1:sf (.code assign ⟨qga sl params args,E.h⟩)with
    | none=>rw[e1]at h;cases h
    | some r1 =>
     rw[e1]at h;simp only at h;cases hx1:r1.x<;>rw[hx1]at h<;>simp only at h<;>try (cases h;done)
     split at h
     .rename_i g sl' ps' as' bd' hob1;cases e2:sf (.code bd0 ⟨r1.st.s,r1.st.h.set l ⟨g,.loop sl' ps' as' bd' (some .normal)⟩⟩)with
      | none=>rw[e2]at h;cases h
      | some r2 =>
       rw[e2]at h;simp only at h;split at h
       .rename_i g2 sl2 ps2 as2 bd2 p2 hob2;refine Go.roundIn_of_wpIn (F:=Fence.wide) trivial ?_;have hset:qai E (qga sl params args) (q6p L us).toList:=by
         rw[<-q5];exact zkc q4 hr (by rw[q5];exact hlen)
        have ha:=hC L.assign (some b) E (qga sl params args) { tmps:=q6p L us,defers:=[] } r1 hE hRo hset (by rw[q6];exact e1);refine Go.wpIn_mono (F:=F0 (some b)) ha ?_;rintro e a1 w1 ⟨E1,M1,k1,k2,rfl,k4,k5,rfl,k7,k8⟩;rw[hx1];have hob1':E1.h[l]?=some ⟨g,.loop sl' ps' as' bd' none⟩:=by rw[k4];exact hob1
        have hb1:=zie k2 hlt hob1' rfl q1;have hro1:=k1.obj l _ hob1';unfold qej at hro1;obtain⟨b1,C1,L1,p1,p2',p3,p4,p5,p6,p8⟩:=hro1;rw[hb1]at p1;cases p1;obtain⟨E2,m1,m2,m3,m4,m5⟩:=q2g (p':=some .normal) (L':={ L1 with state:=.busy }) k1 hob1' hb1 p3 p2' p4 p5 p6 trivial;refine⟨E2.w,?_,?_⟩
        .rw[m4];simp[Go.Instr.beginRound,Go.Instr.getLoop,Go.getObj,Go.setObj,Sem.run,Go.Result.andThen,p3,p8.1]
        .have hbd:=hC L.body (some b) E2 r1.st.s a1 r2 m1 (qhv m2 (qhv k2 hRo)) (qbb k1 m2.toExt0 _ _ k5) (by rw[q7,m3,k4];exact e2);refine Go.wpIn_mono (F:=F0 (some b)) hbd ?_;rintro e a2 w3 ⟨E3,M3,n1,n2,rfl,n4,n5,rfl,n7,n8⟩;have c1:=qvq n1 E.h.length;have c2:Ext E (qkk E.h.length E3):=qoe ((k2.trans m2).trans n2) (jD _);have hob3:(qkk E.h.length E3).h[l]?=some ⟨g2,.loop sl2 ps2 as2 bd2 p2⟩:=by
          rw[qsh,n4];exact hob2
         have hb3:=zie c2 hlt hob3 rfl q1;have hro3:=c1.obj l _ hob3;unfold qej at hro3;obtain⟨b3,C3,L3,t1,t2,t3,t4,t5,t6,t8⟩:=hro3;rw[hb3]at t1;cases t1;have fin:∀(p:Option X) (jump:Option Go.Code),(p=none/\jump=none\/∃x,p=some x/\x ≠ .normal/\jump=q5q x/\jump≠none) ->
           ∃v w4,(Go.Instr.endRound b jump).run P E3.w=.ok v w4/\Ret P E (.bool jump.isNone) ((qdw E.h.length r2.st.h).set l ⟨g2,.loop sl2 ps2 as2 bd2 p⟩) (.returned v) w4:=by
          intro p jump hpj;obtain⟨E4,d1,d2,d3,d4,d5⟩:=q2g (p':=p) (L':={ L3 with state:=if jump.isNone then .ready else .done,pending:=jump }) c1 hob3 hb3 t3 t2 t4 t5 t6 (by
           rcases hpj with⟨rfl,rfl⟩ | ⟨x,rfl,hx,rfl,hj⟩
           .simp
           .cases x with
            | normal=>exact absurd rfl hx
            | exit id=>simp[q5q]
            | ret=>simp[q5q])
          refine⟨.bool jump.isNone,E4.w,?_,E4,_,rfl,d1,c2.trans d2,rfl,by rw[d3,qsh,n4],by unfold rel;rfl⟩;rw[d4];have t3':E3.w.heap[b]?=some (.loop L3):=by rw[<-qmp E.h.length E3];exact t3
          simp[Go.Instr.endRound,Go.Instr.getLoop,Go.getObj,Go.setObj,Sem.run,Go.Result.andThen,t3',qmp]
         cases hx2:r2.x<;>rw[hx2]at h<;>simp only[jC]at h<;>subst h
         .exact fin none none (.inl ⟨rfl,rfl⟩)
         .exact fin _ (some (.exit _)) (.inr ⟨_,rfl,by simp,rfl,by simp⟩)
         .exact fin _ (some .ret) (.inr ⟨_,rfl,by simp,rfl,by simp⟩)
       .cases h
     .cases h
  .cases h
 .cases h
end Go.Am
