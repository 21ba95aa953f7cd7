/- Operations, ends of functions, calls. Leaving a function. Leaving a function,on. A call on an empty memory,and what comes of it in the caller's. Calls. Regions that draw nothing. Marks among the deferred calls;the world behind them. Functions and rounds,over what their code does. -/
import Derived.Test.YtddeacahiilikaaGreatREn3
import Derived.RangeFuncLeaves
namespace Go.Am
open Go (World Value Addr Obj Program Act Operand Oper Op Sem Result Next undef execOp TypeId TypeDesc)
theorem qmq{P:Program}{o:Oper}{q:O}(h:cOp P o=some q):zex P o=some q:=by
 unfold cOp at h
 split at h
 .split at h
  .cases h
  .rename_i e _;cases h;exact e
 .cases h
theorem qlr:∀{l:List (Nat×Operand)} {ps:List (Nat×A)},l.mapM qwh=some ps->ps.length=l.length
 | [],ps,h=>by simp at h;subst h;rfl
 | x :: xs,ps,h=>by
  simp only[List.mapM_cons,bind,jB,pure,jC]at h
  obtain⟨a,_,b,h2,rfl⟩:=h
  simp[qlr h2]
section
variable{P:Program}{E:Env}(hE:Ok P E){s:List V}{a:Act}(hs:qai E s a.tmps.toList){o:Oper}
include hE
omit hE in
theorem q2o{p q:V}{h:H}{ks:List Nat}{neg:Bool}{v:V}{h':H}(hv:(match p,q with
  | .agg a,.agg b=>match eqL ks a b with
   | some t=>some (V.bool (if neg then !t else t),h)
   | none=>none
  | _,_=>none)=some (v,h')):∃a b t,p=.agg a/\q=.agg b/\eqL ks a b=some t/\v=.bool (if neg then !t else t)/\h'=h:=by
 split at hv
 .split at hv
  .cases hv;exact⟨_,_,_,rfl,rfl,by assumption,rfl,rfl⟩
  .cases hv
 .cases hv
theorem q0h{x:Operand}{t e:TypeId}{n:Nat}{c:Go.Call}(ho:o.op=.call c)(hc:c.callee=.builtin .len)(ha:c.args.toList=[x])(hat:c.argTypes.toList=[t])(ht:P.underlying t=some (.array n e)):Does P E a o (.int .i64 n) E.h:=by
 have ha':c.args=#[x]:=by rw[<-Array.toList_inj];simpa using ha
 have hat':c.argTypes=#[t]:=by rw[<-Array.toList_inj];simpa using hat
 refine Does.same hE (u:=.int .i64 n) ?_ (by unfold rel;rfl)
 simp[execOp,ho,Go.resolve,hc,ha',hat',Go.invoke,Go.builtin,Go.Builtin.len_,Go.run_underlying ht,Go.goInt]
include hs
theorem q7z{q:O}(hc0:cOp P o=some q){v:V}{h':H}(hv:exO q s E.h=some (v,h')):Does P E a o v h':=by
 have hc:=qmq hc0
 cases hop:o.op<;>(unfold zex at hc;rw[hop]at hc;simp only at hc)<;>try (cases hc;done)
 case move x =>
  simp only[jM]at hc
  obtain⟨x',h1,rfl⟩:=hc
  cases hv
  exact q7m hE hs (.inl hop) h1
 case assign x =>
  simp only[jM]at hc
  obtain⟨x',h1,rfl⟩:=hc
  cases hv
  exact q7m hE hs (.inr hop) h1
 case pick c x y =>
  simp only[Option.bind_eq_bind,Option.pure_def,jB,jC]at hc
  obtain⟨c',h1,x',h2,y',h3,rfl⟩:=hc
  simp only[exO]at hv
  split at hv
  .cases hv
   exact q7o hE hs hop h1 h2 h3 (by assumption)
  .cases hv
 case alloc e =>
  simp only[jB]at hc
  obtain⟨z,h1,hc⟩:=hc
  split at hc
  .rename_i hk
   cases hc
   cases hv
   exact q4m hE hop h1 (by simpa using hk)
  .cases hc
 case box e x =>
  simp only[jM]at hc
  obtain⟨x',h1,rfl⟩:=hc
  simp only[exO]at hv
  split at hv
  .cases hv
   exact zcd hE hs hop h1 (by assumption)
  .cases hv
 case build t parts =>
  simp only[Option.bind_eq_bind,Option.pure_def,jB]at hc
  obtain⟨zs,hz,hc⟩:=hc
  have fin:∀ps,((∃fs,P.underlying t=some (.struct fs)/\parts.toList.mapM (q9t P fs)=some ps/\fs.toList.all (fun f=>(P.info? f.type).isSome)=true)\/(∃n e,P.underlying t=some (.array n e)/\parts.toList.mapM (q9s P e)=some ps/\(P.info? e).isSome=true)) ->
    exO (.build zs ps) s E.h=some (v,h')->Does P E a o v h':=by
   intro ps hp hv
   simp only[exO]at hv
   split at hv
   .cases hv
    exact q4n hE hs hop hz hp (by assumption)
   .cases hv
  split at hc
  .rename_i fs ht
   simp only[jB]at hc
   obtain⟨ps,hp,hc⟩:=hc
   split at hc
   .rename_i hall
    cases hc
    exact fin ps (.inl ⟨fs,ht,hp,hall⟩) hv
   .cases hc
  .rename_i n e ht
   simp only[jB]at hc
   obtain⟨ps,hp,hc⟩:=hc
   split at hc
   .rename_i hall
    cases hc
    exact fin ps (.inr ⟨n,e,ht,hp,hall⟩) hv
   .cases hc
  .cases hc
 case buildSlice t len parts =>
  simp only[Option.bind_eq_bind,Option.pure_def,jB]at hc
  obtain⟨e,he,zs,hz,ps,hp,hc⟩:=hc
  have ht:P.underlying t=some (.slice e):=by
   unfold qer at he
   split at he
   .cases he;assumption
   .cases he
  split at hc
  .rename_i hh
   cases hc
   exact zck hE hs hop ht hz hp hh.2.2.1 hh.2.2.2.1 hh.1 hh.2.2.2.2 hv
  split at hc
  .rename_i hh
   cases hc
   by_cases h0:len=0
   .subst h0
    simp only[exO,if_true]at hv
    split at hv
    .rename_i hps
     cases hv
     have hps':ps=[]:=by simpa using hps
     subst hps'
     have hp0:parts.toList=[]:=by
      have:=qlr hp
      exact List.length_eq_zero_iff.1 this.symm
     exact qxo hE hop ht hh.2.1 hp0
    .cases hv
   .exact q0g hE hs hop ht hz hp hh.1 hh.2.1 h0 hh.2.2 hv
  .cases hc
 case load t x =>
  simp only[Option.bind_eq_bind,Option.pure_def,jB,jC]at hc
  obtain⟨z,hz,x',h1,rfl⟩:=hc
  simp only[exO]at hv
  split at hv
  .cases hv
   exact q7i hE hs hop hz h1 (by assumption)
  .cases hv
 case store t x y =>
  split at hc
  .rename_i hz
   simp only[Option.bind_eq_bind,Option.pure_def,jB,jC]at hc
   obtain⟨x',h1,y',h2,rfl⟩:=hc
   simp only[exO]at hv
   split at hv
   .cases hv
    exact q4p hE hs hop hz h1 h2 (by assumption)
   .cases hv
  .cases hc
 case nilCheck x =>
  simp only[jM]at hc
  obtain⟨x',h1,rfl⟩:=hc
  simp only[exO]at hv
  split at hv<;>rename_i hx<;>cases hv<;>rw[<-hx]
  .exact qkv hE hs hop h1 (.inl ⟨_,hx⟩)
  .exact qkv hE hs hop h1 (.inr (.inl ⟨_,_,_,_,hx⟩))
  .exact qkv hE hs hop h1 (.inr (.inr (.inr ⟨_,_,hx⟩)))
  .exact qkv hE hs hop h1 (.inr (.inr (.inl ⟨_,_,_,hx⟩)))
 case binOp op t x y yt =>
  have fin:∀isb,(isb=true->P.underlying t=some .bool)->(do return O.bin isb op (<-cA x) (<-cA y))=some q->Does P E a o v h':=by
   intro isb hb hc
   simp only[Option.bind_eq_bind,Option.pure_def,jB,jC]at hc
   obtain⟨x',h1,y',h2,rfl⟩:=hc
   simp only[exO]at hv
   split at hv
   .cases hv
    exact zcc hE hs hop hb h1 h2 (by assumption)
   .cases hv
  split at hc
  .exact fin true (fun _=>by assumption) hc
  .exact fin false (fun h=>by cases h) hc
  .exact fin false (fun h=>by cases h) hc
  .rename_i fs ht
   simp only[Option.bind_eq_bind,jB]at hc
   obtain⟨kss,hks,hc⟩:=hc
   split at hc
   .rename_i hcond
    simp only[jE,Bool.not_eq_true']at hcond
    obtain⟨⟨hof,hst⟩,hg⟩:=hcond
    have fin2:∀neg,((neg=false/\op=.eql)\/(neg=true/\op=.neq))->(do return O.eqa neg kss.flatten (<-cA x) (<-cA y))=some q->Does P E a o v h':=by
     intro neg hop' hc
     simp only[Option.bind_eq_bind,Option.pure_def,jB,jC]at hc
     obtain⟨x',h1,y',h2,rfl⟩:=hc
     simp only[exO]at hv
     obtain⟨p,r,b,e1,e2,e3,rfl,rfl⟩:=q2o hv
     exact zch hE hs hop hop' ht hks hst hg hof h1 h2 e1 e2 e3
    split at hc
    .exact fin2 false (.inl ⟨rfl,rfl⟩) hc
    .exact fin2 true (.inr ⟨rfl,rfl⟩) hc
    .cases hc
   .cases hc
  .rename_i n e ht
   simp only[Option.bind_eq_bind,jB]at hc
   obtain⟨k,hk,hc⟩:=hc
   split at hc
   .rename_i hcond
    simp only[jE,jW,Bool.not_eq_true']at hcond
    have fin2:∀neg,((neg=false/\op=.eql)\/(neg=true/\op=.neq))->(do return O.eqa neg (List.replicate n k) (<-cA x) (<-cA y))=some q->Does P E a o v h':=by
     intro neg hop' hc
     simp only[Option.bind_eq_bind,Option.pure_def,jB,jC]at hc
     obtain⟨x',h1,y',h2,rfl⟩:=hc
     simp only[exO]at hv
     obtain⟨p,r,b,e1,e2,e3,rfl,rfl⟩:=q2o hv
     exact q7e hE hs hop hop' ht hk hcond.1 hcond.2 h1 h2 e1 e2 e3
    split at hc
    .exact fin2 false (.inl ⟨rfl,rfl⟩) hc
    .exact fin2 true (.inr ⟨rfl,rfl⟩) hc
    .cases hc
   .cases hc
  .rename_i e ht
   split at hc
   .simp only[Option.bind_eq_bind,Option.pure_def,jB,jC]at hc
    obtain⟨x',h1,rfl⟩:=hc
    exact qtm hE hs hop (.inl ⟨rfl,rfl⟩) ht h1 hv
   .simp only[Option.bind_eq_bind,Option.pure_def,jB,jC]at hc
    obtain⟨x',h1,rfl⟩:=hc
    exact qtm hE hs hop (.inr ⟨rfl,rfl⟩) ht h1 hv
   .cases hc
  .cases hc
 case unOp op t x =>
  simp only[Option.bind_eq_bind,Option.pure_def,jB,jC]at hc
  obtain⟨x',h1,rfl⟩:=hc
  simp only[exO]at hv
  split at hv
  .cases hv
   exact zgy hE hs hop h1 (by assumption)
  .cases hv
 case convert src dst x =>
  have fin:∀c,(cA x).map (O.conv c)=some q->((c=.i2s/\(∃k,P.underlying src=some (.int k))/\P.underlying dst=some .string)\/(∃k k',c=.int k/\P.underlying src=some (.int k')/\P.underlying dst=some (.int k))\/(c=.same/\P.underlying src=some .string/\P.underlying dst=some .string))->Does P E a o v h':=by
   intro c hc hcc
   simp only[jM]at hc
   obtain⟨x',h1,rfl⟩:=hc
   simp only[exO]at hv
   split at hv
   .rename_i u hu
    cases hv
    exact q7d hE hs hop h1 hcc hu (fun hcs=>by
     subst hcs
     unfold q0e at hu
     split at hu<;>first | (exact⟨_,by assumption⟩) | (cases hu;done) | skip
     all_goals simp_all)
   .cases hv
  split at hc
  .rename_i k k' e1 e2
   exact fin _ hc (.inr (.inl ⟨_,_,rfl,e1,e2⟩))
  .rename_i k e1 e2
   exact fin _ hc (.inl ⟨rfl,⟨_,e1⟩,e2⟩)
  .rename_i e1 e2
   exact fin _ hc (.inr (.inr ⟨rfl,e1,e2⟩))
  .cases hc
 case makeMap t r =>
  cases r<;>simp only at hc<;>try (cases hc;done)
  split at hc
  .split at hc
   .cases hc
    exact q4o hE hop hv
   .cases hc
  .cases hc
 case lookup t x k ok =>
  split at hc
  .rename_i kt e ht
   simp only[Option.bind_eq_bind,jB]at hc
   obtain⟨kk,hk,zero,hz,hc⟩:=hc
   split at hc
   .rename_i hzs
    simp only[Option.pure_def,jB,jC]at hc
    obtain⟨x',h1,y',h2,rfl⟩:=hc
    exact q7j hE hs hop ht hk hz hzs h1 h2 hv
   .cases hc
  .cases hc
 case mapUpdate t m k v0 =>
  split at hc
  .rename_i kt e ht
   simp only[Option.bind_eq_bind,Option.pure_def,jB,jC]at hc
   obtain⟨kk,hk,x',h1,y',h2,z',h3,rfl⟩:=hc
   exact zcn hE hs hop ht hk h1 h2 h3 hv
  .cases hc
 case makeInterface t x =>
  split at hc
  .cases hc
  .cases hc
  .rename_i d hn1 hn2
   simp only[Option.bind_eq_bind,Option.pure_def,jB,jC]at hc
   obtain⟨x',h1,rfl⟩:=hc
   cases hv
   refine q7l hE hs hop ?_ h1
   cases hd:P.underlying t with
   | none=>exact absurd hd (by assumption)
   | some d=>exact⟨d,rfl,fun m hm=>by subst hm;exact hn2 _ hd⟩
 case makeFunc f first caps =>
  cases f<;>simp only at hc<;>try (cases hc;done)
  split at hc
  case isFalse=>cases hc
  rename_i hlt
  simp only[Option.bind_eq_bind,Option.pure_def,jB,jC]at hc
  obtain⟨f',h1,c',h2,rfl⟩:=hc
  cases hv
  exact q7k hE hs hop hlt h1 h2
 case makeSlice t l c =>
  simp only[Option.bind_eq_bind,Option.pure_def,jB]at hc
  obtain⟨e,he,zs,hz,hc⟩:=hc
  split at hc
  .rename_i hh
   simp only[jB,jC]at hc
   obtain⟨l',h1,c',h2,rfl⟩:=hc
   have ht:P.underlying t=some (.slice e):=by
    unfold qer at he
    split at he
    .cases he;assumption
    .cases he
   exact qxp hE hs hop ht hz hh.1 hh.2 h1 h2 hv
  .cases hc
 case slice t x lo hi mx =>
  split at hc
  .rename_i ht
   split at hc
   .cases hc
   .rename_i hmx
    simp only[Option.bind_eq_bind,Option.pure_def,jB,jC]at hc
    obtain⟨x',h1,lo',h2,hi',h3,rfl⟩:=hc
    have:mx=none:=by simpa using hmx
    subst this
    simp only[exO]at hv
    split at hv
    .split at hv
     .split at hv
      .rename_i hle
       cases hv
       exact q7r hE hs hop ht h1 h2 h3 (by assumption) (by assumption) (by assumption) hle.1 hle.2
      .cases hv
     .cases hv
    .cases hv
  .rename_i e ht
   split at hc
   .rename_i hh
    simp only[Option.bind_eq_bind,Option.pure_def,jB,jC]at hc
    obtain⟨x',h1,lo',h2,hi',h3,mx',h4,rfl⟩:=hc
    obtain⟨rfl,hd⟩:=q7q hE hs hop ht hh.1 h1 h2 h3 h4 (fun h=>by
     have:=hh.2
     rw[h]at this
     simpa using this) hv
    exact hd
   .cases hc
  .rename_i n e ht
   split at hc
   .cases hc
   .rename_i hmz
    simp only[Option.bind_eq_bind,Option.pure_def,jB,jC]at hc
    obtain⟨x',h1,lo',h2,hi',h3,rfl⟩:=hc
    have hmx:mx=none:=by
     cases mx with
     | none=>rfl
     | some y=>exact absurd (.inl rfl) hmz
    subst hmx
    simp only[exO]at hv
    split at hv
    .split at hv
     .split at hv
      .rename_i hle
       cases hv
       exact q7p hE hs hop ht (fun h=>hmz (.inr h)) h1 h2 h3 (by assumption) (by assumption) (by assumption) hle.1 hle.2
      .cases hv
     .cases hv
    .cases hv
  .cases hc
 case fieldAddr t x f =>
  split at hc
  .rename_i fs ht
   simp only[Option.bind_eq_bind,jB]at hc
   obtain⟨fd,hf,hc⟩:=hc
   split at hc
   .rename_i hz
    simp only[Option.pure_def,jB,jC]at hc
    obtain⟨x',h1,rfl⟩:=hc
    simp only[exO]at hv
    split at hv
    .split at hv
     .cases hv
      exact qok hE hs hop ht hf hz h1 (.inl ⟨_,by assumption,rfl⟩)
     .cases hv
    .cases hv
     exact qok hE hs hop ht hf hz h1 (.inr (.inl ⟨_,_,_,_,by assumption,rfl⟩))
    .cases hv
     exact qok hE hs hop ht hf hz h1 (.inr (.inr ⟨_,_,by assumption,rfl⟩))
    .cases hv
   .cases hc
  .cases hc
 case field t x f =>
  split at hc
  .rename_i fs ht
   simp only[Option.bind_eq_bind,Option.pure_def,jB,jC]at hc
   obtain⟨fd,hf,z,hz,x',h1,rfl⟩:=hc
   simp only[exO]at hv
   split at hv
   .split at hv
    .cases hv
     exact zcj hE hs hop ht hf hz h1 (by assumption) (by assumption)
    .cases hv
   .cases hv
  .cases hc
 case indexAddr t x i =>
  split at hc
  .rename_i n e ht
   split at hc
   .rename_i hz
    simp only[Option.bind_eq_bind,Option.pure_def,jB,jC]at hc
    obtain⟨x',h1,i',h2,rfl⟩:=hc
    simp only[exO]at hv
    split at hv
    .split at hv
     .rename_i hk
      cases hv
      exact qlz hE hs hop ht hz h1 h2 (by assumption) hk.1 (.inl ⟨_,by assumption,rfl⟩)
     .cases hv
    .split at hv
     .rename_i hk
      cases hv
      exact qlz hE hs hop ht hz h1 h2 (by assumption) hk (.inr (.inl ⟨_,_,_,_,by assumption,rfl⟩))
     .cases hv
    .split at hv
     .rename_i hk
      cases hv
      exact qlz hE hs hop ht hz h1 h2 (by assumption) hk (.inr (.inr ⟨_,_,by assumption,rfl⟩))
     .cases hv
    .cases hv
   .cases hc
  .rename_i e ht
   split at hc
   .rename_i hz
    simp only[Option.bind_eq_bind,Option.pure_def,jB,jC]at hc
    obtain⟨x',h1,i',h2,rfl⟩:=hc
    simp only[exO]at hv
    split at hv
    .split at hv
     .split at hv
      .rename_i hk
       cases hv
       exact qip hE hs hop ht hz h1 h2 (by assumption) (.inl ⟨_,_,by assumption,by assumption,hk,rfl⟩)
      .cases hv
     .cases hv
    .split at hv
     .rename_i hx _ hk
      cases hv
      rw[hk.2]at hx
      exact qip hE hs hop ht hz h1 h2 (by assumption) (.inr (.inl ⟨_,_,_,_,hx,hk.1,rfl⟩))
     .cases hv
    .split at hv
     .rename_i hx _ hk
      cases hv
      rw[hk.2]at hx
      exact qip hE hs hop ht hz h1 h2 (by assumption) (.inr (.inr (.inl ⟨_,_,_,hx,hk.1,rfl⟩)))
     .cases hv
    .split at hv
     .rename_i hx _ hk
      cases hv
      exact qip hE hs hop ht hz h1 h2 (by assumption) (.inr (.inr (.inr ⟨_,hx,hk.1,hk.2,rfl⟩)))
     .cases hv
    .cases hv
   .cases hc
  .cases hc
 case index t x i =>
  split at hc
  .rename_i n e ht
   simp only[Option.bind_eq_bind,jB]at hc
   obtain⟨z,hz,hc⟩:=hc
   split at hc
   .rename_i hh
    simp only[Option.pure_def,jB,jC]at hc
    obtain⟨x',h1,i',h2,rfl⟩:=hc
    simp only[exO]at hv
    split at hv
    .split at hv
     .split at hv
      .cases hv
       exact q7f hE hs hop ht hz hh.1 hh.2 h1 h2 (by assumption) (by assumption) (by assumption) (by assumption)
      .cases hv
     .cases hv
    .cases hv
   .cases hc
  .rename_i ht
   simp only[Option.bind_eq_bind,Option.pure_def,jB,jC]at hc
   obtain⟨x',h1,i',h2,rfl⟩:=hc
   simp only[exO]at hv
   split at hv
   .split at hv
    .cases hv
     exact q7g hE hs hop ht h1 h2 (by assumption) (by assumption) (by assumption)
    .cases hv
   .cases hv
  .cases hc
 case range t x =>
  split at hc
  .rename_i ht
   simp only[jM]at hc
   obtain⟨x',h1,rfl⟩:=hc
   exact zcm hE hs hop ht h1 hv
  .cases hc
 case next x b =>
  cases b<;>simp only at hc<;>try (cases hc;done)
  simp only[jM]at hc
  obtain⟨x',h1,rfl⟩:=hc
  exact zcl hE hs hop h1 hv
 case extract x i =>
  simp only[jM]at hc
  obtain⟨x',h1,rfl⟩:=hc
  simp only[exO]at hv
  split at hv
  .split at hv
   .cases hv
    exact zci hE hs hop h1 (by assumption) (by assumption)
   .cases hv
  .cases hv
 case call c =>
  split at hc
  .simp only[Option.bind_eq_bind,Option.pure_def,jB,jC]at hc
   obtain⟨f',h1,as,h2,rfl⟩:=hc
   cases hv
  .split at hc
   .simp only[Option.bind_eq_bind,Option.pure_def,jB,jC]at hc
    obtain⟨as,h2,rfl⟩:=hc
    cases hv
   .cases hc
  .cases hc
  .rename_i b hb
   split at hc
   .rename_i x t e1 e2
    split at hc
    .rename_i n e ht
     cases hc
     cases hv
     exact q0h hE hop hb e1 e2 ht
    .rename_i ht
     simp only[jM]at hc
     obtain⟨x',h1,rfl⟩:=hc
     simp only[exO]at hv
     split at hv
     .cases hv
      exact q1z hE hs hop hb e1 e2 (.inl ⟨rfl,ht⟩) h1 (by assumption)
     .cases hv
    .rename_i e ht
     simp only[jM]at hc
     obtain⟨x',h1,rfl⟩:=hc
     simp only[exO]at hv
     split at hv
     .cases hv
      exact q1z hE hs hop hb e1 e2 (.inr ⟨rfl,_,ht⟩) h1 (by assumption)
     .cases hv
    .rename_i k e ht
     simp only[jM]at hc
     obtain⟨x',h1,rfl⟩:=hc
     exact q7h hE hs hop hb e1 e2 ht h1 hv
    .cases hc
   .rename_i x t e1 e2
    split at hc
    .rename_i e ht
     simp only[jM]at hc
     obtain⟨x',h1,rfl⟩:=hc
     exact zce hE hs hop hb e1 e2 ht h1 hv
    .cases hc
   .rename_i x y t u e1 e2
    simp only[Option.bind_eq_bind,jB]at hc
    obtain⟨e,he,zs,hz,hc⟩:=hc
    have ht:P.underlying t=some (.slice e):=by
     unfold qer at he
     split at he
     .cases he;assumption
     .cases he
    split at hc
    .rename_i k hu
     split at hc
     .rename_i hh
      simp only[Option.pure_def,jB,jC]at hc
      obtain⟨x',h1,y',h2,rfl⟩:=hc
      exact q7c hE hs hop hb e1 e2 ht hu hz hh.1 hh.2.1 hh.2.2 h1 h2 hv
     .cases hc
    .rename_i e' hu
     split at hc
     .rename_i hh
      simp only[Option.pure_def,jB,jC]at hc
      obtain⟨x',h1,y',h2,rfl⟩:=hc
      exact zcb hE hs hop hb e1 e2 ht hu hz hh.1 hh.2.1 hh.2.2 h1 h2 hv
     .cases hc
    .cases hc
   .rename_i x t e1 e2
    simp only[Option.bind_eq_bind,jB]at hc
    obtain⟨e,he,zs,hz,hc⟩:=hc
    have ht:P.underlying t=some (.slice e):=by
     unfold qer at he
     split at he
     .cases he;assumption
     .cases he
    split at hc
    .rename_i hh
     simp only[Option.pure_def,jB,jC]at hc
     obtain⟨x',h1,rfl⟩:=hc
     exact zcf hE hs hop hb e1 e2 ht hh.1 hz hh.2 h1 hv
    .cases hc
   .rename_i x y t u e1 e2
    simp only[Option.bind_eq_bind,jB]at hc
    obtain⟨e,he,e',he',hc⟩:=hc
    have ht:P.underlying t=some (.slice e):=by
     unfold qer at he
     split at he
     .cases he;assumption
     .cases he
    split at hc
    .rename_i hh
     simp only[Option.pure_def,jB,jC]at hc
     obtain⟨x',h1,y',h2,rfl⟩:=hc
     exact zcg hE hs hop hb e1 e2 ht hh h1 h2 hv
    .cases hc
   .rename_i x y e1
    split at hc
    .simp only[Option.bind_eq_bind,Option.pure_def,jB,jC]at hc
     obtain⟨x',h1,y',h2,rfl⟩:=hc
     exact q7n hE hs (mn:=false) hop hb e1 h1 h2 hv
    .cases hc
   .rename_i x y e1
    split at hc
    .simp only[Option.bind_eq_bind,Option.pure_def,jB,jC]at hc
     obtain⟨x',h1,y',h2,rfl⟩:=hc
     exact q7n hE hs (mn:=true) hop hb e1 h1 h2 hv
    .cases hc
   .cases hc
end
end Go.Am
/- Leaving a function. -/
namespace Go.Am
open Go (World Value Addr Obj Program Act Operand Oper Op Sem Result Next undef execOp TypeId TypeDesc)
theorem quj{P:Program}{E E':Env}(hE:Ok P E)(x:Ext E E')(hw:E'.w=E.w){v:V}{u:Value}(h:rel E v u)(hi:inS E E'.S v):rel E' (qau E.h v) u:=by
 cases v<;>try exact qdk hE x _ _ h
 case immc els=>exact qna (qdk hE x _ _ h)
 case nils =>
  unfold rel at h
  obtain⟨a,rfl⟩:=h
  simp only[qau]
  unfold rel
  exact⟨a,0,rfl,jD _,rfl,.inl rfl⟩
 case sl id g m off len =>
  exact qds (n:=0) (E:=⟨E.b,E'.S,E.h,E.w⟩) (E':=E') ⟨hw,fun _ h=>h,fun i hi=>absurd hi (Nat.not_lt_zero _)⟩ _ _ (qje E.h (.sl id g m off len) (.inr ⟨id,g,m,off,len,rfl⟩)) (qgn hE x.S h hi)
theorem quk{P:Program}{E E':Env}(hE:Ok P E)(x:Ext E E')(hw:E'.w=E.w):∀{vs:List V} {us:List Value},qai E vs us->(∀v∈vs,inS E E'.S v)->qai E' (vs.map (qau E.h)) us
 | [],us,h,_=>by unfold qai at *;exact h
 | v :: vs,us,h,hi=>by
  unfold qai at h
  obtain⟨u,us',rfl,h1,h2⟩:=h
  simp only[List.map_cons]
  unfold qai
  exact⟨u,us',rfl,quj hE x hw h1 (hi v (by simp)),quk hE x hw h2 (fun w hw=>hi w (by simp[hw]))⟩
theorem zab{P:Program}{E E':Env}(hE:Ok P E)(x:Ext E E')(hw:E'.w=E.w){v:V}{u:Value}(h:rel E v u)(hi:∀c∈v.cells,inS E E'.S c):rel E' (qgb E.h v) u:=by
 cases v<;>try exact quj hE x hw h (hi _ (by simp[V.cells]))
 case agg cs =>
  unfold rel at h
  obtain⟨us,rfl,hl⟩:=h
  simp only[qgb]
  unfold rel
  exact⟨us,rfl,quk hE x hw hl hi⟩
 case tup vs=>simp only[qgb];unfold rel;trivial
theorem qow{P:Program}{E E':Env}(hE:Ok P E)(x:Ext E E')(hw:E'.w=E.w):∀{vs:List V} {us:List Value},qai E vs us->(∀v∈vs,∀c∈v.cells,inS E E'.S c)->qai E' (vs.map (qgb E.h)) us
 | [],us,h,_=>by unfold qai at *;exact h
 | v :: vs,us,h,hi=>by
  unfold qai at h
  obtain⟨u,us',rfl,h1,h2⟩:=h
  simp only[List.map_cons]
  unfold qai
  exact⟨u,us',rfl,zab hE x hw h1 (hi v (by simp)),qow hE x hw h2 (fun w hw=>hi w (by simp[hw]))⟩
theorem zaf{P:Program}{E:Env}(hE:Ok P E){s:List V}{tmps:Array Value}(hs:qai E s tmps.toList):∀{rs:List Go.ResultVar} {vs:List V},rvs ⟨s,E.h⟩ (rs.map (cRV P))=some vs ->
  ∃us,(rs.mapM fun r=>(match r with
   | .tmp t=>pure (tmps.getD t undef)
   | .cell a t=>do Go.loadVar t (<-Go.asAddr (tmps.getD a undef)):Sem Value)).run P E.w=.ok us E.w/\qai E vs us
 | [],vs,h=>by
  simp only[List.map_nil,rvs,jC]at h
  subst h
  exact⟨[],by simp,by simp[qai]⟩
 | r :: rs,vs,h=>by
  simp only[List.map_cons,rvs]at h
  cases h1:rvV ⟨s,E.h⟩ (cRV P r)with
  | none=>rw[h1]at h;cases h
  | some v =>
   rw[h1]at h
   cases h2:rvs ⟨s,E.h⟩ (rs.map (cRV P))with
   | none=>rw[h2]at h;cases h
   | some ws =>
    rw[h2]at h
    cases h
    obtain⟨us,k1,k2⟩:=zaf hE hs h2
    have one:∃u,(match r with
     | .tmp t=>pure (tmps.getD t undef)
     | .cell a t=>do Go.loadVar t (<-Go.asAddr (tmps.getD a undef)):Sem Value).run P E.w=.ok u E.w/\rel E v u:=by
     cases r with
     | tmp t =>
      simp only[cRV,rvV,jC]at h1
      subst h1
      refine⟨_,rfl,?_⟩
      have:=qle t hs
      rw[qmm]
      exact this
     | cell p t =>
      simp only[cRV]at h1
      cases hz:szT P t with
      | none=>rw[hz]at h1;simp[rvV]at h1
      | some z =>
       rw[hz]at h1
       simp only[rvV]at h1
       have hp:=qle p hs
       rw[<-qmm]at hp
       obtain⟨b,y,hu,u,q1,q2⟩:=qyj hE hz hp h1
       refine⟨u,?_,q2⟩
       simp only[hu,Go.asAddr,Sem.run_bind,Sem.run_pure,Go.Result.andThen_ok,q1]
    obtain⟨u,q1,q2⟩:=one
    refine⟨u :: us,?_,?_⟩
    .rw[List.mapM_cons]
     simp only[Sem.run_bind,q1,Go.Result.andThen_ok,k1,Sem.run_pure]
    .unfold qai;exact⟨u,us,rfl,q2,k2⟩
def zoa(us:Array Value):Value:=if h:us.size=1 then us[0]else .tuple us
theorem q1a{P:Program}{E:Env}(hE:Ok P E){s:List V}{tmps:Array Value}(hs:qai E s tmps.toList){fn:Go.Func}{vs:List V}(h:rvs ⟨s,E.h⟩ (fn.results.toList.map (cRV P))=some vs) :
  ∃us:List Value,(Go.results fn tmps).run P E.w=.ok (zoa us.toArray) E.w/\qai E vs us:=by
 obtain⟨us,h1,h2⟩:=zaf hE hs h
 refine⟨us,?_,h2⟩
 unfold Go.results
 rw[Array.mapM_eq_mapM_toList]
 simp only[Sem.run_bind,map_eq_pure_bind,Sem.run_pure,zoa]
 have h3:=congrArg (fun z:Result (List Value)=>(z.andThen fun a w'=>Result.ok a.toArray w').andThen fun a w'=>Result.ok (if h:a.size=1 then a[0]else Value.tuple a) w') h1
 exact h3
theorem qwg{E:Env}{vs:List V}{us:List Value}(h:qai E vs us):rel E (zaz vs) (zoa us.toArray):=by
 have hl:=qan h
 cases vs with
 | nil =>
  unfold qai at h
  subst h
  simp only[zaz,zoa]
  unfold rel
  exact⟨#[],by simp,by simp[qai]⟩
 | cons v vs =>
  unfold qai at h
  obtain⟨u,us',rfl,h1,h2⟩:=h
  cases vs with
  | nil =>
   unfold qai at h2
   subst h2
   simpa[zaz,zoa]using h1
  | cons w ws =>
   have:zoa (u :: us').toArray=.tuple (u :: us').toArray:=by
    simp only[List.length_cons]at hl
    unfold zoa
    rw[dif_neg (by simp;intro h;subst h;simp at hl)]
   rw[this]
   simp only[zaz]
   unfold rel
   exact⟨_,rfl,by unfold qai;exact⟨u,us',rfl,h1,h2⟩⟩
def qof(E:Env)(nx:Nat)(acc:List (Nat×Ob)):Prop :=
 (∀(j:Nat) id ob,acc[j]?=some (id,ob)->nx<=id/\∃g n els k,E.h[id]?=some ⟨g,.arr n els⟩/\ob=⟨0,.arr n (els.take k)⟩)/\(acc.map (·.1)).Nodup
def qdd(E:Env)(nx:Nat)(acc:List (Nat×Ob)):Env :=
 ⟨fun i=>if i<nx then E.b i else(acc[i-nx]?).bind fun p=>E.b p.1,E.S,qjl nx E.h++acc.map (·.2),E.w⟩
theorem qng{E:Env}{nx:Nat}(hnx:nx<=E.h.length){acc:List (Nat×Ob)}{i:Nat}{o:Ob}(h:(qdd E nx acc).h[i]?=some o) :
  (i<nx/\∃o0,E.h[i]?=some o0/\o=qcf nx o0)\/(nx<=i/\∃id,acc[i-nx]?=some (id,o)):=by
 have hl:(qjl nx E.h).length=nx:=by rw[qdo];omega
 simp only[qdd]at h
 by_cases hi:i<nx
 .rw[jI (by omega)]at h
  obtain⟨_,o0,h1,h2⟩:=qfr h
  exact .inl ⟨hi,o0,h1,h2⟩
 .rw[jJ (by omega),hl]at h
  simp only[List.getElem?_map,jM]at h
  obtain⟨p,h1,rfl⟩:=h
  exact .inr ⟨by omega,p.1,h1⟩
theorem qub{E:Env}{nx:Nat}(hnx:nx<=E.h.length)(acc:List (Nat×Ob)):Agree nx E (qdd E nx acc):=by
 have hl:(qjl nx E.h).length=nx:=by rw[qdo];omega
 refine⟨rfl,fun _ h=>h,fun i hi hil=>⟨by simp[qdd,hl];omega,?_,by simp[qdd,hi],fun o' ho'=>?_⟩⟩
 .unfold qgg
  simp only[qdd]
  rw[jI (by omega)]
  exact qqt hi
 .rcases qng hnx ho' with⟨_,o0,h1,rfl⟩ | ⟨h,_⟩
  .obtain⟨s1,s2,s3,s4,_⟩:=qck nx o0
   exact⟨o0,h1,s1.symm,s2.symm,s3.symm,s4.symm⟩
  .omega
theorem qpz{n:Nat}{E E':Env}(x:Agree n E E'){v:V}{u:Value}(h:rel E v u):rel E' (qco n v) u:=by
 unfold qco
 split
 .rename_i hl;exact qds x v u hl h
 .unfold rel;trivial
theorem qqb{n:Nat}{E E':Env}(x:Agree n E E'):∀{vs:List V} {us:List Value},qai E vs us->qai E' (vs.map (qco n)) us
 | [],_,h=>by unfold qai at *;exact h
 | v :: vs,us,h=>by
  unfold qai at h
  obtain⟨u,us',h1,h2,h3⟩:=h
  simp only[List.map_cons]
  unfold qai
  exact⟨u,us',h1,qpz x h2,qqb x h3⟩
theorem qnv{n:Nat}{E E':Env}(x:Agree n E E'):∀{vs:List V} {b o:Nat},qbf E vs b o->qbf E' (vs.map (qco n)) b o
 | [],_,_,_=>by simp[qbf]
 | v :: vs,b,o,h=>by
  unfold qbf at h
  obtain⟨⟨u,h1,h2⟩,h3⟩:=h
  simp only[List.map_cons]
  unfold qbf
  exact⟨⟨u,by rw[x.w];exact h1,qpz x h2⟩,qnv x h3⟩
theorem q5l{P:Program}{n:Nat}{E E':Env}(x:Agree n E E')(hS:E'.S=E.S){i:Nat}{o:Ob}(hr:qes P E i o)(hb:E'.b i=E.b i):qes P E' i (qcf n o):=by
 unfold qes at hr ⊢
 unfold qcf
 cases hk:o.k<;>rw[hk]at hr<;>simp only[hk]
 case box cells =>
  refine hr.imp (fun h=>hb.trans h) ?_
  rintro⟨b,C,cs,ty,q1,q2,q3,q4,q5⟩
  exact⟨b,C,cs,ty,hb.trans q1,by rw[hS];exact q2,by rw[x.w];exact q3,by simpa using q4,qnv x q5⟩
 case arr m els =>
  refine⟨hr.1,hr.2.imp (fun h=>⟨hb.trans h.1,h.2⟩) ?_⟩
  rintro⟨b,C,cs,ty,q1,q2,q3,q4,q5,q6,q7⟩
  exact⟨b,C,cs,ty,hb.trans q1,by rw[hS];exact q2,by rw[x.w];exact q3,q4,q5,q6,qcs x _ _ _ _ hr.1 q7⟩
 case frz m els =>
  refine⟨hr.1,hr.2.imp (fun h=>⟨hb.trans h.1,h.2⟩) ?_⟩
  rintro⟨b,C,cs,ty,q1,q2,q3,q4,q5,q6,q7⟩
  exact⟨b,C,cs,ty,hb.trans q1,by rw[hS];exact q2,by rw[x.w];exact q3,q4,q5,q6,qcs x _ _ _ _ hr.1 q7⟩
 case map es =>
  obtain⟨b,C,ms,cl,h1,h2,h3,h4⟩:=hr
  exact⟨b,C,ms,cl,hb.trans h1,by rw[hS];exact h2,by rw[x.w];exact h3,qnq x _ _ h4⟩
 case sit s p =>
  obtain⟨b,C,h1,h2,h3⟩:=hr
  exact⟨b,C,hb.trans h1,by rw[hS];exact h2,by rw[x.w];exact h3⟩
 case loop sl ps a c p =>
  obtain⟨b,C,L,h1,h2,h3,h4,h5,h6,h7,h8⟩:=hr
  exact⟨b,C,L,hb.trans h1,by rw[hS];exact h2,by rw[x.w];exact h3,qqb x h4,h5,h6,h7,h8⟩
theorem znx{P:Program}{E:Env}(hE:Ok P E){nx:Nat}(hnx:nx<=E.h.length){acc:List (Nat×Ob)}(ha:qof E nx acc):Ok P (qdd E nx acc):=by
 have hag:=qub hnx acc
 refine⟨fun i o ho=>?_,fun i j o1 o2 b C C' h1 h2 f1 f2 b1 b2=>?_,hE.S⟩
 .rcases qng hnx ho with⟨hi,o0,h1,rfl⟩ | ⟨hi,id,h1⟩
  .exact q5l hag rfl (hE.obj i o0 h1) (by simp[qdd,hi])
  .obtain⟨hge,g,n,els,k,h2,rfl⟩:=ha.1 _ _ _ h1
   have hr:=hE.obj id _ h2
   unfold qes at hr ⊢
   have hbi:(qdd E nx acc).b i=E.b id:=by simp[qdd,h1,show ¬i<nx by omega]
   rw[hbi]
   simp only
   refine⟨qgm hr.1,hr.2.imp (fun h=>⟨h.1,by rw[h.2];simp⟩) ?_⟩
   rintro⟨b,C,cs,ty,q1,q2,q3,q4,q5,q6,q7⟩
   exact⟨b,C,cs,ty,q1,q2,q3,q4,q5,by simp;omega,qcs hag _ _ _ _ (qgm hr.1) (qef k q7)⟩
 .have src:∀(i:Nat) (o:Ob),(qdd E nx acc).h[i]?=some o->o.k.isFrz=false->∃id o0,E.h[id]?=some o0/\o0.k.isFrz=false/\(qdd E nx acc).b i=E.b id/\((i<nx/\id=i)\/(nx<=i/\nx<=id/\∃ob,acc[i-nx]?=some (id,ob))):=by
   intro i o ho hf
   rcases qng hnx ho with⟨hi,o0,h1,rfl⟩ | ⟨hi,id,h1⟩
   .exact⟨i,o0,h1,by rw[<-(qck nx o0).2.2.2.2];exact hf,by simp[qdd,hi],.inl ⟨hi,rfl⟩⟩
   .obtain⟨hge,g,n,els,k,h2,rfl⟩:=ha.1 _ _ _ h1
    exact⟨id,_,h2,rfl,by simp[qdd,h1,show ¬i<nx by omega],.inr ⟨hi,hge,_,h1⟩⟩
  obtain⟨i',o1',p1,p2,p3,p4⟩:=src i o1 h1 f1
  obtain⟨j',o2',r1,r2,r3,r4⟩:=src j o2 h2 f2
  have hij:=hE.inj i' j' o1' o2' b C C' p1 r1 p2 r2 (by rw[<-p3];exact b1) (by rw[<-r3];exact b2)
  subst hij
  rcases p4 with⟨a1,a2⟩ | ⟨a1,a2,ob,a3⟩<;>rcases r4 with⟨c1,c2⟩ | ⟨c1,c2,ob',c3⟩
  .omega
  .omega
  .omega
  .have hlt1:=(jG.1 a3).1
   have hlt2:=(jG.1 c3).1
   have:=(List.getElem?_inj (i:=i-nx) (j:=j-nx) (l:=acc.map (·.1)) (by simpa using hlt1) ha.2).1 (by simp[a3,c3])
   omega
theorem zdq{E0 E:Env}(x:Ext E0 E){nx:Nat}(h:E0.h.length<=nx)(hnx:nx<=E.h.length){acc:List (Nat×Ob)}(ha:qof E nx acc):Ext E0 (qdd E nx acc):=by
 have hl:(qjl nx E.h).length=nx:=by rw[qdo];omega
 have hlow:∀i,i<E0.h.length->(qdd E nx acc).h[i]?=(qzq nx E).h[i]?:=by
  intro i hi
  simp only[qdd,qzq]
  rw[jI (by omega)]
 have y:=qrh x h
 refine⟨⟨x.S,x.size,x.keep,fun b hb hm=>?_,?_,fun i hi=>?_,fun i o' hi ho' hc=>?_,x.os,x.output,fun i o' hi ho'=>?_⟩,x.back,fun i g cells h1 h2 h3=>?_⟩
 .obtain⟨i,o,C,h1,h2,h3⟩:=hm
  rcases qng hnx h1 with⟨hi,o0,q1,rfl⟩ | ⟨hi,id,q1⟩
  .exact x.muts b hb ⟨i,o0,C,q1,by simpa[qdd,hi]using h2,by rw[<-(qck nx o0).2.2.2.2];exact h3⟩
  .obtain⟨hge,g,n,els,k,q2,rfl⟩:=ha.1 _ _ _ q1
   exact x.muts b hb ⟨id,_,C,q2,by simpa[qdd,q1,show ¬i<nx by omega]using h2,rfl⟩
 .simp[qdd,hl];omega
 .have:=y.gen i hi
  unfold qgg at this ⊢
  rw[hlow i hi]
  exact this
 .rw[hlow i hi]at ho'
  obtain⟨o,r1,r2,r3,r4,r5,r6⟩:=y.obj i o' hi ho' hc
  have hbi:(qdd E nx acc).b i=(qzq nx E).b i:=by simp[qdd,qzq,show i<nx by omega]
  exact⟨o,r1,r2,r3,r4,fun z hz=>by rw[hbi];exact r5 z hz,fun ht=>by rw[hbi];exact r6 ht⟩
 .rw[hlow i hi]at ho'
  exact y.tags i o' hi ho'
 .obtain⟨q1,q2⟩:=y.free i g cells h1 h2 h3
  have hi:=qbi h1
  exact⟨by rw[hlow i hi];exact q1,by rw[<-q2];simp[qdd,qzq,show i<nx by omega]⟩
end Go.Am
/- Leaving a function,on. -/
namespace Go.Am
open Go (World Value Addr Obj Program Act Operand Oper Op Sem Result Next undef execOp TypeId TypeDesc)
theorem quc{E:Env}{nx:Nat}(hnx:nx<=E.h.length){acc more:List (Nat×Ob)}{v:V}{u:Value}(hl:v.low (nx+acc.length)=true)(h:rel (qdd E nx acc) v u):rel (qdd E nx (acc++more)) v u:=by
 have hcl:(qjl nx E.h).length=nx:=by rw[qdo];omega
 have hget:∀i,i<nx+acc.length->(qdd E nx (acc++more)).h[i]?=(qdd E nx acc).h[i]?:=by
  intro i hi
  simp only[qdd,List.map_append,<-List.append_assoc]
  rw[jI (by simp[hcl];omega)]
 refine qds (n:=nx+acc.length) (E:=qdd E nx acc) (E':=qdd E nx (acc++more)) ⟨rfl,fun _ h=>h,fun i hi hil=>⟨by simp[qdd,hcl]at hil ⊢;omega,?_,?_,fun o' ho'=>?_⟩⟩ v u hl h
 .unfold qgg;rw[hget i hi]
 .simp only[qdd]
  by_cases h:i<nx
  .simp[h]
  .simp only[if_neg h]
   rw[jI (by omega)]
 .rw[hget i hi]at ho'
  exact⟨o',ho',rfl,rfl,rfl,rfl⟩
theorem q2v{P:Program}{E:Env}(hE:Ok P E){nx:Nat}(hnx:nx<=E.h.length){acc:List (Nat×Ob)}(ha:qof E nx acc){v:V}{u:Value}(h:rel E v u) :
  qof E nx (qdl nx E.h acc v).2/\(∃more,(qdl nx E.h acc v).2=acc++more)/\(qdl nx E.h acc v).1.low (nx+(qdl nx E.h acc v).2.length)=true/\rel (qdd E nx (qdl nx E.h acc v).2) (qdl nx E.h acc v).1 u:=by
 have same:∀w:V,w.low nx=true->rel E w u->qof E nx acc/\(∃more,acc=acc++more)/\w.low (nx+acc.length)=true/\rel (qdd E nx acc) w u :=
  fun w hl hr=>⟨ha,⟨[],by simp⟩,qne (by omega) w hl,qds (qub hnx acc) w u hl hr⟩
 have undef:qof E nx acc/\(∃more,acc=acc++more)/\V.undef.low (nx+acc.length)=true/\rel (qdd E nx acc) .undef u :=
  ⟨ha,⟨[],by simp⟩,rfl,by unfold rel;trivial⟩
 have scr:qof E nx acc/\(∃more,acc=acc++more)/\(qco nx v).low (nx+acc.length)=true/\rel (qdd E nx acc) (qco nx v) u:=by
  unfold qco
  split
  .rename_i hl;exact same v hl h
  .exact undef
 cases v<;>try exact scr
 case sl id gen m off len =>
  simp only[qdl]
  split
  .rename_i hlt
   exact same _ (by simp[V.low,hlt]) h
  .rename_i hge
   cases hob:E.h[id]? with
   | none=>exact undef
   | some ob =>
    obtain⟨g,k⟩:=ob
    cases k<;>try exact undef
    case arr n els =>
     simp only
     split
     .rename_i hc
      obtain⟨rfl,rfl,rfl,hle,hnin⟩:=hc
      have hif:(if len=els.length then els else els.take len)=els.take len:=by
       split
       .rename_i e;rw[e,List.take_length]
       .rfl
      rw[hif]
      have hnew:(acc++[(id,(⟨0,.arr m (els.take len)⟩:Ob))])[acc.length]?=some (id,⟨0,.arr m (els.take len)⟩):=by simp
      refine⟨⟨fun j i ob hj=>?_,?_⟩,⟨_,rfl⟩,by simp[V.low],?_⟩
      .by_cases hj':j<acc.length
       .rw[jI hj']at hj
        exact ha.1 j i ob hj
       .rw[jJ (by omega)]at hj
        have h0:j-acc.length=0:=by
         have:=(jG.1 hj).1
         simp at this;omega
        rw[h0]at hj
        simp at hj
        obtain⟨rfl,rfl⟩:=hj
        exact⟨by omega,g,m,els,len,hob,rfl⟩
      .rw[List.map_append,List.nodup_append]
       refine⟨ha.2,by simp,fun a hin b hb=>?_⟩
       simp at hb
       subst hb
       simp only[jP,bne_iff_ne]at hnin
       obtain⟨p,hp,rfl⟩:=List.mem_map.1 hin
       exact hnin p hp
      .unfold rel at h ⊢
       obtain⟨_,_,a,cap,hu,hc1,hc2,hc3,h3⟩:=h
       have hcl:(qjl nx E.h).length=nx:=by rw[qdo];omega
       refine⟨by simp[qdd,hcl],by simp,a,cap,hu,hc1,hc2,hc3,fun o ho _ _=>?_⟩
       obtain⟨_,h5,h6⟩:=h3 _ hob rfl rfl
       rcases qng hnx ho with⟨hi,_⟩ | ⟨_,id',h7⟩
       .omega
       .rw[show nx+acc.length-nx=acc.length by omega,hnew]at h7
        cases h7
        have hbi:(qdd E nx (acc++[(id,(⟨0,.arr m (els.take len)⟩:Ob))])).b (nx+acc.length)=E.b id:=by
         simp only[qdd,if_neg (show ¬(nx+acc.length<nx)by omega),show nx+acc.length-nx=acc.length by omega,hnew,Option.bind_some]
        rw[hbi]
        exact⟨by simp[qsx];omega,by simp[qdv],h6⟩
     .exact undef
    case frz n els =>
     have hi:inS E E.S (.sl id gen m off len):=by
      unfold inS
      intro b C o hb ho _
      rw[hob]at ho
      cases ho
      have hr:=hE.obj id _ hob
      unfold qes at hr
      rcases hr.2 with h | ⟨b',C'',cs,ty,q1,q2,_⟩
      .rw[hb]at h;cases h.1
      .rw[hb]at q1;cases q1;exact q2
     have hp:=qje E.h (.sl id gen m off len) (.inr ⟨id,gen,m,off,len,rfl⟩)
     have hr:=qgn hE (fun _ h=>h) h hi
     have hr2:=qds (n:=0) (E:=⟨E.b,E.S,E.h,E.w⟩) (E':=qdd E nx acc) ⟨rfl,fun _ h=>h,fun i hi=>absurd hi (Nat.not_lt_zero _)⟩ (qau E.h (.sl id gen m off len)) u hp hr
     exact⟨ha,⟨[],by simp⟩,qne (Nat.zero_le _) _ hp,hr2⟩
theorem q2w{P:Program}{E:Env}(hE:Ok P E){nx:Nat}(hnx:nx<=E.h.length):∀{vs:List V} {us:List Value} {acc:List (Nat×Ob)},qof E nx acc->qai E vs us ->
  qof E nx (qhy nx E.h acc vs).2/\(∃more,(qhy nx E.h acc vs).2=acc++more)/\qfl (nx+(qhy nx E.h acc vs).2.length) (qhy nx E.h acc vs).1=true/\qai (qdd E nx (qhy nx E.h acc vs).2) (qhy nx E.h acc vs).1 us
 | [],us,acc,ha,h=>⟨ha,⟨[],by simp[qhy]⟩,rfl,by unfold qai at *;exact h⟩
 | v :: vs,us,acc,ha,h=>by
  unfold qai at h
  obtain⟨u,us',rfl,h1,h2⟩:=h
  obtain⟨k1,⟨m1,k2⟩,k3,k4⟩:=q2v hE hnx ha h1
  obtain⟨r1,⟨m2,r2⟩,r3,r4⟩:=q2w hE hnx k1 h2
  simp only[qhy]
  refine⟨r1,⟨m1++m2,by rw[r2,k2,List.append_assoc]⟩,?_,?_⟩
  .simp only[qfl,jE]
   exact⟨qne (by rw[r2];simp) _ k3,r3⟩
  .unfold qai
   refine⟨u,us',rfl,?_,r4⟩
   rw[r2]
   exact quc hnx k3 k4
theorem zdp{P:Program}{E:Env}(hE:Ok P E){nx:Nat}(hnx:nx<=E.h.length){acc:List (Nat×Ob)}(ha:qof E nx acc){v:V}{u:Value}(h:rel E v u) :
  qof E nx (qdq nx E.h acc v).2/\(∃more,(qdq nx E.h acc v).2=acc++more)/\(qdq nx E.h acc v).1.low (nx+(qdq nx E.h acc v).2.length)=true/\rel (qdd E nx (qdq nx E.h acc v).2) (qdq nx E.h acc v).1 u:=by
 cases v<;>try exact q2v hE hnx ha h
 case agg cs =>
  unfold rel at h
  obtain⟨us,rfl,hl⟩:=h
  obtain⟨r1,r2,r3,r4⟩:=q2w hE hnx ha hl
  simp only[qdq]
  exact⟨r1,r2,by simpa[V.low]using r3,by unfold rel;exact⟨us,rfl,r4⟩⟩
theorem qyp{P:Program}{E:Env}(hE:Ok P E){nx:Nat}(hnx:nx<=E.h.length):∀{vs:List V} {us:List Value} {acc:List (Nat×Ob)},qof E nx acc->qai E vs us ->
  qof E nx (qbv nx E.h acc vs).2/\(∃more,(qbv nx E.h acc vs).2=acc++more)/\qai (qdd E nx (qbv nx E.h acc vs).2) (qbv nx E.h acc vs).1 us
 | [],us,acc,ha,h=>⟨ha,⟨[],by simp[qbv]⟩,by unfold qai at *;exact h⟩
 | v :: vs,us,acc,ha,h=>by
  unfold qai at h
  obtain⟨u,us',rfl,h1,h2⟩:=h
  obtain⟨k1,⟨m1,k2⟩,k3,k4⟩:=zdp hE hnx ha h1
  obtain⟨r1,⟨m2,r2⟩,r4⟩:=qyp hE hnx k1 h2
  simp only[qbv]
  refine⟨r1,⟨m1++m2,by rw[r2,k2,List.append_assoc]⟩,?_⟩
  unfold qai
  refine⟨u,us',rfl,?_,r4⟩
  rw[r2]
  exact quc hnx k3 k4
theorem zdi{P:Program}{E0 E:Env}(hE:Ok P E)(x:Ext E0 E){s:List V}{tmps:Array Value}(hs:qai E s tmps.toList){fn:Go.Func}{g:Fun}(hg:g.results=fn.results.toList.map (cRV P)){v:V}{h':H}
  (hv:qpo g E0.h.length ⟨s,E.h⟩=some (v,h')):∃E' u,(Go.results fn tmps).run P E.w=.ok u E.w/\Ok P E'/\Ext E0 E'/\E'.w=E.w/\E'.h=h'/\rel E' v u:=by
 unfold qpo at hv
 rw[hg]at hv
 cases hr:rvs ⟨s,E.h⟩ (fn.results.toList.map (cRV P))with
 | none=>rw[hr]at hv;cases hv
 | some vs =>
  rw[hr]at hv
  simp only at hv
  obtain⟨us,h1,h2⟩:=q1a hE hs hr
  split at hv
  .cases hv
   obtain⟨r1,⟨m,r2⟩,r4⟩:=qyp hE x.len (acc:=[]) ⟨fun j id ob h=>by simp at h,by simp⟩ h2
   exact⟨_,_,h1,znx hE x.len r1,zdq x (jD _) x.len r1,rfl,rfl,qwg r4⟩
  .obtain⟨E1,b1,b2,b3,b4,b5,b6⟩:=q0k hE vs
   have hr1:=qow hE b2 b4 h2 b6
   split at hv
   .rename_i hp
    cases hv
    have hcut:=qhs (n:=0) (E:=E1) (E':=qjr E0.h.length E1) ⟨qoj _ _,fun b h=>by unfold qjr;split<;>exact h,fun i hi=>absurd hi (Nat.not_lt_zero _)⟩ _ _ hp hr1
    exact⟨qjr E0.h.length E1,_,h1,q0f b1 _,qqr (x.trans b2) (jD _),by rw[qoj];exact b4,by rw[qvk,b3],qwg hcut⟩
   .cases hv
    exact⟨E1,_,h1,b1,x.trans b2,b4,b3,qwg hr1⟩
end Go.Am
/- A call on an empty memory,and what comes of it in the caller's. -/
namespace Go.Am
open Go (World Value Addr Obj Program Act Operand Oper Op Sem Result Next undef execOp TypeId TypeDesc)
def qoh(S:Nat->Prop)(w:World):Env:=⟨fun _=>none,S,[],w⟩
theorem q6l{P:Program}{S:Nat->Prop}{w:World}(h:∀b,S b->b<w.heap.size):Ok P (qoh S w) :=
 ⟨fun id o ho=>by simp[qoh]at ho,fun i j o1 o2 b C C' h1=>by simp[qoh]at h1,h⟩
theorem qqn{S:Nat->Prop}{w:World}{b:Nat}:¬Mut (qoh S w) b:=by
 rintro⟨id,o,C,h,_⟩
 simp[qoh]at h
theorem zbq{E:Env}{v:V}{u:Value}(hp:v.pure=true)(h:rel E v u):rel (qoh E.S E.w) v u :=
 qds (n:=0) (E:=E) (E':=qoh E.S E.w) ⟨rfl,fun _ h=>h,fun _ hi=>absurd hi (Nat.not_lt_zero _)⟩ v u hp h
theorem q6m{E:Env}{vs:List V}{us:List Value}(hp:zdz vs=true)(h:qai E vs us):qai (qoh E.S E.w) vs us :=
 qhs (n:=0) (E:=E) (E':=qoh E.S E.w) ⟨rfl,fun _ h=>h,fun _ hi=>absurd hi (Nat.not_lt_zero _)⟩ vs us hp h
def qbu(E:Env)(S':Nat->Prop)(E':Env):Env:=⟨fun i=>if i<E.h.length then E.b i else E'.b (i-E.h.length),S',E.h++E'.h,E'.w⟩
theorem qnf{E E':Env}{S':Nat->Prop}{i:Nat}{o:Ob}(h:(qbu E S' E').h[i]?=some o):(i<E.h.length/\E.h[i]?=some o/\(qbu E S' E').b i=E.b i)\/(E.h.length<=i/\E'.h[i-E.h.length]?=some o/\(qbu E S' E').b i=E'.b (i-E.h.length)):=by
 simp only[qbu]at h ⊢
 by_cases hi:i<E.h.length
 .rw[jI hi]at h
  exact .inl ⟨hi,h,if_pos hi⟩
 .rw[jJ (by omega)]at h
  exact .inr ⟨by omega,h,if_neg hi⟩
theorem q2t{P:Program}{E E':Env}{S1 S':Nat->Prop}(hE:Ok P E)(hE':Ok P E')(x:Ext (qoh S1 E.w) E')(harr:E'.h.all (fun o=>o.k.isArr)=true)
  (hS:∀b,E.S b->S' b) (hback:∀b,b<E.w.heap.size->S' b->E.S b) (hS':∀b,S' b->E'.S b)
  (hrow:∀(j:Nat) g n els b,E'.h[j]?=some ⟨g,.arr n els⟩->qar E' n els b 0->qar (qbu E S' E') n els b 0):Ok P (qbu E S' E')/\Ext E (qbu E S' E'):=by
 have keep:∀b,b<E.w.heap.size->E'.w.heap[b]?=E.w.heap[b]?:=fun b hb=>x.keep b hb qqn
 have newm:∀b,Mut E' b->¬b<E.w.heap.size:=fun b hm hb=>qqn (x.muts b hb hm)
 have hgetlow:∀i,i<E.h.length->(qbu E S' E').h[i]?=E.h[i]?:=fun i hi=>jI hi
 have hblow:∀i,i<E.h.length->(qbu E S' E').b i=E.b i:=fun i hi=>if_pos hi
 have X:Ext E (qbu E S' E'):=by
  refine⟨⟨hS,x.size,fun b hb _=>keep b hb,fun b hb hm=>?_,by simp[qbu],fun i hi=>?_,fun i o' hi ho' _=>?_,x.os,x.output,fun i o' hi ho'=>?_⟩,fun b hb h=>.inl (hback b hb h),fun i g cells h1 h2 _=>⟨by rw[hgetlow i (qbi h1)];exact h1,by rw[hblow i (qbi h1)];exact h2⟩⟩
  .obtain⟨i,o,C,h1,h2,h3⟩:=hm
   rcases qnf h1 with⟨_,q1,q2⟩ | ⟨_,q1,q2⟩
   .exact⟨i,o,C,q1,by rw[<-q2];exact h2,h3⟩
   .exact absurd hb (newm b ⟨_,o,C,q1,by rw[<-q2];exact h2,h3⟩)
  .simp only[qgg,hgetlow i hi];exact jD _
  .exact⟨o',by rw[<-hgetlow i hi];exact ho',rfl,rfl,jD _,fun z hz=>by rw[hblow i hi];exact hz,fun _=>hblow i hi⟩
  .exact⟨o',by rw[<-hgetlow i hi];exact ho',rfl⟩
 refine⟨⟨fun i o ho=>?_,fun i j o1 o2 b C C' h1 h2 f1 f2 b1 b2=>?_,fun b hb=>hE'.S b (hS' b hb)⟩,X⟩
 .rcases qnf ho with⟨hi,q1,q2⟩ | ⟨hi,q1,q2⟩
  .refine qgz hE X (hE.obj i o q1) q2 fun b C hb=>⟨keep b (hE.bound q1 hb),fun hf hSb=>?_⟩
   exact hE.notS q1 hf hb (hback b (hE.bound q1 hb) hSb)
  .have hr:=hE'.obj _ o q1
   have ha:o.k.isArr=true:=(jP.1 harr) o (jR q1)
   obtain⟨g,k⟩:=o
   cases k<;>try (simp[K.isArr]at ha;done)
   rename_i n els
   unfold qes at hr ⊢
   rw[q2]
   refine⟨hr.1,hr.2.imp (fun h=>h) ?_⟩
   rintro⟨b,C,cs,ty,r1,r2,r3,r4,r5,r6,r7⟩
   exact⟨b,C,cs,ty,r1,fun h=>r2 (hS' b h),r3,r4,r5,r6,hrow _ _ _ _ _ q1 r7⟩
 .rcases qnf h1 with⟨l1,p1,p2⟩ | ⟨l1,p1,p2⟩<;>rcases qnf h2 with⟨l2,q1,q2⟩ | ⟨l2,q1,q2⟩
  .exact hE.inj i j o1 o2 b C C' p1 q1 f1 f2 (by rw[<-p2];exact b1) (by rw[<-q2];exact b2)
  .have h3:=hE.bound p1 (by rw[<-p2];exact b1)
   exact absurd h3 (newm b ⟨_,o2,C',q1,by rw[<-q2];exact b2,f2⟩)
  .have h3:=hE.bound q1 (by rw[<-q2];exact b2)
   exact absurd h3 (newm b ⟨_,o1,C,p1,by rw[<-p2];exact b1,f1⟩)
  .have:=hE'.inj _ _ o1 o2 b C C' p1 q1 f1 f2 (by rw[<-p2];exact b1) (by rw[<-q2];exact b2)
   omega
theorem qce{E E':Env}{S':Nat->Prop}(i:Nat):(qbu E S' E').h[E.h.length+i]?=E'.h[i]?/\(qbu E S' E').b (E.h.length+i)=E'.b i:=by
 constructor
 .simp only[qbu]
  rw[jJ (by omega),Nat.add_sub_cancel_left]
 .simp only[qbu]
  rw[if_neg (by omega),Nat.add_sub_cancel_left]
theorem qyo{E E':Env}{S':Nat->Prop}(i:Nat):qgg (qbu E S' E').h (E.h.length+i)=qgg E'.h i:=by
 simp only[qgg,(qce (E:=E) (E':=E') (S':=S') i).1]
theorem q3l{E E':Env}{S':Nat->Prop}{id g n off len:Nat}{u:Value}(h:rel E' (.sl id g n off len) u):rel (qbu E S' E') (.sl (E.h.length+id) g n off len) u:=by
 unfold rel at *
 obtain⟨h1,h2,a,cap,h3,h4,h5,h6,h7⟩:=h
 refine⟨by simp[qbu,h1],by rw[qyo];exact h2,a,cap,h3,h4,h5,h6,fun o ho=>?_⟩
 rw[(qce id).1]at ho
 rw[(qce id).2]
 exact h7 o ho
theorem qsp(n:Nat):∀vs:List V,(qdg n vs).length=vs.length
 | []=>rfl
 | v :: vs=>by simp only[qdg,List.length_cons,qsp n vs]
mutual
theorem qsq{E E':Env}{S':Nat->Prop}(hS:∀b,E'.S b->S' b):∀(v:V) (u:Value),rel E' v u->rel (qbu E S' E') (qcl E.h.length v) u
 | .undef,_,_=>by unfold qcl rel;trivial
 | .bool b,u,h=>by simp only[qcl];unfold rel at *;exact h
 | .int k n,u,h=>by simp only[qcl];unfold rel at *;exact h
 | .str s,u,h=>by simp only[qcl];unfold rel at *;exact h
 | .nils,u,h=>by simp only[qcl];unfold rel at *;exact h
 | .imm els,u,h=>by
  simp only[qcl]
  exact qds (n:=0) (E:=E') (E':=qbu E S' E') ⟨rfl,hS,fun i hi=>absurd hi (Nat.not_lt_zero _)⟩ _ _ rfl h
 | .immc els,u,h=>by
  simp only[qcl]
  exact qds (n:=0) (E:=E') (E':=qbu E S' E') ⟨rfl,hS,fun i hi=>absurd hi (Nat.not_lt_zero _)⟩ _ _ rfl h
 | .iptr cells,u,h=>by
  simp only[qcl]
  exact qds (n:=0) (E:=E') (E':=qbu E S' E') ⟨rfl,hS,fun i hi=>absurd hi (Nat.not_lt_zero _)⟩ _ _ rfl h
 | .bptr id off,u,h=>by
  simp only[qcl]
  unfold rel at *
  obtain⟨h1,b,y,h2,h3⟩:=h
  refine⟨by simp[qbu,h1],b,y,h2,fun o ho=>?_⟩
  rw[(qce id).1]at ho
  rw[(qce id).2]
  exact h3 o ho
 | .ptr id g el off,u,h=>by
  simp only[qcl]
  unfold rel at *
  obtain⟨h1,h0,b,y,h2,h3⟩:=h
  refine⟨by simp[qbu,h1],by rw[qyo];exact h0,b,y,h2,fun o ho=>?_⟩
  rw[(qce id).1]at ho
  rw[(qce id).2]
  exact h3 o ho
 | .sl id g n off len,u,h=>by
  simp only[qcl]
  exact q3l h
 | .bsl id off n len,u,h=>by
  simp only[qcl]
  unfold rel at *
  obtain⟨h1,b,y,cap,h2,hc,h3⟩:=h
  refine⟨by simp[qbu,h1],b,y,cap,h2,hc,fun hn o ho=>?_⟩
  rw[(qce id).1]at ho
  rw[(qce id).2]
  exact h3 hn o ho
 | .agg cs,u,h=>by
  simp only[qcl]
  unfold rel at *
  obtain⟨us,h1,h2⟩:=h
  exact⟨us,h1,qij hS cs us.toList h2⟩
 | .tup cs,u,h=>by
  simp only[qcl]
  unfold rel at *
  obtain⟨us,h1,h2⟩:=h
  exact⟨us,h1,qij hS cs us.toList h2⟩
 | .fn f a c,u,h=>by
  simp only[qcl]
  unfold rel at *
  obtain⟨a',c',h1,h2,h3⟩:=h
  exact⟨a',c',h1,qij hS a a'.toList h2,qij hS c c'.toList h3⟩
 | .ub,u,h=>by simp only[qcl];unfold rel at *;exact h
 | .nilfn,u,h=>by simp only[qcl];unfold rel at *;exact h
 | .nilp,u,h=>by simp only[qcl];unfold rel at *;exact h
 | .map id,u,h=>by
  simp only[qcl]
  unfold rel at *
  obtain⟨h1,b,h2,h3⟩:=h
  refine⟨by simp[qbu,h1],b,h2,fun o ho=>?_⟩
  rw[(qce id).1]at ho
  rw[(qce id).2]
  exact h3 o ho
 | .sit id,u,h=>by
  simp only[qcl]
  unfold rel at *
  obtain⟨h1,b,h2,h3⟩:=h
  refine⟨by simp[qbu,h1],b,h2,fun o ho=>?_⟩
  rw[(qce id).1]at ho
  rw[(qce id).2]
  exact h3 o ho
 | .yld id,u,h=>by
  simp only[qcl]
  unfold rel at *
  obtain⟨h1,b,h2,h3⟩:=h
  refine⟨by simp[qbu,h1],b,h2,fun o ho=>?_⟩
  rw[(qce id).1]at ho
  rw[(qce id).2]
  exact h3 o ho
 | .view p cells,u,h=>by
  simp only[qcl]
  unfold rel at *
  obtain⟨b,o,h1,h2,h3⟩:=h
  exact⟨b,o,hS b h1,qsr hS cells b o h2,by rw[qsp];exact h3⟩
theorem qsr{E E':Env}{S':Nat->Prop}(hS:∀b,E'.S b->S' b):∀(vs:List V) (b o:Nat),qbf E' vs b o->qbf (qbu E S' E') (qdg E.h.length vs) b o
 | [],_,_,_=>by simp only[qdg];unfold qbf;trivial
 | v :: vs,b,o,h=>by
  simp only[qdg]
  unfold qbf at *
  obtain⟨⟨u,h1,h2⟩,h3⟩:=h
  exact⟨⟨u,h1,qsq hS v u h2⟩,qsr hS vs b (o+1) h3⟩
theorem qij{E E':Env}{S':Nat->Prop}(hS:∀b,E'.S b->S' b):∀(vs:List V) (us:List Value),qai E' vs us->qai (qbu E S' E') (qdg E.h.length vs) us
 | [],us,h=>by simp only[qdg];unfold qai at *;exact h
 | v :: vs,us,h=>by
  simp only[qdg]
  unfold qai at *
  obtain⟨u,us',h1,h2,h3⟩:=h
  exact⟨u,us',h1,qsq hS v u h2,qij hS vs us' h3⟩
end
theorem zag{E E':Env}{v:V}{u:Value}(hv:v.scal1=true)(h:rel E v u):rel E' v u:=by
 cases v<;>first | (simp[V.scal1]at hv;done) | (unfold rel at *;exact h)
theorem qus{E E':Env}(hw:E'.w=E.w):∀{vs:List V} {b o:Nat},vs.all V.scal1=true->qbf E vs b o->qbf E' vs b o
 | [],_,_,_,_=>by unfold qbf;trivial
 | v :: vs,b,o,hv,h=>by
  simp only[List.all_cons,jE]at hv
  unfold qbf at *
  obtain⟨⟨u,h1,h2⟩,h3⟩:=h
  exact⟨⟨u,by rw[hw];exact h1,zag hv.1 h2⟩,qus hw hv.2 h3⟩
theorem qpy{E E':Env}(hw:E'.w=E.w){n:Nat}:∀{rs:List (List V)} {b o:Nat},(rs.all fun r=>r.all V.scal1)=true->qar E n rs b o->qar E' n rs b o
 | [],_,_,_,_=>by unfold qar;trivial
 | r :: rs,b,o,hv,h=>by
  simp only[List.all_cons,jE]at hv
  unfold qar at *
  exact⟨h.1,qus hw (by simpa using hv.1) h.2.1,qpy hw hv.2 h.2.2⟩
theorem qsi{E E':Env}{S':Nat->Prop}{v:V}{u:Value}(hv:v.safe1=true)(h:rel E' v u):rel (qbu E S' E') (qcl E.h.length v) u:=by
 cases v<;>try (simp[V.safe1]at hv;done)
 case sl=>simp only[qcl];exact q3l h
 all_goals
  simp only[qcl]
  unfold rel at *
  exact h
theorem qze{E E':Env}{S':Nat->Prop}:∀{vs:List V} {us:List Value},vs.all V.safe1=true->qai E' vs us->qai (qbu E S' E') (qdg E.h.length vs) us
 | [],us,_,h=>by simp only[qdg];unfold qai at *;exact h
 | v :: vs,us,hv,h=>by
  simp only[List.all_cons,jE]at hv
  simp only[qdg]
  unfold qai at *
  obtain⟨u,us',h1,h2,h3⟩:=h
  exact⟨u,us',h1,qsi hv.1 h2,qze hv.2 h3⟩
theorem q3h{E E':Env}{S':Nat->Prop}{cs:List V}{u:Value}(hv:cs.all V.safe1=true)(h:rel E' (.agg cs) u):rel (qbu E S' E') (qcl E.h.length (.agg cs)) u:=by
 simp only[qcl]
 unfold rel at *
 obtain⟨us,h1,h2⟩:=h
 exact⟨us,h1,qze hv h2⟩
theorem qzf{E E':Env}{S':Nat->Prop}:∀{vs:List V} {us:List Value},(vs.all fun v=>match v with | .agg cs=>cs.all V.safe1 | v=>v.safe1)=true->qai E' vs us->qai (qbu E S' E') (qdg E.h.length vs) us
 | [],us,_,h=>by simp only[qdg];unfold qai at *;exact h
 | v :: vs,us,hv,h=>by
  simp only[List.all_cons,jE]at hv
  simp only[qdg]
  unfold qai at *
  obtain⟨u,us',h1,h2,h3⟩:=h
  refine⟨u,us',h1,?_,qzf hv.2 h3⟩
  cases v<;>try exact qsi hv.1 h2
  exact q3h hv.1 h2
theorem zeg{E E':Env}{S':Nat->Prop}{v:V}{u:Value}(hv:v.safe=true)(h:rel E' v u):rel (qbu E S' E') (qcl E.h.length v) u:=by
 cases v<;>try exact qsi hv h
 case agg cs=>exact q3h hv h
 case tup vs =>
  simp only[qcl]
  unfold rel at *
  obtain⟨us,h1,h2⟩:=h
  exact⟨us,h1,qzf hv h2⟩
end Go.Am
/- Calls. -/
namespace Go.Am
open Go (World Value Addr Obj Program Act Operand Oper Op Sem Result Next undef execOp TypeId TypeDesc Ending CallsIn RoundIn Fence)
def Ret(P:Program)(E:Env)(v:V)(h':H):Ending->World->Prop:=fun e w'=>∃E' u,e=.returned u/\Ok P E'/\Ext E E'/\E'.w=w'/\E'.h=h'/\rel E' v u
def zpm(P:Program)(self:Q->Option R):Prop:=∀(fid:Nat) (first caps args:List V) (E:Env) (res:R) (us:Array Value),Ok P E->qai E (first++args++caps) us.toList->self (.call (.fn fid first caps) args E.h)=some res ->
 (∃ fn, P.funcs[fid]? = some fn ∧ fn.name ≠ "runtime.NumGoroutine" ∧ fn.body.isSome = true) ∧ CallsIn Fence.wide 0 P fid us E.w (Ret P E res.v res.st.h)
def qzo(L:Go.Loop)(us:Array Value):Array Value:=(L.params.zip us).foldl (fun tmps (t,a)=>tmps.setIfInBounds t a) L.tmps
def q6e(P:Program)(self:Q->Option R):Prop:=∀(l:Nat) (args:List V) (E:Env) (res:R) (us:Array Value),Ok P E->qai E args us.toList->self (.call (.yld l) args E.h)=some res ->
 ∃b C L,E.b l=some (b,C)/\(∃o,E.h[l]?=some o/\qgo o.k=4)/\E.w.heap[b]?=some (.loop L)/\us.size=L.params.size/\RoundIn Fence.wide 0 P b L.fn (qzo L us) L.assign L.body E.w (Ret P E res.v res.st.h)
def Goes(P:Program)(u:Value)(us:Array Value)(w:World)(K:Ending->World->Prop):Prop :=
 ∃d,(Go.Deferred.ofValue u us).run P w=.ok d w/\((∃fid as,(Go.invoke d.target d.args).run P w=.ok (.enter fid as) w/\CallsIn Fence.wide 0 P fid as w K) \/
  ∃l fn tmps assign body,(Go.invoke d.target d.args).run P w=.ok (.round l fn tmps assign body) w/\RoundIn Fence.wide 0 P l fn tmps assign body w K)
theorem Goes.mono{P:Program}{u:Value}{us:Array Value}{w:World}{K K':Ending->World->Prop}(h:Goes P u us w K)(hk:∀e w',K e w'->K' e w'):Goes P u us w K':=by
 obtain⟨d,h1,h2⟩:=h
 refine⟨d,h1,?_⟩
 rcases h2 with⟨fid,as,h3,h4⟩ | ⟨l,fn,tmps,as,bd,h3,h4⟩
 .exact .inl ⟨fid,as,h3,h4.mono hk⟩
 .exact .inr ⟨l,fn,tmps,as,bd,h3,h4.mono hk⟩
theorem qvj{P:Program}{self:Q->Option R}(hF:zpm P self)(hY:q6e P self)(hk:∀f args h res,self (.call f args h)=some res->(∃a b c,f=.fn a b c/\a<1000000)\/∃l,f=.yld l)
  {E:Env} (hE:Ok P E) {f:V} {u:Value} (hf:rel E f u) {args:List V} {us:Array Value} (ha:qai E args us.toList) {res:R} (h:self (.call f args E.h)=some res):Goes P u us E.w (Ret P E res.v res.st.h):=by
 rcases hk _ _ _ _ h with⟨fid,first,caps,rfl,hlt⟩ | ⟨l,rfl⟩
 .unfold rel at hf
  obtain⟨a',c',hu | hu,h1,h2⟩:=hf
  case inr=>exact absurd hu.1 (by omega)
  obtain⟨_,rfl⟩:=hu
  have hr:qai E (first++args++caps) ((a'++us)++c').toList:=by simpa using qbw (qbw h1 ha) h2
  obtain⟨⟨fn,q1,q2,q3⟩,q4⟩:=hF fid first caps args E res _ hE hr h
  refine⟨_,rfl,.inl ⟨fid,(a'++us)++c',?_,q4⟩⟩
  have hb:fn.body≠none:=by intro hb;rw[hb]at q3;cases q3
  simp[Go.invoke,Go.callFunc,q1,q2,hb]
 .unfold rel at hf
  obtain⟨hlt,b,rfl,h1⟩:=hf
  obtain⟨b',C,L,q1,⟨o,q2,q3⟩,q4,q5,q6⟩:=hY l args E res us hE ha h
  obtain⟨C',h2⟩:=h1 o q2 q3
  rw[q1]at h2
  cases h2
  refine⟨{ target:=.fn (.yield b) #[],args:=#[]++us },rfl,.inr ⟨b,L.fn,qzo L us,L.assign,L.body,?_,q6⟩⟩
  have hsz:¬(us.size≠L.params.size):=by simp[q5]
  have hgl:(Go.Instr.getLoop b).run P E.w=.ok L E.w:=by simp[Go.Instr.getLoop,Go.getObj,Sem.run,q4]
  simp only[Go.invoke,Go.Instr.yield,Sem.run_bind,hgl,Go.Result.andThen_ok,Array.empty_append,hsz,if_false]
  simp[qzo]
theorem q1v{P:Program}{pg:Prg}{self:Q->Option R}(hF:zpm P self)(hY:q6e P self)(hk:∀f args h res,self (.call f args h)=some res->(∃a b c,f=.fn a b c/\a<1000000)\/∃l,f=.yld l)
  {E:Env} (hE:Ok P E) {f:V} {u:Value} (hf:rel E f u) {args:List V} {us:Array Value} (ha:qai E args us.toList) {v:V} {h':H} (h:qjq pg self f args E.h=some (v,h')):Goes P u us E.w (Ret P E v h'):=by
 unfold qjq at h
 split at h
 .cases e:self (.call f args E.h)with
  | none=>rw[e]at h;cases h
  | some r =>
   rw[e]at h
   cases h
   exact qvj hF hY hk hE hf ha e
 .obtain⟨E1,b1,b2,b3,b4,b5,b6⟩:=q0k hE args
  have hf1:=qdk hE b2.toExt0 _ _ hf
  have ha1:=qow hE b2 b4 ha b6
  simp only at h
  split at h
  .rename_i hp
   simp only[jE]at hp
   cases e:self (.call f (args.map (qgb E.h)) [])with
   | none=>rw[e]at h;cases h
   | some r =>
    rw[e]at h
    simp only at h
    split at h
    .rename_i harr
     cases h
     have hB:Ok P (qoh E1.S E1.w):=q6l b1.S
     have hg:=qvj hF hY hk hB (zbq hp.1 hf1) (q6m hp.2 ha1) e
     rw[show(qoh E1.S E1.w).w=E.w from b4]at hg
     refine hg.mono ?_
     rintro e' w' ⟨E',u',rfl,c1,c2,rfl,c3,c4⟩
     have harr':E'.h.all (fun o=>o.k.isArr)=true:=by rw[c3];exact harr
     split
     .rename_i hs
      simp only[jE]at hs
      rw[b4]at c2
      obtain⟨m1,m2⟩:=q2t (S':=E.S) hE c1 c2 harr' (fun _ h=>h) (fun _ _ h=>h) (fun b h=>c2.S b (b2.S b h)) (fun j g n els b hj hr=>by
       refine qpy (E:=E') (E':=qbu E E.S E') rfl ?_ hr
       have:=(jP.1 hs.2) _ (by rw[<-c3];exact jR hj)
       simpa[K.safe]using this)
      refine⟨_,u',rfl,m1,m2,rfl,by simp[qbu,c3],zeg hs.1 c4⟩
     .rw[<-b3]
      obtain⟨m1,m2⟩:=q2t (S':=E'.S) b1 c1 c2 harr' c2.S (fun b hb h=>(c2.back b hb h).resolve_right qqn) (fun _ h=>h) (fun j g n els b hj hr=>by
       have hro:=c1.obj j _ hj
       unfold qes at hro
       exact qcs (n:=0) (E:=E') (E':=qbu E1 E'.S E') ⟨rfl,fun _ h=>h,fun i hi=>absurd hi (Nat.not_lt_zero _)⟩ _ _ _ _ hro.1 hr)
      refine⟨_,u',rfl,m1,b2.trans m2,rfl,by simp[qbu,c3],qsq (fun _ h=>h) _ _ c4⟩
    .cases h
  .cases e:self (.call f (args.map (qgb E.h)) (q4r E.h args))with
   | none=>rw[e]at h;cases h
   | some r =>
    rw[e]at h
    cases h
    rw[<-b3]at e
    have hg:=qvj hF hY hk b1 hf1 ha1 e
    rw[b4]at hg
    refine hg.mono ?_
    rintro e' w' ⟨E',u',rfl,c1,c2,c3,c4,c5⟩
    exact⟨E',u',rfl,c1,b2.trans c2,c3,c4,c5⟩
theorem q4j{pg:Prg}{self:Q->Option R}(hk:∀f args h res,self (.call f args h)=some res->(∃a b c,f=.fn a b c/\a<1000000)\/∃l,f=.yld l){f:V}{args:List V}{h:H}{p:V×H}(e:qjq pg self f args h=some p):(∃a b c,f=.fn a b c/\a<1000000)\/∃l,f=.yld l:=by
 apply Classical.byContradiction
 intro hno
 have hn:∀a h,self (.call f a h)=none:=by
  intro a h
  cases e1:self (.call f a h)with
  | none=>rfl
  | some r=>exact absurd (hk _ _ _ _ e1) hno
 unfold qjq at e
 simp only[hn]at e
 split at e
 .cases e
 .split at e<;>cases e
theorem q5d{P:Program}{name:String}{t:TypeId}{f:Nat}(h:qrr P name t=some f)(n:Nat)(w:Value)(W:World):(Go.method (n+1) t w name).run P W=.ok (f,w) W:=by
 unfold qrr at h
 split at h
 .rename_i i hi
  split at h
  .rename_i m hm
   have h1:=Go.run_typeInfo (P:=P) (w:=W) hi
   have key:∀pr,m.func=some (f,pr)->m.path=#[]->(∃d,P.underlying t=some d/\((∃e,d=.pointer e)/\pr=true\/(∀e,d ≠ .pointer e)/\pr=false))->(Go.method (n+1) t w name).run P W=.ok (f,w) W:=by
    intro pr hf hp ⟨d,hd,hdp⟩
    unfold Go.method
    simp only[Sem.run_bind,h1,Go.Result.andThen_ok,hm,hp,Go.follow,Sem.run_pure,hf,Go.receiverAt,Go.run_underlying hd]
    rcases hdp with⟨⟨e,rfl⟩,rfl⟩ | ⟨hne,rfl⟩
    .simp[Go.Place.get]
    .cases d<;>simp_all [Go.Place.get]
   split at h
   .rename_i f' pr e hf hd
    split at h
    .rename_i hh
     cases h
     exact key pr hf hh.1 ⟨_,hd,.inl ⟨⟨_,rfl⟩,hh.2⟩⟩
    .cases h
   .rename_i f' pr d hne hf hd
    split at h
    .rename_i hh
     cases h
     exact key pr hf hh.1 ⟨_,hd,.inr ⟨fun e he=>hne e he,hh.2⟩⟩
    .cases h
   .cases h
  .cases h
 .cases h
theorem q9k{P:Program}{name:String}{k f:Nat}(h:zpl (qwc P name) k=some f):∃t,k=t+1000000/\qrr P name t=some f:=by
 have key:∀l:List Nat,zpl (l.filterMap fun t=>(qrr P name t).map fun f=>(t,f)) k=some f->∃t,k=t+1000000/\qrr P name t=some f:=by
  intro l
  induction l with
  | nil=>intro h;cases h
  | cons t l ih =>
   intro h
   simp only[List.filterMap_cons]at h
   cases hm:qrr P name t with
   | none=>rw[hm]at h;exact ih h
   | some g =>
    rw[hm]at h
    simp only[Option.map_some,zpl]at h
    split at h
    .rename_i hk;cases h;exact⟨t,hk,hm⟩
    .exact ih h
 exact key _ h
theorem zrq{P:Program}{pg:Prg}{self:Q->Option R}(hF:zpm P self)(hY:q6e P self)(hk:∀f args h res,self (.call f args h)=some res->(∃a b c,f=.fn a b c/\a<1000000)\/∃l,f=.yld l)
  {E:Env} (hE:Ok P E) {x:V} {u:Value} {name:String} (hx:rel E x u) {args:List V} {us:Array Value} (ha:qai E args us.toList) {v:V} {h':H} (h:qjq pg self (zzf (qwc P name) x) args E.h=some (v,h')) :
  (∃fid as,(Go.invoke (.fn (.method name) #[]) (#[u]++us)).run P E.w=.ok (.enter fid as) E.w/\CallsIn Fence.wide 0 P fid as E.w (Ret P E v h')) \/
  ∃l fn tmps assign body,(Go.invoke (.fn (.method name) #[]) (#[u]++us)).run P E.w=.ok (.round l fn tmps assign body) E.w/\RoundIn Fence.wide 0 P l fn tmps assign body E.w (Ret P E v h'):=by
 have hne:=q4j hk h
 unfold zzf at h hne
 split at h
 .rename_i k y
  split at h
  .rename_i f hf
   obtain⟨t,rfl,hm⟩:=q9k hf
   unfold rel at hx
   obtain⟨a',c',hu,h1,h2⟩:=hx
   have hc:c'=#[]:=by simpa[qai]using h2
   subst hc
   obtain⟨w,rfl⟩:∃w,a'=#[w]:=by
    simp only[qai]at h1
    obtain⟨w,r,e,_,rfl⟩:=h1
    exact⟨w,Array.ext' (by simpa using e)⟩
   have hu:u=.iface t w:=by
    rcases hu with hu | ⟨_,_,w',e1,e2⟩
    .exact absurd hu.1 (Nat.not_lt.2 (Nat.le_add_left _ _))
    .have e3:w'=w:=by simpa using e1.symm
     rw[e2,e3,Nat.add_sub_cancel]
   subst hu
   have hrun:∀nx,(Go.callFunc f (#[w]++us)).run P E.w=.ok nx E.w->(Go.invoke (.fn (.method name) #[]) (#[Value.iface t w]++us)).run P E.w=.ok nx E.w:=by
    intro nx hn
    have e1:(#[Value.iface t w]++us)[0]?=some (Value.iface t w):=by rw[Array.getElem?_append_left (by simp)];rfl
    have e2:(#[Value.iface t w]++us).extract 1 (#[Value.iface t w]++us).size=us:=by simp
    simp only[Go.invoke,e1,e2,Go.callMethod,Sem.run_bind,Go.run_program,Go.Result.andThen_ok]
    rw[show P.types.size+Go.Made.depth=(P.types.size+99)+1 from rfl,q5d hm]
    exact hn
   have hf2:f<1000000:=by
    simp only[hf]at hne
    rcases hne with⟨_,_,_,e,hl⟩ | ⟨_,e⟩
    .cases e;exact hl
    .cases e
   obtain⟨dd,g1,g2⟩:=q1v hF hY hk hE (f:=.fn f [y] []) (u:=.func (.func f) #[w] #[]) (by
    unfold rel
    exact⟨_,_,.inl ⟨hf2,rfl⟩,h1,h2⟩) ha h
   have hd:dd={ target:=.fn (.func f) #[],args:=#[w]++us }:=by
    simp[Go.Deferred.ofValue,Sem.run_pure]at g1
    exact g1.symm
   subst hd
   simp only[Go.invoke,Array.append_empty]at g2
   rcases g2 with⟨a,b,g3,g4⟩ | ⟨a,b,c,d,e,g3,g4⟩
   .exact .inl ⟨a,b,hrun _ g3,g4⟩
   .exact .inr ⟨a,b,c,d,e,hrun _ g3,g4⟩
  .rename_i hno
   simp only[hno]at hne
   rcases hne with⟨_,_,_,e,_⟩ | ⟨_,e⟩<;>cases e
 .rename_i hno
  rcases hne with⟨_,_,_,e,_⟩ | ⟨_,e⟩
  all_goals
   split at e
   .exact(hno _ _ rfl).elim
   .cases e
end Go.Am
/- Regions that draw nothing. -/
namespace Go.Am
open Go (World Value Addr Obj Program Act Operand Oper Op Sem Result Next undef execOp TypeId TypeDesc Ending CallsIn RoundIn Fence Exit)
def F0(r:Option Nat):Fence:={ Fence.wide with round:=r }
structure SelfOk(P:Program)(sf:Q->Option R):Prop where
 fn:zpm P sf
 yld:q6e P sf
 kind:∀f args h res,sf (.call f args h)=some res->(∃a b c,f=.fn a b c/\a<1000000)\/∃l,f=.yld l
theorem qld{E:Env}{s:List V}{a:Act}(hs:qai E s a.tmps.toList)(d:Option Nat){v:V}{u:Value}(h:rel E v u):qai E (qwz s d v) (a.put d u).tmps.toList:=by
 cases d with
 | none=>exact hs
 | some d =>
  simp only[qwz,Go.Act.put,Array.toList_setIfInBounds]
  exact qwm h d hs
theorem qfm(a:Act)(d:Option Nat)(u:Value):(a.put d u).defers=a.defers:=by cases d<;>rfl
theorem quz{P:Program}{E:Env}{s:List V}{a:Act}(hs:qai E s a.tmps.toList){ops:Array Oper}{o:Oper}{t:Bool}{d:Option Nat}{g:Option (Nat×Bool)}{q:O}(hi:cI P ops o=⟨d,g,q⟩)(hw:qbq s ⟨d,g,q⟩=some t) :
  d=o.dst/\(q=.stuck/\g=none\/(q=(cOp P o).getD .stuck/\Go.Region.wanted o (Go.yielded ops a.tmps)=t)):=by
 unfold cI at hi
 split at hi
 .rename_i hg
  simp only[I.mk.injEq]at hi
  obtain⟨rfl,rfl,rfl⟩:=hi
  simp only[qbq,jC]at hw
  subst hw
  exact⟨rfl,.inr ⟨rfl,by simp[Go.Region.wanted,hg]⟩⟩
 .rename_i j b hg
  split at hi
  .rename_i e he
   simp only[I.mk.injEq]at hi
   obtain⟨rfl,rfl,rfl⟩:=hi
   refine⟨rfl,.inr ⟨rfl,?_⟩⟩
   have hr:=qle e hs
   simp only[qbq]at hw
   have hy:Go.yielded ops a.tmps j=match a.tmps[e]? with | some (.bool b)=>some b | _=>none:=by
    unfold Go.yielded
    rw[he]
    rfl
   have hgd2:a.tmps.toList.getD e undef=(a.tmps[e]?).getD undef:=by simp
   rw[hgd2]at hr
   split at hw
   .rename_i t' ht'
    cases hw
    rw[ht']at hr
    unfold rel at hr
    have:a.tmps[e]?=some (.bool t'):=by
     cases h:a.tmps[e]? with
     | none=>rw[h]at hr;simp[undef]at hr
     | some u=>rw[h]at hr;simpa using hr
    simp[Go.Region.wanted,hg,hy,this]
   .rename_i ht'
    cases hw
    rw[ht']at hr
    unfold rel at hr
    obtain⟨us,hu,hl⟩:=hr
    have:∀b',a.tmps[e]?≠some (.bool b'):=by
     intro b' h
     rw[h]at hu
     cases hu
    have hy2:Go.yielded ops a.tmps j=none:=by
     rw[hy]
     split
     .rename_i b' h;exact absurd h (this b')
     .rfl
    simp[Go.Region.wanted,hg,hy2]
   .cases hw
  .simp only[I.mk.injEq]at hi
   exact⟨hi.1.symm,.inl ⟨hi.2.2.symm,hi.2.1.symm⟩⟩
theorem qsv{P:Program}{E:Env}{s:List V}{a:Act}(hs:qai E s a.tmps.toList){ops:Array Oper}{o:Oper}{t:Bool}{d:Option Nat}{g:Option (Nat×Bool)}{q:O}(hi:cI P ops o=⟨d,g,q⟩)(hq:q ≠ .stuck)(hw:qbq s ⟨d,g,q⟩=some t) :
  d=o.dst/\cOp P o=some q/\Go.Region.wanted o (Go.yielded ops a.tmps)=t:=by
 obtain⟨h1,h2 | ⟨h2,h3⟩⟩:=quz hs hi hw
 .exact absurd h2.1 hq
 .refine⟨h1,?_,h3⟩
  cases hc:cOp P o with
  | none=>rw[hc]at h2;exact absurd h2 hq
  | some y=>rw[hc]at h2;simp at h2;rw[h2]
theorem zom{P:Program}{E:Env}{s:List V}{a:Act}(hs:qai E s a.tmps.toList){ops:Array Oper}{o:Oper}{d:Option Nat}{g:Option (Nat×Bool)}{q:O}(hi:cI P ops o=⟨d,g,q⟩)(hw:qbq s ⟨d,g,q⟩=some false) :
  d=o.dst/\Go.Region.wanted o (Go.yielded ops a.tmps)=false:=by
 obtain⟨h1,h2 | ⟨h2,h3⟩⟩:=quz hs hi hw
 .rw[h2.2]at hw
  simp[qbq]at hw
 .exact⟨h1,h3⟩
theorem qrc{P:Program}{o:Oper}{q:O}(h:cOp P o=some q):∀c,o.op ≠ .defer c:=by
 intro c hc
 have h:=qmq h
 unfold zex at h
 rw[hc]at h
 cases h
theorem zbv{P:Program}{o:Oper}{f:A}{as:List A}(h0:cOp P o=some (.call f as)):∃c,o.op=.call c/\c.args.toList.mapM cA=some as/\((∃f0,c.callee=.value f0/\cA f0=some f)\/∃n name,c.callee=.invoke (.tmp n) name/\f=.m (qwc P name) n):=by
 have h:=qmq h0
 have hi:qvy o.op=true:=by
  unfold cOp at h0
  rw[h]at h0
  simpa[O.isCall,O.isAlloc,O.isMk]using h0
 unfold qvy at hi
 split at hi
 .rename_i c hop
  split at hi
  .rename_i f0 hc
   unfold zex at h
   rw[hop]at h
   simp only[hc,Option.bind_eq_bind,Option.pure_def,jB,jC]at h
   obtain⟨f',h1,as',h2,h3⟩:=h
   cases h3
   exact⟨c,hop,h2,.inl ⟨f0,hc,h1⟩⟩
  .rename_i r name hc
   unfold zex at h
   rw[hop]at h
   simp only[hc]at h
   cases r<;>simp only at h<;>try (cases h;done)
   split at h
   .simp only[Option.bind_eq_bind,Option.pure_def,jB,jC]at h
    obtain⟨as',h2,h3⟩:=h
    cases h3
    exact⟨c,hop,h2,.inr ⟨_,_,hc,rfl⟩⟩
   .cases h
  .cases hi
 .cases hi
theorem q6f{P:Program}{o:Oper}{zs:List V}(h0:cOp P o=some (.alloc zs)):∃e,o.op=.alloc e/\zeroCells P e=some zs:=by
 have h:=qmq h0
 have hi:qrn o.op=true:=by
  unfold cOp at h0
  rw[h]at h0
  simpa[O.isCall,O.isAlloc,O.isMk]using h0
 unfold qrn at hi
 split at hi
 .rename_i e hop
  unfold zex at h
  rw[hop]at h
  simp only[jB]at h
  obtain⟨z,h1,h2⟩:=h
  split at h2
  .cases h2
   exact⟨e,hop,by unfold zeroCells;rw[h1];rfl⟩
  .cases h2
 .cases hi
theorem zsk{P:Program}{o:Oper}{n b:Nat}{z:List V}{x y:A}(h0:cOp P o=some (.mkslice n b z x y)):∃t e l c zs,o.op=.makeSlice t l c/\P.underlying t=some (.slice e)/\zeroCells P e=some zs/\P.cellsOf e≠0/\zs.length=P.cellsOf e/\cA l=some x/\cA c=some y/\n=P.cellsOf e/\b=P.bytesOf e/\z=zs.map (qau []):=by
 have h:=qmq h0
 have hi:q8n o.op=true:=by
  unfold cOp at h0
  rw[h]at h0
  simpa[O.isCall,O.isAlloc,O.isMk]using h0
 unfold q8n at hi
 split at hi
 .rename_i t l c hop
  unfold zex at h
  rw[hop]at h
  simp only[Option.bind_eq_bind,Option.pure_def,jB]at h
  obtain⟨e,he,zs,hz,h⟩:=h
  split at h
  .rename_i hh
   simp only[jB,jC]at h
   obtain⟨l',h1,c',h2,h3⟩:=h
   cases h3
   have ht:P.underlying t=some (.slice e):=by
    unfold qer at he
    split at he
    .cases he;assumption
    .cases he
   exact⟨t,e,l,c,zs,hop,ht,hz,hh.1,hh.2,h1,h2,rfl,rfl,rfl⟩
  .cases h
 .cases hi
theorem zfb{P:Program}{pg:Prg}{self:Q->Option R}(hS:SelfOk P self){E:Env}(hE:Ok P E){s:List V}{a:Act}(hs:qai E s a.tmps.toList){ops:Array Oper}{o:Oper}{st':St}(h:exI pg self (cI P ops o) ⟨s,E.h⟩=some st')(ro:Option Nat) :
  (Go.Region.wanted o (Go.yielded ops a.tmps)=true/\∀(next:Act->World->Prop) (Qp:Exit->Act->World->Prop),(∀E' a',Ok P E'->Ext E E'->E'.h=st'.h->qai E' st'.s a'.tmps.toList->a'.defers=a.defers->next a' E'.w)->o.wpIn (F0 ro) 0 P a E.w next Qp) \/
  (Go.Region.wanted o (Go.yielded ops a.tmps)=false/\qai E st'.s (a.put o.dst undef).tmps.toList/\st'.h=E.h):=by
 cases hi:cI P ops o with
 | mk d g q =>
  rw[hi]at h
  unfold exI at h
  cases hw:qbq s ⟨d,g,q⟩with
  | none=>simp only[hw]at h;cases h
  | some t =>
   simp only[hw]at h
   have hq:t=true->q ≠ .stuck:=by
    rintro rfl hq
    subst hq
    simp only[exO]at h
    cases h
   cases t with
   | false =>
    right
    simp only[jC]at h
    subst h
    obtain⟨h1,h2⟩:=zom hs hi hw
    exact⟨h2,by rw[h1];exact qld hs o.dst (by unfold rel;exact⟨#[],rfl,by simp[qai]⟩),rfl⟩
   | true =>
    left
    obtain⟨rfl,hc,hwd⟩:=qsv hs hi (hq rfl) hw
    refine⟨hwd,fun next Qp K=>⟨fun _ _=>trivial,?_⟩⟩
    rw[Go.Oper.semAt_eq _ _ _ (qrc hc)]
    by_cases hcall:q.isCall=true
    .cases q<;>try (simp[O.isCall]at hcall;done)
     rename_i f as
     simp only at h
     obtain⟨c,hop,h2,hsrc⟩:=zbv hc
     cases hco:qjq pg self (f.ev s) (as.map (A.ev s)) E.h with
     | none=>rw[hco]at h;cases h
     | some p =>
      obtain⟨v,h'⟩:=p
      rw[hco]at h
      cases h
      have hargs:qai E (as.map (A.ev s)) (c.args.map a.eval).toList:=by simpa using qiw hs h2
      have g2:(∃fid as',(execOp a.eval o).run P E.w=.ok (.enter fid as') E.w/\CallsIn Fence.wide 0 P fid as' E.w (Ret P E v h')) \/
        ∃l fn tmps assign body,(execOp a.eval o).run P E.w=.ok (.round l fn tmps assign body) E.w/\RoundIn Fence.wide 0 P l fn tmps assign body E.w (Ret P E v h'):=by
       rcases hsrc with⟨f0,hcal,h1⟩ | ⟨n,name,hcal,rfl⟩
       .obtain⟨dd,g1,g2⟩:=q1v hS.fn hS.yld hS.kind hE (qax hs h1) hargs hco
        have hex:∀nx,(Go.invoke dd.target dd.args).run P E.w=.ok nx E.w->(execOp a.eval o).run P E.w=.ok nx E.w:=by
         intro nx hnx
         simp only[execOp,hop,Go.resolve,hcal,Sem.run_bind,g1,Go.Result.andThen_ok,hnx]
        rcases g2 with⟨fid,as',g3,g4⟩ | ⟨l,fn,tmps,asg,bd,g3,g4⟩
        .exact .inl ⟨fid,as',hex _ g3,g4⟩
        .exact .inr ⟨l,fn,tmps,asg,bd,hex _ g3,g4⟩
       .have hx:rel E (qao s n) (a.eval (.tmp n)):=qax (o:=.tmp n) (x:=.t n) hs rfl
        have g2:=zrq hS.fn hS.yld hS.kind hE (name:=name) hx hargs hco
        have hex:∀nx,(Go.invoke (.fn (.method name) #[]) (#[a.eval (.tmp n)]++c.args.map a.eval)).run P E.w=.ok nx E.w->(execOp a.eval o).run P E.w=.ok nx E.w:=by
         intro nx hnx
         simp only[execOp,hop,Go.resolve,hcal,Sem.run_bind,Sem.run_pure,Go.Result.andThen_ok,hnx]
        rcases g2 with⟨fid,as',g3,g4⟩ | ⟨l,fn,tmps,asg,bd,g3,g4⟩
        .exact .inl ⟨fid,as',hex _ g3,g4⟩
        .exact .inr ⟨l,fn,tmps,asg,bd,hex _ g3,g4⟩
      have fin:∀e w',Ret P E v h' e w'->(match e with
        | .returned v=>next (a.put o.dst v) w'
        | .panicked chain=>Qp (.panic chain) a w'
        | .outgrown=>Go.LetsOut Qp):=by
       rintro e w' ⟨E',u,rfl,k1,k2,rfl,k3,k4⟩
       exact K E' _ k1 k2 k3 (qld (qbb hE k2.toExt0 _ _ hs) o.dst k4) (qfm _ _ _)
      rcases g2 with⟨fid,as',g3,g4⟩ | ⟨l,fn,tmps,asg,bd,g3,g4⟩
      .rw[g3,Go.Oper.uponIn_enter]
       refine⟨fun h=>by simp[F0,Fence.wide]at h,?_⟩
       have g5:CallsIn (F0 ro) 0 P fid as' E.w (Ret P E v h'):=g4
       exact g5.mono fun e w' he=>by have:=fin e w' he;cases e<;>exact this
      .rw[g3,Go.Oper.uponIn_round]
       refine⟨fun h=>by simp[F0,Fence.wide]at h,?_⟩
       have g5:RoundIn (F0 ro) 0 P l fn tmps asg bd E.w (Ret P E v h'):=g4
       exact g5.mono fun e w' he=>by have:=fin e w' he;cases e<;>exact this
    .have hx:∃v h',exO q s E.h=some (v,h')/\st'=⟨qwz s o.dst v,h'⟩:=by
      cases q<;>first
       | exact absurd rfl hcall
       | (simp only at h
          split at h
          .rename_i v h' e;cases h;exact⟨v,h',e,rfl⟩
          .cases h)
     obtain⟨v,h',hx,rfl⟩:=hx
     obtain⟨E',k1,k2,k3,res,k4,k5⟩:=q7z hE hs hc hx
     rw[k4]
     have hs':=qbb hE k2.toExt0 _ _ hs
     rcases k5 with⟨u,rfl,k6⟩ | ⟨rfl,rfl⟩
     .rw[Go.Oper.uponIn_value]
      exact K E' _ k1 k2 k3 (qld hs' o.dst k6) (qfm _ _ _)
     .rw[Go.Oper.uponIn_skip]
      exact K E' _ k1 k2 k3 (qld hs' o.dst (by unfold rel;trivial)) (qfm _ _ _)
theorem q7x{P:Program}{pg:Prg}{self:Q->Option R}(hS:SelfOk P self){ops:Array Oper}(ro:Option Nat){Qp:Exit->Act->World->Prop}:∀(l:List Nat) {E:Env} {s:List V} {a:Act} {st':St},(∀i∈l,i<ops.size)->Ok P E->qai E s a.tmps.toList ->
  exL pg self (l.map fun i=>cI P ops (ops.getD i default)) ⟨s,E.h⟩=some st'->(∀E' a',Ok P E'->Ext E E'->E'.h=st'.h->qai E' st'.s a'.tmps.toList->a'.defers=a.defers->Qp .normal a' E'.w)->Go.wpOpsIn (F0 ro) 0 P ops Qp l a E.w
 | [],E,s,a,st',_,hE,hs,h,K=>by
  simp only[List.map_nil,exL,jC]at h
  subst h
  exact K E a hE (Ext.refl E) rfl hs rfl
 | i :: l,E,s,a,st',hl,hE,hs,h,K=>by
  simp only[List.map_cons,exL]at h
  have hi:=hl i (by simp)
  have hget:ops[i]?=some (ops.getD i default):=by simp[Array.getD,hi]
  cases h1:exI pg self (cI P ops (ops.getD i default)) ⟨s,E.h⟩with
  | none=>rw[h1]at h;cases h
  | some st1 =>
   rw[h1]at h
   simp only at h
   unfold Go.wpOpsIn
   simp only[hget]
   rcases zfb hS hE hs h1 ro with⟨hw,k⟩ | ⟨hw,k1,k2⟩
   .rw[if_pos hw]
    refine k _ _ fun E' a' c1 c2 c3 c4 c5=>?_
    refine q7x hS ro l (fun j hj=>hl j (by simp[hj])) c1 c4 (by rw[c3];exact h) fun E'' a'' d1 d2 d3 d4 d5=>?_
    exact K E'' a'' d1 (c2.trans d2) d3 d4 (d5.trans c5)
   .rw[hw,if_neg (by simp)]
    refine⟨fun _ _=>trivial,?_⟩
    refine q7x hS ro l (fun j hj=>hl j (by simp[hj])) hE k1 (by rw[<-k2];exact h) fun E'' a'' d1 d2 d3 d4 d5=>?_
    exact K E'' a'' d1 d2 d3 d4 (d5.trans (qfm _ _ _))
theorem q5k{P:Program}{ops:Array Oper}:ops.toList.map (cI P ops)=(List.range ops.size).map fun i=>cI P ops (ops.getD i default):=by
 apply List.ext_getElem
 .simp
 .intro i h1 h2
  simp at h1
  simp[Array.getD,h1]
end Go.Am
/- Marks among the deferred calls;the world behind them. -/
namespace Go.Am
open Go (World Value Addr Obj Program Act Operand Oper Op Sem Result Next undef execOp TypeId TypeDesc Ending CallsIn RoundIn Fence Exit Deferred)
def qtz(r:Nat):Deferred:={ target:=.collected r,args:=#[] }
def qin(E E':Env)(M:List Nat):Prop:=M.Nodup/\∀r∈M,E.w.heap.size<=r/\E'.w.heap[r]?=some (.deferred (some []))
def zqp:X->Exit
 | .normal=>.normal
 | .exit id=>.exit id
 | .ret=>.ret
def qzt(P:Program)(E:Env)(a:Act)(res:R):Exit->Act->World->Prop:=fun e a' w'=>∃E' M,Ok P E'/\Ext E E'/\E'.w=w'/\E'.h=res.st.h/\qai E' res.st.s a'.tmps.toList/\e=zqp res.x/\a'.defers=M.map qtz++a.defers/\qin E E' M
theorem qwb{P:Program}{E:Env}(hE:Ok P E){r:Nat}{x:Option (List Deferred)}(h:E.w.heap[r]?=some (.deferred x)):¬Mut E r:=by
 rintro⟨id,o,C,ho,hb,hf⟩
 have hr:=hE.obj id o ho
 unfold qes at hr
 cases hk:o.k<;>rw[hk]at hr hf<;>try (simp[K.isFrz]at hf;done)
 case box cells =>
  rcases hr with h1 | ⟨b,C',cs,ty,q1,_,q3,_⟩
  .rw[hb]at h1;cases h1
  .rw[hb]at q1;cases q1;rw[h]at q3;cases q3
 case arr n els =>
  rcases hr.2 with h1 | ⟨b,C',cs,ty,q1,_,q3,_⟩
  .rw[hb]at h1;cases h1.1
  .rw[hb]at q1;cases q1;rw[h]at q3;cases q3
 case map es=>obtain⟨b,C',ms,cl,q1,_,q3,_⟩:=hr;rw[hb]at q1;cases q1;rw[h]at q3;cases q3
 case sit s p=>obtain⟨b,C',q1,_,q3⟩:=hr;rw[hb]at q1;cases q1;rw[h]at q3;cases q3
 case loop sl ps a c p=>obtain⟨b,C',L,q1,_,q3,_⟩:=hr;rw[hb]at q1;cases q1;rw[h]at q3;cases q3
theorem qym{P:Program}{E E1 E2:Env}(h1:Ok P E1)(x:Ext E1 E2){M:List Nat}(h:qin E E1 M):qin E E2 M :=
 ⟨h.1,fun r hr=>⟨(h.2 r hr).1,by
  have h3:=(h.2 r hr).2
  rw[x.keep r (qeb h3) (qwb h1 h3)];exact h3⟩⟩
theorem qlc{P:Program}{E E1:Env}{a a1:Act}{res:R}(h1:Ok P E1)(x:Ext E E1){M1:List Nat}(hd:a1.defers=M1.map qtz++a.defers)(hm:qin E E1 M1){e:Exit}{a2:Act}{w2:World}(h:qzt P E1 a1 res e a2 w2):qzt P E a res e a2 w2:=by
 obtain⟨E2,M2,k1,k2,k3,k4,k5,k6,k7,k8⟩:=h
 refine⟨E2,M2++M1,k1,x.trans k2,k3,k4,k5,k6,by rw[k7,hd,List.map_append,List.append_assoc],?_,?_⟩
 .rw[List.nodup_append]
  refine⟨k8.1,hm.1,fun p hp q hq=>?_⟩
  have:=(k8.2 p hp).1
  have:=qeb (hm.2 q hq).2
  omega
 .intro r hr
  rcases jQ.1 hr with hr | hr
  .exact⟨Nat.le_trans x.size (k8.2 r hr).1,(k8.2 r hr).2⟩
  .exact(qym h1 k2 hm).2 r hr
structure Sw(w w':World):Prop where
 size:w'.heap.size=w.heap.size
 keep:∀(b:Nat) (o:Obj),w.heap[b]?=some o->(∀x,o≠Obj.deferred x)->w'.heap[b]?=some o
 os:w'.os=w.os
 output:w'.output=w.output
theorem Sw.refl(w:World):Sw w w:=⟨rfl,fun _ _ h _=>h,rfl,rfl⟩
theorem Sw.trans{a b c:World}(h:Sw a b)(k:Sw b c):Sw a c :=
 ⟨k.size.trans h.size,fun i o hi hn=>k.keep i o (h.keep i o hi hn) hn,k.os.trans h.os,k.output.trans h.output⟩
theorem Sw.cell{w w':World}(h:Sw w w'){b o:Nat}{u:Value}(hc:w.cell? ⟨b,o,none⟩=some u):w'.cell? ⟨b,o,none⟩=some u:=by
 unfold World.cell? at hc ⊢
 cases hb:w.heap[b]? with
 | none=>simp[hb]at hc
 | some ob =>
  by_cases hd:∃x,ob=.deferred x
  .obtain⟨x,rfl⟩:=hd
   simp[hb]at hc
  .rw[h.keep b ob hb (fun x hx=>hd ⟨x,hx⟩)]
   rw[hb]at hc
   exact hc
def swE(E:Env)(w':World):Env:=⟨E.b,E.S,E.h,w'⟩
mutual
theorem q3s{E:Env}{w':World}(x:Sw E.w w'):∀(v:V) (u:Value),rel E v u->rel (swE E w') v u
 | .undef,_,h=>by unfold rel at *;trivial
 | .bool b,u,h=>by unfold rel at *;exact h
 | .int k n,u,h=>by unfold rel at *;exact h
 | .str s,u,h=>by unfold rel at *;exact h
 | .nils,u,h=>by unfold rel at *;exact h
 | .imm els,u,h=>by
  unfold rel at *
  obtain⟨a,cap,h1,h2,h3,h4⟩:=h
  refine⟨a,cap,h1,h2,h3,h4.imp (fun h=>h) ?_⟩
  rintro⟨b,o,n,h5,h6,h7,h8⟩
  exact⟨b,o,n,h5,h6,h7,qst x _ _ _ _ h8⟩
 | .immc els,u,h=>by
  unfold rel at *
  obtain⟨a,h1,h3,h4⟩:=h
  refine⟨a,h1,h3,h4.imp (fun h=>h) ?_⟩
  rintro⟨b,o,n,h5,h6,h7,h8⟩
  exact⟨b,o,n,h5,h6,h7,qst x _ _ _ _ h8⟩
 | .iptr cells,u,h=>by
  unfold rel at *
  obtain⟨b,o,h1,h2,h3,h4⟩:=h
  exact⟨b,o,h1,h2,h3,zam x _ _ _ h4⟩
 | .bptr _ _,u,h=>by unfold rel at *;exact h
 | .ptr _ _ _ _,u,h=>by unfold rel at *;exact h
 | .sl _ _ _ _ _,u,h=>by unfold rel at *;exact h
 | .bsl _ _ _ _,u,h=>by unfold rel at *;exact h
 | .agg cs,u,h=>by
  unfold rel at *
  obtain⟨us,h1,h2⟩:=h
  exact⟨us,h1,qml x _ _ h2⟩
 | .tup cs,u,h=>by
  unfold rel at *
  obtain⟨us,h1,h2⟩:=h
  exact⟨us,h1,qml x _ _ h2⟩
 | .fn f a c,u,h=>by
  unfold rel at *
  obtain⟨a',c',h1,h2,h3⟩:=h
  exact⟨a',c',h1,qml x _ _ h2,qml x _ _ h3⟩
 | .ub,u,h=>by unfold rel at *;exact h
 | .nilfn,u,h=>by unfold rel at *;exact h
 | .nilp,u,h=>by unfold rel at *;exact h
 | .map _,u,h=>by unfold rel at *;exact h
 | .sit _,u,h=>by unfold rel at *;exact h
 | .yld _,u,h=>by unfold rel at *;exact h
 | .view _ _,u,h=>by
  unfold rel at *
  obtain⟨b,o,h1,h2,h3⟩:=h
  exact⟨b,o,h1,zam x _ _ _ h2,h3⟩
theorem qml{E:Env}{w':World}(x:Sw E.w w'):∀(vs:List V) (us:List Value),qai E vs us->qai (swE E w') vs us
 | [],_,h=>by unfold qai at *;exact h
 | v :: vs,us,h=>by
  unfold qai at *
  obtain⟨u,us',h1,h2,h3⟩:=h
  exact⟨u,us',h1,q3s x v u h2,qml x vs us' h3⟩
theorem zam{E:Env}{w':World}(x:Sw E.w w'):∀(vs:List V) (b o:Nat),qbf E vs b o->qbf (swE E w') vs b o
 | [],_,_,_=>by unfold qbf;trivial
 | v :: vs,b,o,h=>by
  unfold qbf at *
  obtain⟨⟨u,h1,h2⟩,h3⟩:=h
  exact⟨⟨u,x.cell h1,q3s x v u h2⟩,zam x vs b (o+1) h3⟩
theorem qst{E:Env}{w':World}(x:Sw E.w w'):∀(rs:List (List V)) (n b o:Nat),qar E n rs b o->qar (swE E w') n rs b o
 | [],_,_,_,_=>by unfold qar;trivial
 | r :: rs,n,b,o,h=>by
  unfold qar at *
  exact⟨h.1,zam x r b o h.2.1,qst x rs n b (o+n) h.2.2⟩
end
theorem zsu{E:Env}{w':World}(x:Sw E.w w'):∀(es:List (V×V)) (ms:List Go.MapEntry),qhk E es ms->qhk (swE E w') es ms
 | [],_,h=>h
 | (k,v) :: r,ms,h=>by
  obtain⟨e,es',h1,h2,h3,h4,h5,h6⟩:=h
  exact⟨e,es',h1,q3s x _ _ h2,q3s x _ _ h3,h4,h5,zsu x r es' h6⟩
theorem z1y{P:Program}{E:Env}(hE:Ok P E){w':World}(x:Sw E.w w'):Ok P (swE E w'):=by
 refine⟨fun id o ho=>?_,hE.inj,fun b hb=>by show b<w'.heap.size;rw[x.size];exact hE.S b hb⟩
 have hr:=hE.obj id o ho
 unfold qes at hr ⊢
 cases hk:o.k<;>rw[hk]at hr<;>simp only
 case box cells =>
  refine hr.imp (fun h=>h) ?_
  rintro⟨b,C,cs,ty,q1,q2,q3,q4,q5⟩
  exact⟨b,C,cs,ty,q1,q2,x.keep _ _ q3 (fun _ h=>by cases h),q4,zam x _ _ _ q5⟩
 case arr m els =>
  refine⟨hr.1,hr.2.imp (fun h=>h) ?_⟩
  rintro⟨b,C,cs,ty,q1,q2,q3,q4,q5,q6,q7⟩
  exact⟨b,C,cs,ty,q1,q2,x.keep _ _ q3 (fun _ h=>by cases h),q4,q5,q6,qst x _ _ _ _ q7⟩
 case frz m els =>
  refine⟨hr.1,hr.2.imp (fun h=>h) ?_⟩
  rintro⟨b,C,cs,ty,q1,q2,q3,q4,q5,q6,q7⟩
  exact⟨b,C,cs,ty,q1,q2,x.keep _ _ q3 (fun _ h=>by cases h),q4,q5,q6,qst x _ _ _ _ q7⟩
 case map es =>
  obtain⟨b,C,ms,cl,h1,h2,h3,h4⟩:=hr
  exact⟨b,C,ms,cl,h1,h2,x.keep _ _ h3 (fun _ h=>by cases h),zsu x _ _ h4⟩
 case sit s p =>
  obtain⟨b,C,h1,h2,h3⟩:=hr
  exact⟨b,C,h1,h2,x.keep _ _ h3 (fun _ h=>by cases h)⟩
 case loop sl ps a c p =>
  obtain⟨b,C,L,h1,h2,h3,h4,h5,h6,h7,h8⟩:=hr
  exact⟨b,C,L,h1,h2,x.keep _ _ h3 (fun _ h=>by cases h),qml x _ _ h4,h5,h6,h7,h8⟩
theorem zsv{P:Program}{E0 E:Env}(_hE:Ok P E)(y:Ext E0 E){w':World}(x:Sw E.w w')(hk:∀b,b<E0.w.heap.size->w'.heap[b]?=E.w.heap[b]?):Ext E0 (swE E w') :=
 ⟨⟨y.S,by show _<=w'.heap.size;rw[x.size];exact y.size,fun b hb hm=>(hk b hb).trans (y.keep b hb hm),fun b hb hm=>y.muts b hb hm,y.len,y.gen,y.obj,x.os.trans y.os,x.output.trans y.output,y.tags⟩,y.back,y.free⟩
theorem qpp{P:Program}{fn:Go.Func}{tmps:Array Value}{R:Ending->World->Prop}{n0:Nat}:∀(M:List Nat) (w:World),M.Nodup->(∀r∈M,n0<=r/\w.heap[r]?=some (.deferred (some []))) ->
  (∀w',Sw w w'->(∀b,b<n0->w'.heap[b]?=w.heap[b]?)->∃v,(Go.results fn tmps).run P w'=.ok v w'/\R (.returned v) w')->Go.LeavesInM Fence.wide 0 P fn tmps R (M.map qtz) .returning w
 | [],w,_,_,h=>by
  simp only[List.map_nil,Go.LeavesInM,Go.LeavesIn]
  exact h w (Sw.refl w) fun _ _=>rfl
 | r :: M,w,hn,hr,h=>by
  obtain⟨h1,h2⟩:=hr r (by simp)
  have hlt:=qeb h2
  have hnd:=List.nodup_cons.1 hn
  simp only[List.map_cons]
  unfold Go.LeavesInM
  refine⟨by simp,.inl ⟨r,{ w with heap:=w.heap.setIfInBounds r (.deferred none) },rfl,?_,?_⟩⟩
  .simp[Go.Instr.takeDeferred,Go.getObj,Go.setObj,Sem.run,Go.Result.andThen,h2]
  .have hsw:Sw w { w with heap:=w.heap.setIfInBounds r (.deferred none) }:=by
    refine⟨by simp,fun b o hb hd=>?_,rfl,rfl⟩
    have:b≠r:=fun e=>by subst e;rw[h2]at hb;cases hb;exact hd _ rfl
    simp only
    rw[Array.getElem?_setIfInBounds_ne (Ne.symm this)]
    exact hb
   refine qpp M _ hnd.2 (fun q hq=>?_) fun w' k1 k2=>h w' (hsw.trans k1) fun b hb=>(k2 b hb).trans ?_
   .obtain⟨g1,g2⟩:=hr q (by simp[hq])
    refine⟨g1,?_⟩
    have:q≠r:=fun e=>hnd.1 (e ▸ hq)
    simp only
    rw[Array.getElem?_setIfInBounds_ne (Ne.symm this)]
    exact g2
   .simp only
    rw[Array.getElem?_setIfInBounds_ne (by omega)]
end Go.Am
/- Functions and rounds,over what their code does. -/
namespace Go.Am
open Go (World Value Addr Obj Program Act Operand Oper Op Sem Result Next undef execOp TypeId TypeDesc Ending CallsIn RoundIn Fence Exit Deferred)
def qlv(E:Env)(ro:Option Nat):Prop:=∀b,ro=some b->∃id C o,E.b id=some (b,C)/\E.h[id]?=some o/\qgo o.k=4
theorem qhb{E E':Env}(x:Ext E E'){ro:Option Nat}(h:qlv E ro):qlv E' ro:=by
 intro b hb
 obtain⟨id,C,o,h1,h2,h3⟩:=h b hb
 have hlt:=qbi h2
 have hlt':=jS hlt x.len
 obtain⟨o0,q1,q2⟩:=x.tags id _ hlt (jA hlt')
 rw[h2]at q1
 cases q1
 obtain⟨o1,r1,r2,_,_,r5,_⟩:=x.obj id _ hlt (jA hlt') (.inr (by omega))
 exact⟨id,C,_,r5 _ h1,jA hlt',by omega⟩
theorem q9b{E E':Env}(x:Ext E E'){id:Nat}{o':Ob}(hlt:id<E.h.length)(h:E'.h[id]?=some o')(ht:qgo o'.k=4){y:Nat×Nat}(hb:E.b id=some y):E'.b id=some y:=by
 obtain⟨o1,r1,r2,_,_,r5,_⟩:=x.obj id _ hlt h (.inr (by omega))
 exact r5 _ hb
def qlp(P:Program)(sf:Q->Option R):Prop:=∀(c:Go.Code) (ro:Option Nat) (E:Env) (s:List V) (a:Act) (res:R),Ok P E->qlv E ro->qai E s a.tmps.toList->sf (.code (qcb P c) ⟨s,E.h⟩)=some res->c.wpIn (F0 ro) 0 P (qzt P E a res) a E.w
theorem zob{E:Env}{vs:List V}{us:Array Value}(h:qai E vs us.toList)(n:Nat):qai E (zfq n vs) (us++Array.replicate (n-us.size) undef).toList:=by
 have hl:=qan h
 simp only[zfq,Array.toList_append,Array.toList_replicate]
 refine qbw h ?_
 have:vs.length=us.size:=by simpa using hl
 rw[this]
 generalize n-us.size=k
 induction k with
 | zero=>simp[qai]
 | succ k ih =>
  simp only[List.replicate_succ]
  unfold qai
  exact⟨_,_,rfl,by unfold rel;trivial,ih⟩
theorem zhg{P:Program}{pg:Prg}{sf:Q->Option R}(hpg:∀f g,pg f=some g->∃fn fresh raw,P.funcs[f]?=some fn/\zbt P fresh raw fn=some g)(hC:qlp P sf):zpm P (qbz pg sf):=by
 intro fid first caps args E res us hE hr h
 simp only[qbz]at h
 cases e:pg fid with
 | none=>rw[e]at h;cases h
 | some g =>
  rw[e]at h
  simp only at h
  obtain⟨fn,fresh,raw,hf,hg⟩:=hpg fid g e
  unfold zbt at hg
  split at hg
  .cases hg
  split at hg
  .cases hg
  .rename_i hname
   simp only[jM]at hg
   obtain⟨b,hb,rfl⟩:=hg
   simp only at h
   refine⟨⟨fn,hf,by simpa using hname,by rw[hb];rfl⟩,?_⟩
   cases e2:sf (.code (qcb P b) ⟨zfq fn.ntmps (first++args++caps),E.h⟩)with
   | none=>rw[e2]at h;cases h
   | some r =>
    rw[e2]at h
    simp only at h
    have hx:(∀id,r.x ≠ .exit id)/\∃v h',qpo { ntmps:=fn.ntmps,results:=fn.results.toList.map (cRV P),body:=qcb P b,fresh:=fresh,raw:=raw } E.h.length r.st=some (v,h')/\res={ v:=v,st:=⟨[],h'⟩ }:=by
     cases hx:r.x<;>rw[hx]at h<;>simp only at h
     case exit=>cases h
     all_goals
      refine⟨fun id hh=>by(cases hh),?_⟩
      split at h
      .rename_i v h' hl
       cases h
       exact⟨v,h',hl,rfl⟩
      .cases h
    obtain⟨hx,v,h',hl,rfl⟩:=hx
    refine Go.callsIn_of_wp_marks (F:=Fence.wide) hf hb trivial ?_
    have hw:=hC b none E _ { tmps:=us++Array.replicate (fn.ntmps-us.size) undef,defers:=[] } r hE (fun _ h=>by cases h) (zob hr fn.ntmps) e2
    refine Go.wpIn_mono (F:=Fence.wide) hw ?_
    rintro e' a' w' ⟨E',M,k1,k2,rfl,k4,k5,rfl,k7,k8⟩
    have key:Go.LeavesInM Fence.wide 0 P fn a'.tmps (Ret P E v h') a'.defers .returning E'.w:=by
     rw[k7]
     simp only[List.append_nil]
     refine qpp M E'.w k8.1 k8.2 fun w'' s1 s2=>?_
     have hl2:qpo { ntmps:=fn.ntmps,results:=fn.results.toList.map (cRV P),body:=qcb P b,fresh:=fresh,raw:=raw } E.h.length ⟨r.st.s,(swE E' w'').h⟩=some (v,h'):=by
      show qpo _ _ ⟨r.st.s,E'.h⟩=_
      rw[k4];exact hl
     obtain⟨E3,u,g1,g2,g3,g4,g5,g6⟩:=zdi (z1y k1 s1) (zsv k1 k2 s1 s2) (qml s1 _ _ k5) (g:={ ntmps:=fn.ntmps,results:=fn.results.toList.map (cRV P),body:=qcb P b,fresh:=fresh,raw:=raw }) rfl hl2
     exact⟨u,g1,E3,u,rfl,g2,g3,g4,g5,g6⟩
    cases hxx:r.x with
    | normal=>exact key
    | ret=>exact key
    | exit id=>exact absurd hxx (hx id)
theorem q2s{E:Env}:∀{ps:List Nat} {args:List V} {us:List Value} {sl:List V} {ts:Array Value},qai E args us->args.length=ps.length->qai E sl ts.toList ->
  qai E (qew sl ps args) ((ps.zip us).foldl (fun(tmps:Array Value) (p:Nat×Value)=>tmps.setIfInBounds p.1 p.2) ts).toList
 | [],args,us,sl,ts,_,_,h=>by
  cases args<;>simpa[qew]using h
 | p :: ps,[],us,sl,ts,_,hl,h=>by simp at hl
 | p :: ps,v :: args,us,sl,ts,ha,hl,h=>by
  unfold qai at ha
  obtain⟨u,us',rfl,h1,h2⟩:=ha
  simp only[qew,List.zip_cons_cons,List.foldl_cons]
  refine q2s h2 (by simpa using hl) ?_
  rw[Array.toList_setIfInBounds]
  exact qwm h1 p h
theorem zax{E:Env}{L:Go.Loop}{sl args:List V}{us:Array Value}(h1:qai E sl L.tmps.toList)(h2:qai E args us.toList)(hl:args.length=L.params.toList.length):qai E (qew sl L.params.toList args) (qzo L us).toList:=by
 have:=q2s h2 hl h1
 have e:qzo L us=(L.params.toList.zip us.toList).foldl (fun(tmps:Array Value) (p:Nat×Value)=>tmps.setIfInBounds p.1 p.2) L.tmps:=by
  unfold qzo
  rw[<-Array.foldl_toList,Array.toList_zip]
 rw[e]
 exact this
theorem qvz{P:Program}{E:Env}(hE:Ok P E){l g b D:Nat}{sl sl':List V}{ps:List Nat}{as bd:C}{p p':Option X}{L L':Go.Loop}(ho:E.h[l]?=some ⟨g,.loop sl ps as bd p⟩)(hb:E.b l=some (b,D))(hw:E.w.heap[b]?=some (.loop L))(hn:¬E.S b)
  (ht:qai E sl' L'.tmps.toList) (h1:L'.params.toList=ps) (h2:qcb P L'.assign=as) (h3:qcb P L'.body=bd)
  (h4:match p' with
     | none=>L'.state=.ready/\L'.pending=none
     | some .normal=>True
     | some x=>L'.state=.done/\L'.pending=qyt x) :
  ∃E',Ok P E'/\Ext E E'/\E'.h=E.h.set l ⟨g,.loop sl' ps as bd p'⟩/\E'.w={ E.w with heap:=E.w.heap.setIfInBounds b (.loop L') }/\E'.S=E.S:=by
 have hbs:=qeb hw
 obtain⟨k1,k2⟩:=qny hE ho rfl (o':=⟨g,.loop sl' ps as bd p'⟩) (fun _ h=>by cases h) (w':={ E.w with heap:=E.w.heap.setIfInBounds b (.loop L') }) (by simp) (fun k hk hne=>by
   have:k≠b:=fun h=>hne D (by rw[h];exact hb)
   simp only
   rw[Array.getElem?_setIfInBounds_ne (Ne.symm this)]) rfl rfl (E.b l) (fun k D' hk=>.inl ⟨D',hk⟩)
  (jD _) rfl (fun _=>⟨rfl,jD _,rfl⟩) (fun y=>by
   unfold qes
   refine⟨b,D,L',by simp[hb],hn,by simp[hbs],qbb hE y.toExt0 _ _ ht,h1,h2,h3,h4⟩)
 exact⟨_,k1,k2,rfl,rfl,rfl⟩
theorem zen{P:Program}{pg:Prg}{sf:Q->Option R}(hC:qlp P sf):q6e P (qbz pg sf):=by
 intro l args E res us hE hr h
 simp only[qbz]at h
 split at h
 .rename_i g0 sl params assign bd0 hob
  split at h
  .rename_i hlen
   have hro:=hE.obj l _ hob
   unfold qes at hro
   obtain⟨b,C,L,q1,q2,q3,q4,q5,q6,q7,q8⟩:=hro
   have hlt:=qbi hob
   have hRo:qlv E (some b):=fun b' hb'=>by cases hb';exact⟨l,C,_,q1,hob,rfl⟩
   have hal:=qan hr
   refine⟨b,C,L,q1,⟨_,hob,rfl⟩,q3,?_,?_⟩
   .rw[<-q5]at hlen
    simp at hal hlen
    omega
   .cases e1:sf (.code assign ⟨qew sl params args,E.h⟩)with
    | none=>rw[e1]at h;cases h
    | some r1 =>
     rw[e1]at h
     simp only at h
     cases hx1:r1.x<;>rw[hx1]at h<;>simp only at h<;>try (cases h;done)
     split at h
     .rename_i g sl' ps' as' bd' hob1
      cases e2:sf (.code bd0 ⟨r1.st.s,r1.st.h.set l ⟨g,.loop sl' ps' as' bd' (some .normal)⟩⟩)with
      | none=>rw[e2]at h;cases h
      | some r2 =>
       rw[e2]at h
       simp only at h
       split at h
       .rename_i g2 sl2 ps2 as2 bd2 p2 hob2
        refine Go.roundIn_of_wpIn (F:=Fence.wide) trivial ?_
        have hset:qai E (qew sl params args) (qzo L us).toList:=by
         rw[<-q5]
         exact zax q4 hr (by rw[q5];exact hlen)
        have ha:=hC L.assign (some b) E (qew sl params args) { tmps:=qzo L us,defers:=[] } r1 hE hRo hset (by rw[q6];exact e1)
        refine Go.wpIn_mono (F:=F0 (some b)) ha ?_
        rintro e a1 w1 ⟨E1,M1,k1,k2,rfl,k4,k5,rfl,k7,k8⟩
        rw[hx1]
        have hob1':E1.h[l]?=some ⟨g,.loop sl' ps' as' bd' none⟩:=by rw[k4];exact hob1
        have hb1:=q9b k2 hlt hob1' rfl q1
        have hro1:=k1.obj l _ hob1'
        unfold qes at hro1
        obtain⟨b1,C1,L1,p1,p2',p3,p4,p5,p6,p7,p8⟩:=hro1
        rw[hb1]at p1
        cases p1
        obtain⟨E2,m1,m2,m3,m4,m5⟩:=qvz (p':=some .normal) (L':={ L1 with state:=.busy }) k1 hob1' hb1 p3 p2' p4 p5 p6 p7 trivial
        refine⟨E2.w,?_,?_⟩
        .rw[m4]
         simp[Go.Instr.beginRound,Go.Instr.getLoop,Go.getObj,Go.setObj,Sem.run,Go.Result.andThen,p3,p8.1]
        .have hbd:=hC L.body (some b) E2 r1.st.s a1 r2 m1 (qhb m2 (qhb k2 hRo)) (qbb k1 m2.toExt0 _ _ k5) (by rw[q7,m3,k4];exact e2)
         refine Go.wpIn_mono (F:=F0 (some b)) hbd ?_
         rintro e a2 w3 ⟨E3,M3,n1,n2,rfl,n4,n5,rfl,n7,n8⟩
         have c1:=q0f n1 E.h.length
         have c2:Ext E (qjr E.h.length E3):=qqr ((k2.trans m2).trans n2) (jD _)
         have hob3:(qjr E.h.length E3).h[l]?=some ⟨g2,.loop sl2 ps2 as2 bd2 p2⟩:=by
          rw[qvk,n4];exact hob2
         have hb3:=q9b c2 hlt hob3 rfl q1
         have hro3:=c1.obj l _ hob3
         unfold qes at hro3
         obtain⟨b3,C3,L3,t1,t2,t3,t4,t5,t6,t7,t8⟩:=hro3
         rw[hb3]at t1
         cases t1
         have fin:∀(p:Option X) (jump:Option Go.Code),(p=none/\jump=none\/∃x,p=some x/\x ≠ .normal/\jump=qyt x/\jump≠none) ->
           ∃v w4,(Go.Instr.endRound b jump).run P E3.w=.ok v w4/\Ret P E (.bool jump.isNone) ((qaq E.h.length r2.st.h).set l ⟨g2,.loop sl2 ps2 as2 bd2 p⟩) (.returned v) w4:=by
          intro p jump hpj
          obtain⟨E4,d1,d2,d3,d4,d5⟩:=qvz (p':=p) (L':={ L3 with state:=if jump.isNone then .ready else .done,pending:=jump }) c1 hob3 hb3 t3 t2 t4 t5 t6 t7 (by
           rcases hpj with⟨rfl,rfl⟩ | ⟨x,rfl,hx,rfl,hj⟩
           .simp
           .cases x with
            | normal=>exact absurd rfl hx
            | exit id=>simp[qyt]
            | ret=>simp[qyt])
          refine⟨.bool jump.isNone,E4.w,?_,E4,_,rfl,d1,c2.trans d2,rfl,by rw[d3,qvk,n4],by unfold rel;rfl⟩
          rw[d4]
          have t3':E3.w.heap[b]?=some (.loop L3):=by rw[<-qoj E.h.length E3];exact t3
          simp[Go.Instr.endRound,Go.Instr.getLoop,Go.getObj,Go.setObj,Sem.run,Go.Result.andThen,t3',qoj]
         cases hx2:r2.x<;>rw[hx2]at h<;>simp only[jC]at h<;>subst h
         .exact fin none none (.inl ⟨rfl,rfl⟩)
         .exact fin _ (some (.exit _)) (.inr ⟨_,rfl,by simp,rfl,by simp⟩)
         .exact fin _ (some .ret) (.inr ⟨_,rfl,by simp,rfl,by simp⟩)
       .cases h
     .cases h
  .cases h
 .cases h
end Go.Am
