/- Am's evaluation without fuel; its equations; loops. Equations of evaluation,oneV a form of code: what symbolic evaluation rewrites by. Loops of Am;slots that matter. -/
import Derived.Test.YtddeacahiilikaaGreatEn1
namespace Go.Am
def Le(s s':Q->Option R):Prop:=∀q r,s q=some r->s' q=some r
theorem zad{P:Prg}{s s':Q->Option R}(hs:Le s s'){f:V}{args:List V}{h:H}{x:V×H}(hx:qlh P s f args h=some x):qlh P s' f args h=some x:=by
 unfold qlh at hx ⊢
 split at hx
 .rename_i hr
  simp only[hr,if_true]
  cases e:s (.call f args h)with
  | none=>simp[e]at hx
  | some r=>rw[hs _ _ e];simpa[e]using hx
 .rename_i hr
  simp only[hr]
  dsimp only at hx ⊢
  split at hx
  .rename_i hp
   simp only[hp,if_true]
   cases e:s (.call f (args.map (qhe h)) [])with
   | none=>simp[e]at hx
   | some r=>rw[hs _ _ e];simpa[e]using hx
  .rename_i hp
   simp only[hp]
   cases e:s (.call f (args.map (qhe h)) (zaj h args))with
   | none=>simp[e]at hx
   | some r=>rw[hs _ _ e];simpa[e]using hx
theorem qmb{s s':Q->Option R}(hs:Le s s'){a b:C}{st:St}{r:R}(h:q1d s a b st=some r):q1d s' a b st=some r:=by
 unfold q1d at h ⊢
 cases e:s (.code a st)with
 | none=>simp[e]at h
 | some x =>
  rw[hs _ _ e]
  simp only[e]at h ⊢
  cases hx:x.x with
  | normal=>simp only[hx]at h ⊢;exact hs _ _ h
  | _=>simp only[hx]at h ⊢;exact h
theorem qun{s s':Q->Option R}(hs:Le s s'){a b:C}{st:St}{r:R}(h:q8r s a b st=some r):q8r s' a b st=some r:=by
 unfold q8r at h ⊢
 cases ha:qqn a st with
 | none=>simp only[ha]at h ⊢;exact qmb hs h
 | some xy =>
  obtain⟨x,y⟩:=xy
  simp only[ha]at h ⊢
  cases e1:q1d s x b st with
  | none=>simp[e1]at h
  | some r =>
   cases e2:q1d s y b st with
   | none=>simp[e1,e2]at h
   | some q =>
    rw[qmb hs e1,qmb hs e2]
    simpa[e1,e2]using h
theorem qsy{P:Prg}{s s':Q->Option R}(hs:Le s s'){i:I}{st st':St}(hx:exI P s i st=some st'):exI P s' i st=some st':=by
 unfold exI at hx ⊢
 cases hw:qcd st.s i with
 | none=>rw[hw]at hx;cases hx
 | some t =>
  rw[hw]at hx
  cases t with
  | false=>exact hx
  | true =>
   simp only at hx ⊢
   cases ho:i.o<;>simp only[ho]at hx ⊢ <;> try exact hx
   rename_i f args
   cases e:qlh P s (f.ev st.s) (args.map (A.ev st.s)) st.h with
   | none=>simp[e]at hx
   | some r=>rw[zad hs e];simpa[e]using hx
theorem qsx{P:Prg}{s s':Q->Option R}(hs:Le s s'):∀{is:List I} {st st':St},exL P s is st=some st'->exL P s' is st=some st'
 | [],_,_,h=>h
 | i :: is,st,st',h=>by
  simp only[exL]at h ⊢
  cases e:exI P s i st with
  | none=>simp[e]at h
  | some st1=>rw[qsy hs e];simp only[e]at h;exact qsx hs h
theorem qzb{P:Prg}{s s':Q->Option R}(hs:Le s s'):∀{is:List I} {st:St} {tr:List St},exT P s is st=some tr->exT P s' is st=some tr
 | [],_,_,h=>h
 | i :: is,st,tr,h=>by
  simp only[exT]at h ⊢
  cases e:exI P s i st with
  | none=>simp[e]at h
  | some st1 =>
   rw[qsy hs e]
   simp only[e]at h ⊢
   cases e2:exT P s is st1 with
   | none=>simp[e2]at h
   | some tr1=>rw[qzb hs e2];simpa[e2]using h
theorem q2g{P:Prg}{s s':Q->Option R}(hs:Le s s'):Le (qck P s) (qck P s'):=by
 intro q r h
 cases q with
 | code c st =>
  cases c with
  | skip=>exact h
  | exit=>exact h
  | ret=>exact h
  | reg ops =>
   simp only[qck]at h ⊢
   cases e:exL P s ops st with
   | none=>simp[e]at h
   | some x=>rw[qsx hs e];simpa[e]using h
  | draw ops chk =>
   cases chk with
   | nil =>
    simp only[qck]at h ⊢
    cases e:exL P s ops st with
    | none=>simp[e]at h
    | some x=>rw[qsx hs e];simpa[e]using h
   | cons a b =>
    simp only[qck]at h ⊢
    cases e:exT P s ops st with
    | none=>simp[e]at h
    | some x=>rw[qzb hs e];simpa[e]using h
  | seq a b =>
   simp only[qck]at h ⊢
   cases hsp:qih a with
   | none=>simp only[hsp]at h ⊢;exact qun hs h
   | some pc =>
    obtain⟨p,c⟩:=pc
    simp only[hsp]at h ⊢
    cases e:s (.code p st)with
    | none=>simp[e]at h
    | some x =>
     rw[hs _ _ e]
     simp only[e]at h ⊢
     cases hx:x.x with
     | normal=>simp only[hx]at h ⊢;exact qun hs h
     | _=>simp only[hx]at h ⊢;exact h
  | cond c a b =>
   simp only[qck]at h ⊢
   cases e:c.ev st.s<;>simp only[e]at h ⊢ <;> try exact h
   split at h
   .rename_i ht;simp only[ht,if_true];exact hs _ _ h
   .rename_i ht;simp only[ht];exact hs _ _ h
  | block id c =>
   simp only[qck]at h ⊢
   cases e:s (.code c st)with
   | none=>simp[e]at h
   | some x=>rw[hs _ _ e];simpa[e]using h
  | loop c=>exact hs _ _ h
  | going nx c =>
   simp only[qck]at h ⊢
   cases e:s (.code c st)with
   | none=>simp[e]at h
   | some x =>
    rw[hs _ _ e]
    simp only[e]at h ⊢
    cases hx:x.x with
    | normal=>simp only[hx]at h ⊢;exact hs _ _ h
    | _=>simp only[hx]at h ⊢;exact h
  | loopK k c=>exact hs _ _ h
  | goingK nx k c =>
   simp only[qck]at h ⊢
   cases e:s (.code c st)with
   | none=>simp[e]at h
   | some x =>
    rw[hs _ _ e]
    simp only[e]at h ⊢
    cases hx:x.x with
    | normal=>simp only[hx]at h ⊢;exact hs _ _ h
    | _=>simp only[hx]at h ⊢;exact h
  | range f ps a b =>
   simp only[qck]at h ⊢
   cases hf:f.ev (qds st).s<;>simp only[hf]at h ⊢ <;> try (cases h;done)
   rename_i fid first caps
   cases e:s (.call (.fn fid first caps) [.yld (qds st).h.length] ((qds st).h++[⟨0,.loop (qds st).s ps a b none⟩]))with
   | none=>simp[e]at h
   | some x=>rw[hs _ _ e];simpa[e]using h
 | call f args hp =>
  cases f<;>try exact h
  case fn f first caps =>
   simp only[qck]at h ⊢
   cases hf:P f with
   | none=>simp[hf]at h
   | some g =>
    simp only[hf]at h ⊢
    cases e:s (.code g.body ⟨zoi g.ntmps (first++args++caps),hp⟩)with
    | none=>rw[e]at h;cases h
    | some x=>rw[hs _ _ e];rw[e]at h;exact h
  case yld l =>
   simp only[qck]at h ⊢
   split at h
   .rename_i g sl ps a b heq
    split at h
    .rename_i hl
     rw[if_pos hl]
     cases e:s (.code a ⟨qfs sl ps args,hp⟩)with
     | none=>rw[e]at h;cases h
     | some x =>
      rw[hs _ _ e]
      rw[e]at h
      simp only at h ⊢
      cases hx:x.x<;>rw[hx]at h<;>simp only at h ⊢ <;> try (cases h;done)
      split at h
      .rename_i g sl' ps' as' bd' heq2
       cases e2:s (.code b ⟨x.st.s,x.st.h.set l ⟨g,.loop sl' ps' as' bd' (some .normal)⟩⟩)with
       | none=>rw[e2]at h;cases h
       | some y=>rw[hs _ _ e2];rw[e2]at h;exact h
      .cases h
    .cases h
   .cases h
theorem q8h(P:Prg):∀n,Le (evN P n) (evN P (n+1))
 | 0=>fun _ _ h=>by simp[evN]at h
 | n+1=>q2g (q8h P n)
theorem qhs(P:Prg){n m:Nat}(h:n<=m):Le (evN P n) (evN P m):=by
 induction h with
 | refl=>exact fun _ _ h=>h
 | step _ ih=>exact fun q r h=>q8h P _ q r (ih q r h)
open Classical in
noncomputable def ev(P:Prg)(q:Q):Option R:=if h:∃r n,evN P n q=some r then some h.choose else none
theorem zls{P:Prg}{n:Nat}{q:Q}{r:R}(h:evN P n q=some r):ev P q=some r:=by
 have hx:∃r n,evN P n q=some r:=⟨r,n,h⟩
 unfold ev
 rw[dif_pos hx]
 obtain⟨m,hm⟩:=hx.choose_spec
 have h1:=qhs P (Nat.le_max_left n m) _ _ h
 have h2:=qhs P (Nat.le_max_right n m) _ _ hm
 rw[h1]at h2
 exact h2.symm
theorem qjv{P:Prg}{q:Q}{r:R}(h:ev P q=some r):∃n,evN P n q=some r:=by
 unfold ev at h
 split at h
 .rename_i hx
  obtain⟨m,hm⟩:=hx.choose_spec
  cases h
  exact⟨m,hm⟩
 .cases h
section
variable{P:Prg}
theorem zbw{f:V}{args:List V}{h:H}{x:V×H}(hx:qlh P (ev P) f args h=some x):∃n,qlh P (evN P n) f args h=some x:=by
 unfold qlh at hx ⊢
 split at hx
 .rename_i hr
  simp only[hr,if_true]
  cases e:ev P (.call f args h)with
  | none=>simp[e]at hx
  | some r=>obtain⟨n,hn⟩:=qjv e;exact⟨n,by rw[hn];simpa[e]using hx⟩
 .rename_i hr
  simp only[hr]
  dsimp only at hx ⊢
  split at hx
  .rename_i hp
   simp only[hp,if_true]
   cases e:ev P (.call f (args.map (qhe h)) [])with
   | none=>simp[e]at hx
   | some r=>obtain⟨n,hn⟩:=qjv e;exact⟨n,by rw[hn];simpa[e]using hx⟩
  .rename_i hp
   simp only[hp]
   cases e:ev P (.call f (args.map (qhe h)) (zaj h args))with
   | none=>simp[e]at hx
   | some r=>obtain⟨n,hn⟩:=qjv e;exact⟨n,by rw[hn];simpa[e]using hx⟩
theorem q8l{i:I}{st st':St}(hx:exI P (ev P) i st=some st'):∃n,exI P (evN P n) i st=some st':=by
 unfold exI at hx ⊢
 cases hw:qcd st.s i with
 | none=>rw[hw]at hx;cases hx
 | some t =>
  rw[hw]at hx
  cases t with
  | false=>exact⟨0,hx⟩
  | true =>
   simp only at hx ⊢
   cases ho:i.o<;>simp only[ho]at hx ⊢ <;> try exact⟨0,hx⟩
   rename_i f args
   cases e:qlh P (ev P) (f.ev st.s) (args.map (A.ev st.s)) st.h with
   | none=>simp[e]at hx
   | some r=>obtain⟨n,hn⟩:=zbw e;exact⟨n,by rw[hn];simpa[e]using hx⟩
theorem q0b:∀{is:List I} {st st':St},exL P (ev P) is st=some st'->∃n,exL P (evN P n) is st=some st'
 | [],_,_,h=>⟨0,h⟩
 | i :: is,st,st',h=>by
  simp only[exL]at h ⊢
  cases e:exI P (ev P) i st with
  | none=>simp[e]at h
  | some st1 =>
   simp only[e]at h
   obtain⟨n,hn⟩:=q8l e
   obtain⟨m,hm⟩:=q0b h
   exact⟨max n m,by rw[qsy (qhs P (Nat.le_max_left n m)) hn];exact qsx (qhs P (Nat.le_max_right n m)) hm⟩
theorem q8d:∀{is:List I} {st:St} {tr:List St},exT P (ev P) is st=some tr->∃n,exT P (evN P n) is st=some tr
 | [],_,_,h=>⟨0,h⟩
 | i :: is,st,tr,h=>by
  simp only[exT]at h ⊢
  cases e:exI P (ev P) i st with
  | none=>simp[e]at h
  | some st1 =>
   simp only[e]at h
   cases e2:exT P (ev P) is st1 with
   | none=>simp[e2]at h
   | some tr1 =>
    obtain⟨n,hn⟩:=q8l e
    obtain⟨m,hm⟩:=q8d e2
    exact⟨max n m,by rw[qsy (qhs P (Nat.le_max_left n m)) hn];simp only;rw[qzb (qhs P (Nat.le_max_right n m)) hm];simpa[e2]using h⟩
theorem qwd{a b:C}{st:St}{r:R}(h:q1d (ev P) a b st=some r):∃n,q1d (evN P n) a b st=some r:=by
 unfold q1d at h ⊢
 cases e:ev P (.code a st)with
 | none=>simp[e]at h
 | some x =>
  simp only[e]at h
  obtain⟨n,hn⟩:=qjv e
  cases hx:x.x with
  | normal =>
   simp only[hx]at h
   obtain⟨m,hm⟩:=qjv h
   exact⟨max n m,by rw[qhs P (Nat.le_max_left n m) _ _ hn];simp only[hx];exact qhs P (Nat.le_max_right n m) _ _ hm⟩
  | _=>exact⟨n,by rw[hn];simp only[hx]at h ⊢;exact h⟩
theorem q3f{a b:C}{st:St}{r:R}(h:q8r (ev P) a b st=some r):∃n,q8r (evN P n) a b st=some r:=by
 unfold q8r at h ⊢
 cases ha:qqn a st with
 | none=>simp only[ha]at h ⊢;exact qwd h
 | some xy =>
  obtain⟨x,y⟩:=xy
  simp only[ha]at h ⊢
  cases e1:q1d (ev P) x b st with
  | none=>simp[e1]at h
  | some r =>
   cases e2:q1d (ev P) y b st with
   | none=>simp[e1,e2]at h
   | some q =>
    obtain⟨n,hn⟩:=qwd e1
    obtain⟨m,hm⟩:=qwd e2
    refine⟨max n m,?_⟩
    rw[qmb (qhs P (Nat.le_max_left n m)) hn,qmb (qhs P (Nat.le_max_right n m)) hm]
    simpa[e1,e2]using h
theorem zhy{q:Q}{r:R}(h:qck P (ev P) q=some r):∃n,qck P (evN P n) q=some r:=by
 have two:∀{q1:Q} {r1:R} {q2:Q} {r2:R},ev P q1=some r1->ev P q2=some r2->∃n,evN P n q1=some r1/\evN P n q2=some r2:=fun h1 h2=>by
  obtain⟨n,hn⟩:=qjv h1
  obtain⟨m,hm⟩:=qjv h2
  exact⟨max n m,qhs P (Nat.le_max_left n m) _ _ hn,qhs P (Nat.le_max_right n m) _ _ hm⟩
 cases q with
 | code c st =>
  cases c with
  | skip=>exact⟨0,h⟩
  | exit=>exact⟨0,h⟩
  | ret=>exact⟨0,h⟩
  | reg ops =>
   simp only[qck]at h ⊢
   cases e:exL P (ev P) ops st with
   | none=>simp[e]at h
   | some x=>obtain⟨n,hn⟩:=q0b e;exact⟨n,by rw[hn];simpa[e]using h⟩
  | draw ops chk =>
   cases chk with
   | nil =>
    simp only[qck]at h ⊢
    cases e:exL P (ev P) ops st with
    | none=>simp[e]at h
    | some x=>obtain⟨n,hn⟩:=q0b e;exact⟨n,by rw[hn];simpa[e]using h⟩
   | cons a b =>
    simp only[qck]at h ⊢
    cases e:exT P (ev P) ops st with
    | none=>simp[e]at h
    | some x=>obtain⟨n,hn⟩:=q8d e;exact⟨n,by rw[hn];simpa[e]using h⟩
  | seq a b =>
   simp only[qck]at h ⊢
   cases hsp:qih a with
   | none=>simp only[hsp]at h ⊢;exact q3f h
   | some pc =>
    obtain⟨p,c⟩:=pc
    simp only[hsp]at h ⊢
    cases e:ev P (.code p st)with
    | none=>simp[e]at h
    | some x =>
     simp only[e]at h
     obtain⟨n,hn⟩:=qjv e
     cases hx:x.x with
     | normal =>
      simp only[hx]at h
      obtain⟨m,hm⟩:=q3f h
      refine⟨max n m,?_⟩
      rw[qhs P (Nat.le_max_left n m) _ _ hn]
      simp only[hx]
      exact qun (qhs P (Nat.le_max_right n m)) hm
     | _=>exact⟨n,by rw[hn];simp only[hx]at h ⊢;exact h⟩
  | cond c a b =>
   simp only[qck]at h ⊢
   cases e:c.ev st.s<;>simp only[e]at h ⊢ <;> try exact⟨0,h⟩
   split at h
   .rename_i ht;simp only[ht,if_true];exact qjv h
   .rename_i ht;simp only[ht];exact qjv h
  | block id c =>
   simp only[qck]at h ⊢
   cases e:ev P (.code c st)with
   | none=>simp[e]at h
   | some x=>obtain⟨n,hn⟩:=qjv e;exact⟨n,by rw[hn];simpa[e]using h⟩
  | loop c=>exact qjv h
  | going nx c =>
   simp only[qck]at h ⊢
   cases e:ev P (.code c st)with
   | none=>simp[e]at h
   | some x =>
    simp only[e]at h
    cases hx:x.x with
    | normal =>
     simp only[hx]at h
     obtain⟨n,h1,h2⟩:=two e h
     exact⟨n,by rw[h1];simp only[hx];exact h2⟩
    | _=>obtain⟨n,hn⟩:=qjv e;exact⟨n,by rw[hn];simp only[hx]at h ⊢;exact h⟩
  | loopK k c=>exact qjv h
  | goingK nx k c =>
   simp only[qck]at h ⊢
   cases e:ev P (.code c st)with
   | none=>simp[e]at h
   | some x =>
    simp only[e]at h
    cases hx:x.x with
    | normal =>
     simp only[hx]at h
     obtain⟨n,h1,h2⟩:=two e h
     exact⟨n,by rw[h1];simp only[hx];exact h2⟩
    | _=>obtain⟨n,hn⟩:=qjv e;exact⟨n,by rw[hn];simp only[hx]at h ⊢;exact h⟩
  | range f ps a b =>
   simp only[qck]at h ⊢
   cases hf:f.ev (qds st).s<;>simp only[hf]at h ⊢ <;> try (cases h;done)
   rename_i fid first caps
   cases e:ev P (.call (.fn fid first caps) [.yld (qds st).h.length] ((qds st).h++[⟨0,.loop (qds st).s ps a b none⟩]))with
   | none=>simp[e]at h
   | some x=>obtain⟨n,hn⟩:=qjv e;exact⟨n,by rw[hn];simpa[e]using h⟩
 | call f args hp =>
  cases f<;>try exact⟨0,h⟩
  case fn f first caps =>
   simp only[qck]at h ⊢
   cases hf:P f with
   | none=>simp[hf]at h
   | some g =>
    simp only[hf]at h ⊢
    cases e:ev P (.code g.body ⟨zoi g.ntmps (first++args++caps),hp⟩)with
    | none=>rw[e]at h;cases h
    | some x=>obtain⟨n,hn⟩:=qjv e;exact⟨n,by rw[hn];rw[e]at h;exact h⟩
  case yld l =>
   simp only[qck]at h ⊢
   split at h
   .rename_i g sl ps a b heq
    split at h
    .rename_i hl
     simp only[if_pos hl]
     cases e:ev P (.code a ⟨qfs sl ps args,hp⟩)with
     | none=>rw[e]at h;cases h
     | some x =>
      rw[e]at h
      simp only at h
      cases hx:x.x<;>rw[hx]at h<;>simp only at h<;>try (cases h;done)
      split at h
      .rename_i g sl' ps' as' bd' heq2
       cases e2:ev P (.code b ⟨x.st.s,x.st.h.set l ⟨g,.loop sl' ps' as' bd' (some .normal)⟩⟩)with
       | none=>rw[e2]at h;cases h
       | some y =>
        rw[e2]at h
        obtain⟨n,h1,h2⟩:=two e e2
        refine⟨n,?_⟩
        rw[h1]
        simp only[hx,heq2]
        rw[h2]
        exact h
      .cases h
    .cases h
   .cases h
end
theorem qky(P:Prg)(q:Q):ev P q=qck P (ev P) q:=by
 cases e:qck P (ev P) q with
 | some r =>
  obtain⟨n,hn⟩:=zhy e
  exact zls (n:=n+1) hn
 | none =>
  cases e2:ev P q with
  | none=>rfl
  | some r =>
   obtain⟨n,hn⟩:=qjv e2
   cases n with
   | zero=>simp[evN]at hn
   | succ n =>
    have:qck P (ev P) q=some r:=q2g (fun _ _ h=>zls h) q r hn
    rw[this]at e
    cases e
end Go.Am
/- Equations of evaluation,oneV a form of code: what symbolic evaluation rewrites by. -/
namespace Go.Am
section
variable{P:Prg}(st:St)
theorem zzu:ev P (.code .skip st)=some { st }:=by rw[qky];rfl
theorem zvc(id:Nat):ev P (.code (.exit id) st)=some { x:=.exit id,st }:=by rw[qky];rfl
theorem z4p:ev P (.code .ret st)=some { x:=.ret,st }:=by rw[qky];rfl
theorem z2s(ops:List I):ev P (.code (.reg ops) st)=match exL P (ev P) ops st with
  | some st'=>some { st:=st' }
  | none=>none:=by rw[qky];rfl
theorem zkf(ops:List I):ev P (.code (.draw ops []) st)=match exL P (ev P) ops st with
  | some st'=>some { st:=st' }
  | none=>none:=by rw[qky];rfl
theorem qaa(ops:List I)(a:Nat×Nat)(b:List (Nat×Nat)):ev P (.code (.draw ops (a :: b)) st)=match exT P (ev P) ops st with
  | some tr=>if qaf ops tr (a :: b)then tr.getLast?.map fun st'=>{ st:=st' }else none
  | none=>none:=by rw[qky];rfl
theorem z5f(a b:C):ev P (.code (.seq a b) st)=match qih a with
  | some (p,c)=>match ev P (.code p st)with
   | some r=>match r.x with
    | .normal=>q8r (ev P) c b r.st
    | _=>some r
   | none=>none
  | none=>q8r (ev P) a b st:=by rw[qky];rfl
theorem ztk(c:A)(a b:C):ev P (.code (.cond c a b) st)=match c.ev st.s with
  | .bool t=>if t then ev P (.code a st)else ev P (.code b st)
  | _=>none:=by rw[qky];rfl
theorem zml(id:Nat)(c:C):ev P (.code (.block id c) st)=match ev P (.code c st)with
  | some r=>if r.x=.exit id then some { r with x:=.normal }else some r
  | none=>none:=by rw[qky];rfl
theorem qag(c:C):ev P (.code (.loop c) st)=ev P (.code (.going (qds st).h.length c) (qds st)):=by rw[qky];rfl
theorem qdt(nx:Nat)(c:C):ev P (.code (.going nx c) st)=match ev P (.code c st)with
  | some r=>match r.x with
   | .normal=>ev P (.code (.going nx c) (qil nx r.st))
   | _=>some r
  | none=>none:=by rw[qky];rfl
theorem zmt(k:Nat)(c:C):ev P (.code (.loopK k c) st)=ev P (.code (.goingK (qds st).h.length k c) (qds st)):=by rw[qky];rfl
theorem q4l(nx k:Nat)(c:C):ev P (.code (.goingK nx k c) st)=match ev P (.code c st)with
  | some r=>match r.x with
   | .normal=>ev P (.code (.goingK nx k c) (q8e nx k r.st))
   | _=>some r
  | none=>none:=by rw[qky];rfl
theorem qac(f:Nat)(first caps args:List V)(h:H):ev P (.call (.fn f first caps) args h)=match P f with
  | some g=>match ev P (.code g.body ⟨zoi g.ntmps (first++args++caps),h⟩)with
   | some r=>match r.x with
    | .exit _=>none
    | _=>match qru g h.length r.st with
     | some (v,h')=>some { v:=v,st:=⟨[],h'⟩ }
     | none=>none
   | none=>none
  | none=>none:=by rw[qky];rfl
end
attribute [simp] exL exI qcd exO A.ev z9d z0e qai qfk q1g zoi V.pcell V.cell1 V.cells V.known qig qcb qgq q5k qzj V.low1 qox z5w z7v jgv jfr unV q6a qru rvs rvV qhe qaw qfo V.low qlb qap q4x qbb zfw qpo qql qbk qcj zjn eqS eqL qoc qsk qco qpt qwm qnx qhj qcn zvo qeu q9g zxx qpm qsp qpu q1e q7l qsr qjr zxg zaz jbu zaj qlh z1r V.safe V.safe1 V.scal1 K.safe qdb qdv qgy qds q8e qqn qih q8r q1d qeq zcg kEq qvy zbu V.beq q1q qwh qil qfs K.isArr zzu zvc z4p z2s zkf z5f ztk zml
end Go.Am
/- Loops of Am;slots that matter. -/
namespace Go.Am
theorem q3x{P:Prg}{nx:Nat}{c:C}(I:Nat->St->Prop)(N:Nat)(Q:R->Prop)
  (step:∀k st,k<N->I k st->∃r,ev P (.code c st)=some r/\((r.x=.normal/\I (k+1) (qil nx r.st))\/(r.x ≠ .normal/\Q r)))
  (last:∀st,I N st->∃r,ev P (.code c st)=some r/\r.x ≠ .normal/\Q r) :
  ∀(d k:Nat) (st:St),k+d=N->I k st->∃r,ev P (.code (.going nx c) st)=some r/\Q r
 | 0,k,st,hk,hI=>by
  have:k=N:=by omega
  subst this
  obtain⟨r,h1,h2,h3⟩:=last st hI
  refine⟨r,?_,h3⟩
  rw[qdt,h1]
  cases hx:r.x with
  | normal=>exact absurd hx h2
  | exit id=>simp only[hx]
  | ret=>simp only[hx]
 | d+1,k,st,hk,hI=>by
  obtain⟨r,h1,h2⟩:=step k st (by omega) hI
  rcases h2 with⟨h2,h3⟩ | ⟨h2,h3⟩
  .obtain⟨r',h4,h5⟩:=q3x I N Q step last d (k+1) (qil nx r.st) (by omega) h3
   refine⟨r',?_,h5⟩
   rw[qdt,h1]
   simp only[h2]
   exact h4
  .refine⟨r,?_,h3⟩
   rw[qdt,h1]
   cases hx:r.x with
   | normal=>exact absurd hx h2
   | exit id=>simp only[hx]
   | ret=>simp only[hx]
theorem qaq{P:Prg}{nx:Nat}{c:C}{st:St}(I:Nat->St->Prop)(N:Nat)(Q:R->Prop)(h0:I 0 st)
  (step:∀k st,k<N->I k st->∃r,ev P (.code c st)=some r/\((r.x=.normal/\I (k+1) (qil nx r.st))\/(r.x ≠ .normal/\Q r)))
  (last:∀st,I N st->∃r,ev P (.code c st)=some r/\r.x ≠ .normal/\Q r):∃r,ev P (.code (.going nx c) st)=some r/\Q r :=
 q3x I N Q step last N 0 st (by omega) h0
theorem qad:∀{n:Nat} {s:List V},s.length=n->s=(List.range n).map (qai s)
 | 0,s,h=>by simpa using h
 | n+1,[],h=>by simp at h
 | n+1,x :: s,h=>by
  have:=qad (n:=n) (s:=s) (by simpa using h)
  rw[List.range_succ_eq_map,List.map_cons,List.map_map]
  conv=>lhs;rw[this]
  rfl
@[simp] theorem qkv:∀{s:List V} {k:Nat} {v:V},(qfk s k v).length=s.length
 | [],_,_=>rfl
 | _ :: _,0,_=>rfl
 | _ :: s,k+1,v=>by simp[qfk,qkv (s:=s)]
@[simp] theorem qpa:∀{s:List V} {k:Nat} {v:V},k<s.length->qai (qfk s k v) k=v
 | [],_,_,h=>by simp at h
 | _ :: _,0,_,_=>rfl
 | _ :: s,k+1,v,h=>by simp only[qfk,qai];exact qpa (by simpa using h)
@[simp] theorem qak:∀{s:List V} {k j:Nat} {v:V},k≠j->qai (qfk s k v) j=qai s j
 | [],_,_,_,_=>rfl
 | _ :: _,0,0,_,h=>absurd rfl h
 | _ :: _,0,_+1,_,_=>rfl
 | _ :: _,_+1,0,_,_=>rfl
 | _ :: s,k+1,j+1,v,h=>by simp only[qfk,qai];exact qak (by omega)
theorem qab{n:Int}(h:-9223372036854775808<=n)(h2:n<=9223372036854775807):Go.IntKind.i64.wrap n=n:=by
 unfold Go.IntKind.wrap;simp[Go.IntKind.bits,Go.IntKind.signed];omega
end Go.Am
