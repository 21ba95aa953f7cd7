/- Loops of. -/
import Derived.Test.YtggbaapfbgjaeaaGreatDoorFEn1
set_option linter.all false
set_option maxHeartbeats 4000000
namespace Go.Am
def Le(s s':Q->Option R):Prop:=∀q r,s q=some r->s' q=some r
theorem zcp{P:Prg}{s s':Q->Option R}(hs:Le s s'){f:V}{args:List V}{h:H}{x:V×H}(hx:qmh P s f args h=some x):qmh P s' f args h=some x:=by
 unfold qmh at hx ⊢;split at hx
 .rename_i hr;simp only[hr,if_true];cases e:s (.call f args h)with
  | none=>simp[e]at hx
  | some r=>rw[hs _ _ e];simpa[e]using hx
 .rename_i hr;simp only[hr];dsimp only at hx ⊢;split at hx
  .rename_i hp;simp only[hp,if_true];cases e:s (.call f (args.map (qfq h)) [])with
   | none=>simp[e]at hx
   | some r=>rw[hs _ _ e];simpa[e]using hx
  .rename_i hp;simp only[hp];cases e:s (.call f (args.map (qfq h)) (qyy h args))with
   | none=>simp[e]at hx
   | some r=>rw[hs _ _ e];simpa[e]using hx
theorem qnq{s s':Q->Option R}(hs:Le s s'){a b:C}{st:St}{r:R}(h:q3y s a b st=some r):q3y s' a b st=some r:=by
 unfold q3y at h ⊢;cases e:s (.code a st)with
 | none=>simp[e]at h
 | some x =>
  rw[hs _ _ e];simp only[e]at h ⊢;cases hx:x.x with
  | normal=>simp only[hx]at h ⊢;exact hs _ _ h
  | _=>simp only[hx]at h ⊢;exact h
theorem qym{s s':Q->Option R}(hs:Le s s'){a b:C}{st:St}{r:R}(h:zbq s a b st=some r):zbq s' a b st=some r:=by
 unfold zbq at h ⊢;cases ha:qsm a st with
 | none=>simp only[ha]at h ⊢;exact qnq hs h
 | some xy =>
  obtain⟨x,y⟩:=xy;simp only[ha]at h ⊢;cases e1:q3y s x b st with
  | none=>simp[e1]at h
  | some r =>
   cases e2:q3y s y b st with
   | none=>simp[e1,e2]at h
   | some q =>rw[qnq hs e1,qnq hs e2];simpa[e1,e2]using h
theorem qvi{P:Prg}{s s':Q->Option R}(hs:Le s s'){i:I}{st st':St}(hx:exI P s i st=some st'):exI P s' i st=some st':=by
 unfold exI at hx ⊢;cases hw:qcc st.s i with
 | none=>rw[hw]at hx;cases hx
 | some t =>
  rw[hw]at hx;cases t with
  | false=>exact hx
  | true =>
   simp only at hx ⊢;cases ho:i.o<;>simp only[ho]at hx ⊢ <;> try exact hx
   rename_i f args;cases e:qmh P s (f.ev st.s) (args.map (A.ev st.s)) st.h with
   | none=>simp[e]at hx
   | some r=>rw[zcp hs e];simpa[e]using hx
theorem qvj{P:Prg}{s s':Q->Option R}(hs:Le s s'):∀{is:List I} {st st':St},exL P s is st=some st'->exL P s' is st=some st'
 | [],_,_,h=>h
 | i :: is,st,st',h=>by
  simp only[exL]at h ⊢;cases e:exI P s i st with
  | none=>simp[e]at h
  | some st1=>rw[qvi hs e];simp only[e]at h;exact qvj hs h
theorem q1z{P:Prg}{s s':Q->Option R}(hs:Le s s'):∀{is:List I} {st:St} {tr:List St},exT P s is st=some tr->exT P s' is st=some tr
 | [],_,_,h=>h
 | i :: is,st,tr,h=>by
  simp only[exT]at h ⊢;cases e:exI P s i st with
  | none=>simp[e]at h
  | some st1 =>
   rw[qvi hs e];simp only[e]at h ⊢;cases e2:exT P s is st1 with
   | none=>simp[e2]at h
   | some tr1=>rw[q1z hs e2];simpa[e2]using h
theorem qyt{P:Prg}{s s':Q->Option R}(hs:Le s s'):Le (qci P s) (qci P s'):=by
 intro q r h;cases q with
 | code c st =>
  cases c with
  | skip=>exact h
  | exit=>exact h
  | ret=>exact h
  | giv=>exact h
  | reg ops =>
   simp only[qci]at h ⊢;cases e:exL P s ops st with
   | none=>simp[e]at h
   | some x=>rw[qvj hs e];simpa[e]using h
  | draw ops chk =>
   cases chk with
   | nil =>
    simp only[qci]at h ⊢;cases e:exL P s ops st with
    | none=>simp[e]at h
    | some x=>rw[qvj hs e];simpa[e]using h
   | cons a b =>
    simp only[qci]at h ⊢;cases e:exT P s ops st with
    | none=>simp[e]at h
    | some x=>rw[q1z hs e];simpa[e]using h
  | seq a b =>
   simp only[qci]at h ⊢;cases hsp:qjd a with
   | none=>simp only[hsp]at h ⊢;exact qym hs h
   | some pc =>
    obtain⟨p,c⟩:=pc;simp only[hsp]at h ⊢;cases e:s (.code p st)with
    | none=>simp[e]at h
    | some x =>
     rw[hs _ _ e];simp only[e]at h ⊢;cases hx:x.x with
     | normal=>simp only[hx]at h ⊢;exact qym hs h
     | _=>simp only[hx]at h ⊢;exact h
  | cond c a b =>
   simp only[qci]at h ⊢;cases e:c.ev st.s<;>simp only[e]at h ⊢ <;> try exact h
   split at h
   .rename_i ht;simp only[ht,if_true];exact hs _ _ h
   .rename_i ht;simp only[ht];exact hs _ _ h
  | block id c =>
   simp only[qci]at h ⊢;cases e:s (.code c st)with
   | none=>simp[e]at h
   | some x=>rw[hs _ _ e];simpa[e]using h
  | loop c=>exact hs _ _ h
  | going nx c =>
   simp only[qci]at h ⊢;cases e:s (.code c st)with
   | none=>simp[e]at h
   | some x =>
    rw[hs _ _ e];simp only[e]at h ⊢;cases hx:x.x with
    | normal=>simp only[hx]at h ⊢;exact hs _ _ h
    | _=>simp only[hx]at h ⊢;exact h
  | loopK k c=>exact hs _ _ h
  | goingK nx k c =>
   simp only[qci]at h ⊢;cases e:s (.code c st)with
   | none=>simp[e]at h
   | some x =>
    rw[hs _ _ e];simp only[e]at h ⊢;cases hx:x.x with
    | normal=>simp only[hx]at h ⊢;exact hs _ _ h
    | _=>simp only[hx]at h ⊢;exact h
  | loopF k c=>exact hs _ _ h
  | goingF nx k c =>
   simp only[qci]at h ⊢;cases e:s (.code c st)with
   | none=>simp[e]at h
   | some x =>
    rw[hs _ _ e];simp only[e]at h ⊢;cases hx:x.x with
    | normal=>simp only[hx]at h ⊢;exact hs _ _ h
    | _=>simp only[hx]at h ⊢;exact h
  | range f ps a b =>
   simp only[qci]at h ⊢;cases hf:f.ev (qdh st).s<;>simp only[hf]at h ⊢ <;> try (cases h;done)
   rename_i fid first caps
   cases e:s (.call (.fn fid first caps) [.yld (qdh st).h.length] ((qdh st).h++[⟨0,.loop (qdh st).s ps a b none⟩]))with
   | none=>simp[e]at h
   | some x=>rw[hs _ _ e];simpa[e]using h
 | call f args hp =>
  cases f<;>try exact h
  case fn f first caps =>
   simp only[qci]at h ⊢;cases hf:P f with
   | none=>simp[hf]at h
   | some g =>
    simp only[hf]at h ⊢;cases e:s (.code g.body ⟨q3w g.ntmps (first++args++caps),hp⟩)with
    | none=>rw[e]at h;cases h
    | some x=>rw[hs _ _ e];rw[e]at h;exact h
  case yld l =>
   simp only[qci]at h ⊢;split at h
   .rename_i g sl ps a b heq;split at h
    .rename_i hl;rw[if_pos hl];cases e:s (.code a ⟨qfr sl ps args,hp⟩)with
     | none=>rw[e]at h;cases h
     | some x =>
      rw[hs _ _ e];rw[e]at h;simp only at h ⊢;cases hx:x.x<;>rw[hx]at h<;>simp only at h ⊢ <;> try (cases h;done)
      split at h
      .rename_i g sl' ps' as' bd' heq2;cases e2:s (.code b ⟨x.st.s,x.st.h.set l ⟨g,.loop sl' ps' as' bd' (some .normal)⟩⟩)with
       | none=>rw[e2]at h;cases h
       | some y=>rw[hs _ _ e2];rw[e2]at h;exact h
      .cases h
    .cases h
   .cases h
theorem zaf(P:Prg):∀n,Le (evN P n) (evN P (n+1))
 | 0=>fun _ _ h=>by simp[evN]at h
 | n+1=>qyt (zaf P n)
theorem qim(P:Prg){n m:Nat}(h:n<=m):Le (evN P n) (evN P m):=by
 induction h with
 | refl=>exact fun _ _ h=>h
 | step _ ih=>exact fun q r h=>zaf P _ q r (ih q r h)
open Classical in
noncomputable def ev(P:Prg)(q:Q):Option R:=if h:∃r n,evN P n q=some r then some h.choose else none
theorem zxu{P:Prg}{n:Nat}{q:Q}{r:R}(h:evN P n q=some r):ev P q=some r:=by
 have hx:∃r n,evN P n q=some r:=⟨r,n,h⟩
 unfold ev;rw[dif_pos hx];obtain⟨m,hm⟩:=hx.choose_spec;have h1:=qim P (Nat.le_max_left n m) _ _ h;have h2:=qim P (Nat.le_max_right n m) _ _ hm;rw[h1]at h2;exact h2.symm
theorem qkj{P:Prg}{q:Q}{r:R}(h:ev P q=some r):∃n,evN P n q=some r:=by
 unfold ev at h;split at h
 .rename_i hx;obtain⟨m,hm⟩:=hx.choose_spec;cases h;exact⟨m,hm⟩
 .cases h
section
variable{P:Prg}
theorem zcn{f:V}{args:List V}{h:H}{x:V×H}(hx:qmh P (ev P) f args h=some x):∃n,qmh P (evN P n) f args h=some x:=by
 unfold qmh at hx ⊢;split at hx
 .rename_i hr;simp only[hr,if_true];cases e:ev P (.call f args h)with
  | none=>simp[e]at hx
  | some r=>obtain⟨n,hn⟩:=qkj e;exact⟨n,by rw[hn];simpa[e]using hx⟩
 .rename_i hr;simp only[hr];dsimp only at hx ⊢;split at hx
  .rename_i hp;simp only[hp,if_true];cases e:ev P (.call f (args.map (qfq h)) [])with
   | none=>simp[e]at hx
   | some r=>obtain⟨n,hn⟩:=qkj e;exact⟨n,by rw[hn];simpa[e]using hx⟩
  .rename_i hp;simp only[hp];cases e:ev P (.call f (args.map (qfq h)) (qyy h args))with
   | none=>simp[e]at hx
   | some r=>obtain⟨n,hn⟩:=qkj e;exact⟨n,by rw[hn];simpa[e]using hx⟩
theorem zag{i:I}{st st':St}(hx:exI P (ev P) i st=some st'):∃n,exI P (evN P n) i st=some st':=by
 unfold exI at hx ⊢;cases hw:qcc st.s i with
 | none=>rw[hw]at hx;cases hx
 | some t =>
  rw[hw]at hx;cases t with
  | false=>exact⟨0,hx⟩
  | true =>
   simp only at hx ⊢;cases ho:i.o<;>simp only[ho]at hx ⊢ <;> try exact⟨0,hx⟩
   rename_i f args;cases e:qmh P (ev P) (f.ev st.s) (args.map (A.ev st.s)) st.h with
   | none=>simp[e]at hx
   | some r=>obtain⟨n,hn⟩:=zcn e;exact⟨n,by rw[hn];simpa[e]using hx⟩
theorem q1y:∀{is:List I} {st st':St},exL P (ev P) is st=some st'->∃n,exL P (evN P n) is st=some st'
 | [],_,_,h=>⟨0,h⟩
 | i :: is,st,st',h=>by
  simp only[exL]at h ⊢;cases e:exI P (ev P) i st with
  | none=>simp[e]at h
  | some st1 =>simp only[e]at h;obtain⟨n,hn⟩:=zag e;obtain⟨m,hm⟩:=q1y h;exact⟨max n m,by rw[qvi (qim P (Nat.le_max_left n m)) hn];exact qvj (qim P (Nat.le_max_right n m)) hm⟩
theorem zah:∀{is:List I} {st:St} {tr:List St},exT P (ev P) is st=some tr->∃n,exT P (evN P n) is st=some tr
 | [],_,_,h=>⟨0,h⟩
 | i :: is,st,tr,h=>by
  simp only[exT]at h ⊢;cases e:exI P (ev P) i st with
  | none=>simp[e]at h
  | some st1 =>
   simp only[e]at h;cases e2:exT P (ev P) is st1 with
   | none=>simp[e2]at h
   | some tr1 =>obtain⟨n,hn⟩:=zag e;obtain⟨m,hm⟩:=zah e2;exact⟨max n m,by rw[qvi (qim P (Nat.le_max_left n m)) hn];simp only;rw[q1z (qim P (Nat.le_max_right n m)) hm];simpa[e2]using h⟩
theorem qyn{a b:C}{st:St}{r:R}(h:q3y (ev P) a b st=some r):∃n,q3y (evN P n) a b st=some r:=by
 unfold q3y at h ⊢;cases e:ev P (.code a st)with
 | none=>simp[e]at h
 | some x =>
  simp only[e]at h;obtain⟨n,hn⟩:=qkj e;cases hx:x.x with
  | normal =>simp only[hx]at h;obtain⟨m,hm⟩:=qkj h;exact⟨max n m,by rw[qim P (Nat.le_max_left n m) _ _ hn];simp only[hx];exact qim P (Nat.le_max_right n m) _ _ hm⟩
  | _=>exact⟨n,by rw[hn];simp only[hx]at h ⊢;exact h⟩
theorem q6p{a b:C}{st:St}{r:R}(h:zbq (ev P) a b st=some r):∃n,zbq (evN P n) a b st=some r:=by
 unfold zbq at h ⊢;cases ha:qsm a st with
 | none=>simp only[ha]at h ⊢;exact qyn h
 | some xy =>
  obtain⟨x,y⟩:=xy;simp only[ha]at h ⊢;cases e1:q3y (ev P) x b st with
  | none=>simp[e1]at h
  | some r =>
   cases e2:q3y (ev P) y b st with
   | none=>simp[e1,e2]at h
   | some q =>obtain⟨n,hn⟩:=qyn e1;obtain⟨m,hm⟩:=qyn e2;refine⟨max n m,?_⟩;rw[qnq (qim P (Nat.le_max_left n m)) hn,qnq (qim P (Nat.le_max_right n m)) hm];simpa[e1,e2]using h
theorem zkl{q:Q}{r:R}(h:qci P (ev P) q=some r):∃n,qci P (evN P n) q=some r:=by
 have two:∀{q1:Q} {r1:R} {q2:Q} {r2:R},ev P q1=some r1->ev P q2=some r2->∃n,evN P n q1=some r1/\evN P n q2=some r2:=fun h1 h2=>by obtain⟨n,hn⟩:=qkj h1;obtain⟨m,hm⟩:=qkj h2;exact⟨max n m,qim P (Nat.le_max_left n m) _ _ hn,qim P (Nat.le_max_right n m) _ _ hm⟩
 cases q with
 | code c st =>
  cases c with
  | skip=>exact⟨0,h⟩
  | exit=>exact⟨0,h⟩
  | ret=>exact⟨0,h⟩
  | giv=>exact⟨0,h⟩
  | reg ops =>
   simp only[qci]at h ⊢;cases e:exL P (ev P) ops st with
   | none=>simp[e]at h
   | some x=>obtain⟨n,hn⟩:=q1y e;exact⟨n,by rw[hn];simpa[e]using h⟩
  | draw ops chk =>
   cases chk with
   | nil =>
    simp only[qci]at h ⊢;cases e:exL P (ev P) ops st with
    | none=>simp[e]at h
    | some x=>obtain⟨n,hn⟩:=q1y e;exact⟨n,by rw[hn];simpa[e]using h⟩
   | cons a b =>
    simp only[qci]at h ⊢;cases e:exT P (ev P) ops st with
    | none=>simp[e]at h
    | some x=>obtain⟨n,hn⟩:=zah e;exact⟨n,by rw[hn];simpa[e]using h⟩
  | seq a b =>
   simp only[qci]at h ⊢;cases hsp:qjd a with
   | none=>simp only[hsp]at h ⊢;exact q6p h
   | some pc =>
    obtain⟨p,c⟩:=pc;simp only[hsp]at h ⊢;cases e:ev P (.code p st)with
    | none=>simp[e]at h
    | some x =>
     simp only[e]at h;obtain⟨n,hn⟩:=qkj e;cases hx:x.x with
     | normal =>simp only[hx]at h;obtain⟨m,hm⟩:=q6p h;refine⟨max n m,?_⟩;rw[qim P (Nat.le_max_left n m) _ _ hn];simp only[hx];exact qym (qim P (Nat.le_max_right n m)) hm
     | _=>exact⟨n,by rw[hn];simp only[hx]at h ⊢;exact h⟩
  | cond c a b =>
   simp only[qci]at h ⊢;cases e:c.ev st.s<;>simp only[e]at h ⊢ <;> try exact⟨0,h⟩
   split at h
   .rename_i ht;simp only[ht,if_true];exact qkj h
   .rename_i ht;simp only[ht];exact qkj h
  | block id c =>
   simp only[qci]at h ⊢;cases e:ev P (.code c st)with
   | none=>simp[e]at h
   | some x=>obtain⟨n,hn⟩:=qkj e;exact⟨n,by rw[hn];simpa[e]using h⟩
  | loop c=>exact qkj h
  | going nx c =>
   simp only[qci]at h ⊢;cases e:ev P (.code c st)with
   | none=>simp[e]at h
   | some x =>
    simp only[e]at h;cases hx:x.x with
    | normal =>simp only[hx]at h;obtain⟨n,h1,h2⟩:=two e h;exact⟨n,by rw[h1];simp only[hx];exact h2⟩
    | _=>obtain⟨n,hn⟩:=qkj e;exact⟨n,by rw[hn];simp only[hx]at h ⊢;exact h⟩
  | loopK k c=>exact qkj h
  | goingK nx k c =>
   simp only[qci]at h ⊢;cases e:ev P (.code c st)with
   | none=>simp[e]at h
   | some x =>
    simp only[e]at h;cases hx:x.x with
    | normal =>simp only[hx]at h;obtain⟨n,h1,h2⟩:=two e h;exact⟨n,by rw[h1];simp only[hx];exact h2⟩
    | _=>obtain⟨n,hn⟩:=qkj e;exact⟨n,by rw[hn];simp only[hx]at h ⊢;exact h⟩
  | loopF k c=>exact qkj h
  | goingF nx k c =>
   simp only[qci]at h ⊢;cases e:ev P (.code c st)with
   | none=>simp[e]at h
   | some x =>
    simp only[e]at h;cases hx:x.x with
    | normal =>simp only[hx]at h;obtain⟨n,h1,h2⟩:=two e h;exact⟨n,by rw[h1];simp only[hx];exact h2⟩
    | _=>obtain⟨n,hn⟩:=qkj e;exact⟨n,by rw[hn];simp only[hx]at h ⊢;exact h⟩
  | range f ps a b =>
   simp only[qci]at h ⊢;cases hf:f.ev (qdh st).s<;>simp only[hf]at h ⊢ <;> try (cases h;done)
   rename_i fid first caps
   cases e:ev P (.call (.fn fid first caps) [.yld (qdh st).h.length] ((qdh st).h++[⟨0,.loop (qdh st).s ps a b none⟩]))with
   | none=>simp[e]at h
   | some x=>obtain⟨n,hn⟩:=qkj e;exact⟨n,by rw[hn];simpa[e]using h⟩
 | call f args hp =>
  cases f<;>try exact⟨0,h⟩
  case fn f first caps =>
   simp only[qci]at h ⊢;cases hf:P f with
   | none=>simp[hf]at h
   | some g =>
    simp only[hf]at h ⊢;cases e:ev P (.code g.body ⟨q3w g.ntmps (first++args++caps),hp⟩)with
    | none=>rw[e]at h;cases h
    | some x=>obtain⟨n,hn⟩:=qkj e;exact⟨n,by rw[hn];rw[e]at h;exact h⟩
  case yld l =>
   simp only[qci]at h ⊢;split at h
   .rename_i g sl ps a b heq;split at h
    .rename_i hl;simp only[if_pos hl];cases e:ev P (.code a ⟨qfr sl ps args,hp⟩)with
     | none=>rw[e]at h;cases h
     | some x =>
      rw[e]at h;simp only at h;cases hx:x.x<;>rw[hx]at h<;>simp only at h<;>try (cases h;done)
      split at h
      .rename_i g sl' ps' as' bd' heq2;cases e2:ev P (.code b ⟨x.st.s,x.st.h.set l ⟨g,.loop sl' ps' as' bd' (some .normal)⟩⟩)with
       | none=>rw[e2]at h;cases h
       | some y =>rw[e2]at h;obtain⟨n,h1,h2⟩:=two e e2;refine⟨n,?_⟩;rw[h1];simp only[hx,heq2];rw[h2];exact h
      .cases h
    .cases h
   .cases h
end
theorem qia(P:Prg)(q:Q):ev P q=qci P (ev P) q:=by
 cases e:qci P (ev P) q with
 | some r =>obtain⟨n,hn⟩:=zkl e;exact zxu (n:=n+1) hn
 | none =>
  cases e2:ev P q with
  | none=>rfl
  | some r =>
   obtain⟨n,hn⟩:=qkj e2;cases n with
   | zero=>simp[evN]at hn
   | succ n =>have:qci P (ev P) q=some r:=qyt (fun _ _ h=>zxu h) q r hn;rw[this]at e;cases e
section
variable{P:Prg}(st:St)
theorem zsn:ev P (.code .skip st)=some { st }:=by rw[qia];rfl
theorem zsm(id:Nat):ev P (.code (.exit id) st)=some { x:=.exit id,st }:=by rw[qia];rfl
theorem zxw:ev P (.code .ret st)=some { x:=.ret,st }:=by rw[qia];rfl
theorem zpv(k:Nat):ev P (.code (.giv k) st)=zlc k st:=by rw[qia];rfl
theorem zxv(ops:List I):ev P (.code (.reg ops) st)=match exL P (ev P) ops st with
  | some st'=>some { st:=st' }
  | none=>none:=by rw[qia];rfl
theorem qay(ops:List I):ev P (.code (.draw ops []) st)=match exL P (ev P) ops st with
  | some st'=>some { st:=st' }
  | none=>none:=by rw[qia];rfl
theorem qab(ops:List I)(a:Nat×Nat)(b:List (Nat×Nat)):ev P (.code (.draw ops (a :: b)) st)=match exT P (ev P) ops st with
  | some tr=>if qag ops tr (a :: b)then tr.getLast?.map fun st'=>{ st:=st' }else none
  | none=>none:=by rw[qia];rfl
theorem zxx(a b:C):ev P (.code (.seq a b) st)=match qjd a with
  | some (p,c)=>match ev P (.code p st)with
   | some r=>match r.x with
    | .normal=>zbq (ev P) c b r.st
    | _=>some r
   | none=>none
  | none=>zbq (ev P) a b st:=by rw[qia];rfl
theorem zsl(c:A)(a b:C):ev P (.code (.cond c a b) st)=match c.ev st.s with
  | .bool t=>if t then ev P (.code a st)else ev P (.code b st)
  | _=>none:=by rw[qia];rfl
theorem zmy(id:Nat)(c:C):ev P (.code (.block id c) st)=match ev P (.code c st)with
  | some r=>if r.x=.exit id then some { r with x:=.normal }else some r
  | none=>none:=by rw[qia];rfl
theorem qai(c:C):ev P (.code (.loop c) st)=ev P (.code (.going (qdh st).h.length c) (qdh st)):=by rw[qia];rfl
theorem qdy(nx:Nat)(c:C):ev P (.code (.going nx c) st)=match ev P (.code c st)with
  | some r=>match r.x with
   | .normal=>ev P (.code (.going nx c) (qvg nx r.st))
   | _=>some r
  | none=>none:=by rw[qia];rfl
theorem qie(ks:List Nat)(c:C):ev P (.code (.loopF ks c) st)=ev P (.code (.goingF (qdh st).h.length ks c) (qdh st)):=by rw[qia];rfl
theorem qwl(nx:Nat)(ks:List Nat)(c:C):ev P (.code (.goingF nx ks c) st)=match ev P (.code c st)with
  | some r=>match r.x with
   | .normal=>ev P (.code (.goingF nx ks c) (qjh nx ks r.st))
   | _=>some r
  | none=>none:=by rw[qia];rfl
theorem qaa(f:Nat)(first caps args:List V)(h:H):ev P (.call (.fn f first caps) args h)=match P f with
  | some g=>match ev P (.code g.body ⟨q3w g.ntmps (first++args++caps),h⟩)with
   | some r=>match r.x with
    | .exit _=>none
    | _=>match qme g h.length r.st with
     | some (v,h')=>some { v:=v,st:=⟨[],h'⟩ }
     | none=>none
   | none=>none
  | none=>none:=by rw[qia];rfl
end
attribute [simp] exL exI qcc exO A.ev z1v zwm qah qet q3x q3w V.pcell V.cell1 V.cells V.known qir qcb qhc q7i q1p V.low1 qrn zyr z1l z2u z2v unV q7o qme rvs rvV qfq qan qeq V.low qkd qde quy qgk zic qqz qsw qbx qbf zev eqS eqL qpy qqn qcq qpm qhu qhh qmc qns qce zet qdd zar zun qqy qsu qpv q3z zbw qsj qfy zda q7y zyg qyy qmh zzp V.safe V.safe1 V.scal1 K.safe qcs qdf qhn qdh zps qjh zsp qsm qjd zbq q3y qfc zdl kEq qwx zdm V.beq qzj qyw qvg qfr K.isArr zsn zsm zxw zxv qay zxx zsl zmy
theorem q5o{P:Prg}{nx:Nat}{c:C}(I:Nat->St->Prop)(N:Nat)(Q:R->Prop)
  (step:∀k st,k<N->I k st->∃r,ev P (.code c st)=some r/\((r.x=.normal/\I (k+1) (qvg nx r.st))\/(r.x ≠ .normal/\Q r)))
  (last:∀st,I N st->∃r,ev P (.code c st)=some r/\r.x ≠ .normal/\Q r) :
  ∀(d k:Nat) (st:St),k+d=N->I k st->∃r,ev P (.code (.going nx c) st)=some r/\Q r
 | 0,k,st,hk,hI=>by
  have:k=N:=by omega
  subst this;obtain⟨r,h1,h2,h3⟩:=last st hI;refine⟨r,?_,h3⟩;rw[qdy,h1];cases hx:r.x with
  | normal=>exact absurd hx h2
  | exit id=>simp only[hx]
  | ret=>simp only[hx]
 | d+1,k,st,hk,hI=>by
  obtain⟨r,h1,h2⟩:=step k st (by omega) hI;rcases h2 with⟨h2,h3⟩ | ⟨h2,h3⟩
  .obtain⟨r',h4,h5⟩:=q5o I N Q step last d (k+1) (qvg nx r.st) (by omega) h3;refine⟨r',?_,h5⟩;rw[qdy,h1];simp only[h2];exact h4
  .refine⟨r,?_,h3⟩;rw[qdy,h1];cases hx:r.x with
   | normal=>exact absurd hx h2
   | exit id=>simp only[hx]
   | ret=>simp only[hx]
theorem qat{P:Prg}{nx:Nat}{c:C}{st:St}(I:Nat->St->Prop)(N:Nat)(Q:R->Prop)(h0:I 0 st)
  (step:∀k st,k<N->I k st->∃r,ev P (.code c st)=some r/\((r.x=.normal/\I (k+1) (qvg nx r.st))\/(r.x ≠ .normal/\Q r)))
  (last:∀st,I N st->∃r,ev P (.code c st)=some r/\r.x ≠ .normal/\Q r):∃r,ev P (.code (.going nx c) st)=some r/\Q r :=
 q5o I N Q step last N 0 st (by omega) h0
theorem qac:∀{n:Nat} {s:List V},s.length=n->s=(List.range n).map (qah s)
 | 0,s,h=>by simpa using h
 | n+1,[],h=>by simp at h
 | n+1,x :: s,h=>by
  have:=qac (n:=n) (s:=s) (by simpa using h);rw[List.range_succ_eq_map,List.map_cons,List.map_map]
  conv=>lhs;rw[this]
  rfl
@[simp] theorem qjc:∀{s:List V} {k:Nat} {v:V},(qet s k v).length=s.length
 | [],_,_=>rfl
 | _ :: _,0,_=>rfl
 | _ :: s,k+1,v=>by simp[qet,qjc (s:=s)]
@[simp] theorem qin:∀{s:List V} {k:Nat} {v:V},k<s.length->qah (qet s k v) k=v
 | [],_,_,h=>by simp at h
 | _ :: _,0,_,_=>rfl
 | _ :: s,k+1,v,h=>by simp only[qet,qah];exact qin (by simpa using h)
@[simp] theorem qaf:∀{s:List V} {k j:Nat} {v:V},k≠j->qah (qet s k v) j=qah s j
 | [],_,_,_,_=>rfl
 | _ :: _,0,0,_,h=>absurd rfl h
 | _ :: _,0,_+1,_,_=>rfl
 | _ :: _,_+1,0,_,_=>rfl
 | _ :: s,k+1,j+1,v,h=>by simp only[qet,qah];exact qaf (by omega)
theorem qam{n:Int}(h:-9223372036854775808<=n)(h2:n<=9223372036854775807):Go.IntKind.i64.wrap n=n:=by unfold Go.IntKind.wrap;simp[Go.IntKind.bits,Go.IntKind.signed];omega
theorem qbc(k:Nat)(h:k<4611686018427387904:=by omega):Go.IntKind.i64.wrap ((k:Int)+1)=(k:Int)+1:=qam (by omega) (by omega)
@[simp] abbrev fnq(n:Nat):V:=.fn n [] []
@[simp] abbrev rvq(v:V):R:={ v:=v,st:=⟨[],[]⟩ }
end Go.Am
