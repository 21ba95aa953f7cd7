/- Courses in time lead where the plant leads, plainly. The law SimulateLeads, in Am: it returns true. The law SimulateLeads returns true for every input, and leaves what came in as it was. It holds with no further condition. -/
import Derived.Test.YtlhciedghbmjjaaGreatSi21
import Derived.KernelRfl
import Derived.Test.YtlhciedghbmjjaaGreatSi19
import Derived.Test.YtlhciedghbmjjaaGreatRu3
import Derived.Test.YtlhciedghbmjjaaGreatRows
import Derived.Test.YtlhciedghbmjjaaGreatTq6
import Derived.ProofKit
import Derived.WalkKit
import Derived.OpenShut
import Derived.ShutString
import Derived.ChangeOld
import Derived.Below
import Derived.SizedLaws
set_option linter.all false
namespace Go.Proofs.YtlhciedghbmjjaaGreat
open Go Go.Am Go.Proofs
set_option maxRecDepth 100000
theorem qyi {m:Mch} {u:Int} (hu:u≤1000000):∀ (f:Nat) (c:Cst) (En:List Ent) (C:List Int) (y:Lg),Cok m c→goS m u f c En C=some (.inr y)→∀ (D:List Int) (i:Nat) (r:Crs),r.st=c.s→Lin (qgr m.c) r.conf→C=norm (qgr m.c) (D++r.conf) →
  ∃ R X,y.en=En++R∧qka m.c (R.map Ent.e) i r=(⟨y.st,r.strokes++R.map Ent.s,X⟩,0,0)∧Lin (qgr m.c) X∧y.cf=norm (qgr m.c) (D++X)
 | 0,_,_,_,_,_,h=>by cases h
 | f + 1,c,En,C,y,hok,h=>by
  intro D i r hr hl hC
  unfold goS at h
  split at h
  ·cases h
   exact ⟨[],r.conf,by simp,by obtain ⟨a,b,d⟩:=r; simp only at hr; subst hr; simp [qka],hl,hC⟩
  ·rename_i d hd
   split at h
   ·cases h
    exact ⟨[],r.conf,by simp,by obtain ⟨a,b,d⟩:=r; simp only at hr; subst hr; simp [qka],hl,hC⟩
   ·rename_i hut
    split at h
    ·exact qyi hu f _ _ _ _ hok.drop h D i r hr hl hC
    ·split at h
     ·cases h
     ·split at h
      ·rename_i he
       obtain ⟨R,X,e1,e2,e3,e4⟩:=qyi hu f _ _ _ _ (hok.go hd (by omega) he) h D (i + 1) ⟨(qam m.c c.s d.e).1,r.strokes++[qew c.s (qam m.c c.s d.e).1],norm (qgr m.c) (r.conf++(qam m.c c.s d.e).2.1)⟩ rfl (Lin.norm _ _) (by
        rw [hC]
        refine qwj fun x h1 h2=>?_
        simp only [List.mem_append,qib]
        constructor
        ·rintro (⟨a | a,-⟩ | a)
         ·exact .inl a
         ·exact .inr ⟨.inl a,h1,h2⟩
         ·exact .inr ⟨.inr a,h1,h2⟩
        ·rintro (a | ⟨a | a,-⟩)
         ·exact .inl ⟨.inl a,h1,h2⟩
         ·exact .inl ⟨.inr a,h1,h2⟩
         ·exact .inr a)
       refine ⟨⟨d.t,d.e,qew c.s (qam m.c c.s d.e).1⟩ :: R,X,by rw [e1,List.append_assoc]; rfl,?_,e3,e4⟩
       rw [List.map_cons,qka,hr,if_pos he,e2]
       simp
      ·cases h
structure Leads (m:Mch) (u:Int) (y:Lg) (X:List Int):Prop where
 start:(qbb m.c).2.2=0
 run:zgc m.c (qbb m.c).1 (y.en.map Ent.e)=(⟨y.st,y.en.map Ent.s,X⟩,0,0)
 conf:mrg (qbb m.c).2.1 X=y.cf
 len:X.length≤4096
 cf:y.cf.length≤4096
 one:(qbb m.c).2.1.length≤4096
 low:∀ r ∈ y.en,0≤r.t∧r.t≤u
 asc:y.en.Pairwise fun p q=>p.t≤q.t
theorem zdc {m:Mch} (hs:m.c.small=true) {l:List Prs} {u:Int} (h:(qik m l u).2=0):∃ X,Leads m u (qik m l u).1 X:=by
 obtain ⟨hg,h2,hok,hso,hgo⟩:=zbs hs h
 obtain ⟨g1,-,-,-,g5⟩:=qey hg
 have hc:m.c.check=0:=by
  unfold qfi at g1
  split at g1
  ·assumption
  ·rename_i hh; exact absurd g1 hh
 have hlin:=qpg m.c
 have hlen:=(qsm hs l u).len
 generalize (qik m l u).1=y at *
 obtain ⟨R,X,e1,e2,e3,e4⟩:=qyi g5 _ _ _ _ _ hok hgo (qbb m.c).2.1 0 ⟨(qbb m.c).1,[],[]⟩ rfl (Lin.nil _) (by rw [List.append_nil]; exact hlin.self.symm)
 obtain ⟨R',f1,f2,f3⟩:=qxh g5 _ _ _ _ _ 0 hok hso (fun x hx=>(hok.due x hx).1.1) hgo
 rw [List.nil_append] at e1 f1
 rw [← f1] at f2 f3
 rw [← e1] at e2
 have hN:qgr m.c≤4096:=Nat.le_trans (qid hok.lie.rdy.mid) (by decide)
 refine ⟨X,h2,?_,?_,by have:=e3.len; omega,by rw [e4]; have:=q3m (qgr m.c) ((qbb m.c).2.1++X); omega,by have:=hlin.len; omega,f2,f3⟩
 ·rw [(qwd hs hc h2).run (by rw [List.length_map]; omega),e2]
  simp
 ·rw [hlin.mrg e3,e4]
set_option maxHeartbeats 4000000
def yT8 (u now:Int) (en:List Ent) (first:List Int) (k:Nat):Tm:=[none,none,some (num u),some (.bptr 0 0),none,none,some (.bool false),some (.bptr 8 0),none,none,some (qbw first),some (.bptr 22 0),none,none,some (num now),none,none]++List.replicate 61 none++[some (zeq en),some (num en.length),some (num k)]++List.replicate 38 none
abbrev yh8 (m:Mch) (y:Lg) (s:Ste) (X:Crs):H:=[⟨0,.box m.cells⟩,o0s,o0s,o0s,o0s,o0s,o0s,o0s,⟨0,.box y.cells⟩,o0s,o0s,o0s,o0s,o0s,⟨0,.box s.cells⟩,o0s,o0s,o0s,o0s,o0s,o0s,o0s,⟨0,.box (X.st.cells++[.imm (X.strokes.map zun),qbw X.conf])⟩]
theorem z9i (m:Mch) (y:Lg) (s:Ste) (X:List Int) {u:Int} (first:List Int) (hn:y.en.length≤4096) (hs:∀ z ∈ y.en,z.s.length≤1000) (hlow:∀ r ∈ y.en,0≤r.t∧r.t≤u) (hasc:y.en.Pairwise fun p q=>p.t≤q.t) {st:St} (h0:At (yT8 u 0 y.en first 0) (yh8 m y s ⟨y.st,y.en.map Ent.s,X⟩) st) :
  ∃ r,ev pg (.code (.going 23 L8_0) st)=some r∧∃ now,qai (.exit 0) (yT8 u now y.en first y.en.length) (yh8 m y s ⟨y.st,y.en.map Ent.s,X⟩) r:=by
 refine qco (α:=Int) y.en.length (fun k now=>yT8 u now y.en first k) (fun _ _=>yh8 m y s ⟨y.st,y.en.map Ent.s,X⟩) (fun k now=>∀ hk:k < y.en.length,now≤y.en[k].t) _ ?_ ?_ 0 (fun hk=>(hlow _ (List.getElem_mem hk)).1) h0
 ·rintro k now f hf hk hG
  have hk':(k:Int) < y.en.length:=by omega
  have wk:=qab (n:=(k:Int) + 1) (by omega) (by omega)
  have q1:¬ y.en[k].t < now:=by have:=hG hk; omega
  have q2:¬ u < y.en[k].t:=by have:=(hlow _ (List.getElem_mem hk)).2; omega
  have e32:=ev32 y.en[k].s y.en[k].s (by have:=hs _ (List.getElem_mem hk); omega)
  simp only [decide_true] at e32
  have hG':∀ hk':k + 1 < y.en.length,y.en[k].t≤y.en[k + 1].t:=fun hk'=>List.pairwise_iff_getElem.1 hasc k (k + 1) hk hk' (by omega)
  refine (?_:∃ st,ev pg (.code L8_0 ⟨fill f 0 (yT8 u now y.en first k),yh8 m y s ⟨y.st,y.en.map Ent.s,X⟩⟩)=some { st:=st }∧At (yT8 u y.en[k].t y.en first (k + 1)) (yh8 m y s ⟨y.st,y.en.map Ent.s,X⟩) (qok 23 st)).elim fun st h=>⟨_,h.1,.inl ⟨rfl,_,hG',h.2⟩⟩
  clear hG hG' hlow hasc hs
  simp [qaa,exT,qad,yT8,L8_0,hk,hk',wk,q1,q2,e32,hf.ne]
 ·rintro now f hf hG
  refine (?_:∃ r,ev pg (.code L8_0 ⟨fill f 0 (yT8 u now y.en first y.en.length),yh8 m y s ⟨y.st,y.en.map Ent.s,X⟩⟩)=some r∧r.x ≠ .normal∧qai (.exit 0) (yT8 u now y.en first y.en.length) (yh8 m y s ⟨y.st,y.en.map Ent.s,X⟩) r).imp fun r h=>⟨h.1,h.2.1,now,h.2.2⟩
  simp [yT8,L8_0,hf.ne]
theorem ev8 (m:Mch) (hm:m.ts.length * 16≤140737488355328) (l:List Prs) (hp:l.length * 24≤140737488355328) (u:Int) :
  ev pg (.call (.fn 8 [] []) [m.v,prs l,num u] [])=some { v:=.bool true,st:=⟨[],[]⟩ }:=by
 have e10:=ev10 m hm
 have e11:=ev11 l hp
 have e12:=ev12
 have e9:=ev9 m l u
 rw [qac,pg8]
 by_cases hs:qwn m l u=true
 ·obtain ⟨f1,f2,f3⟩:=qzk hs
  rw [hs] at e9
  have e13:=ev13 f1 (by omega) (l:=l) (by omega) u
  by_cases h0:(qik m l u).2=0
  ·obtain ⟨X,hX⟩:=zdc f1 h0
   have hok:=qsm f1 l u
   rw [h0] at e13
   generalize (qik m l u).1=y at *
   have n1:=hok.len
   have e27:=ev27 y (by omega)
   have e29:=ev29 m.c f1
   have hsm:=(qzl m.c f1).1
   have e30:=ev30 m.c (qbb m.c).1 f1 hsm (evR y.en) (by rw [List.length_map]; omega)
   have hrs:=(q8b f1 (qbb m.c).1 (evR y.en) (by rw [List.length_map]; omega)).st
   rw [hX.run] at e30 hrs
   have e31:=ev31 y.st y.st hrs
   rw [qov] at e31
   have e34:=ev34 (qbb m.c).2.1 X hX.one hX.len
   rw [hX.conf] at e34
   have hcl:y.cf.length≤100000:=by
    have:=hX.cf
    omega
   have e33:=ev33s y.cf hcl
   have hl:=fun st=>z9i m y (qbb m.c).1 X (u:=u) (qbb m.c).2.1 n1 (fun z hz=>(hok.each z hz).2) hX.low hX.asc (st:=st)
   unfold zjy at e29
   rw [hX.start] at e29
   generalize (qbb m.c).1=s at *
   generalize (qbb m.c).2.1=first at *
   have w0:IntKind.i64.wrap 0=0:=by decide
   simp [w0,qaa,exT,qad,ir8,e10,e11,e9,e12,e13,e27,e29,e30,e31,qae]
   generalize hr:ev pg (.code (.going _ L8_0) _)=o
   obtain ⟨r,rfl,now,f,hf,rfl⟩:∃ r,o=some r∧_:=by rw [← hr]; exact hl _ (by simp [yT8])
   clear hr
   simp [qaa,exT,qad,yT8,e34,e33,e12]
  ·have hb:((qik m l u).2 == 0)=false:=by simpa using h0
   generalize qik m l u=z at *
   obtain ⟨y,e⟩:=z
   simp only at *
   simp [qaa,exT,qad,ir8,e10,e11,e9,e12,e13,h0,hb]
 ·rw [eq_false_of_ne_true hs] at e9
  simp [qaa,exT,qad,ir8,e10,e11,e9,e12]
end Go.Proofs.YtlhciedghbmjjaaGreat
namespace Go.Proofs.YtlhciedghbmjjaaGreat.simulateLeadsDone
open Go Go.Am Go.Proofs Go.Proofs.YtlhciedghbmjjaaGreat
open Go.ChangeShapes Go.WideShapes Go.ChangeAt Go.RowKit
set_option linter.unusedVariables false
theorem own:ownKnob Tryz.prog.godebug=none:=by kernel_rfl
theorem laidOut:laidOutB Tryz.prog=true:=by kernel_rfl
set_option maxRecDepth 100000 in
theorem lifted (os:Os) (started:os.Started) (H:Type) (enc:TypeId × Value→H) :
  ReturnsInHanded {} Tryz.checked os 8 .any (Rows.simulateLeadsSpec.pre6 enc Tryz.prog Tryz.f8 Rows.simulateLeadsRow.domain false) (Rows.simulateLeadsSpec.post enc Tryz.prog Tryz.f8 false true false false):=by
 refine returnsInHanded_of_change_sized (C:=Tryz.checked) own started (by kernel_rfl) Tryz.func8
  (ChangeSpec.witness6 (enc:=enc) (C:=Tryz.checked) false ⟨#[],#[.agg #[.int .i64 0,.slice none 0 0,.slice none 0 0,.slice none 0 0,.slice none 0 0,.slice none 0 0],.slice none 0 0,.int .i64 0],[]⟩ 8 (by kernel_rfl) (by kernel_rfl) (by kernel_rfl) (by kernel_rfl)) ?_
 intro W base args ds gs before hval0 hW hcnd hsz0 _
 have hval:∀ (j:Nat) t v,Tryz.f8.params[j]?=some t→args[j]?=some v→Value.okWide Tryz.prog W .any base t v:=hval0
 have hW':=hW
 obtain ⟨p,q,hA0,hV,rfl,hfz,hnd⟩:=hW
 have hA:DataW.TrodAll enc Tryz.prog W 0 (fun _=>true) true Tryz.f8.params.toList args.toList ds p:=hA0
 rw [Tryz.params8] at hA hval
 obtain ⟨v0,vs0,d0,ds0,p0,q0,hargs,rfl,rfl,h0,r0⟩:=trodAll_cons hA
 obtain ⟨v1,vs1,d1,ds1,p1,q1,rfl,rfl,rfl,h1,r1⟩:=trodAll_cons r0
 obtain ⟨v2,vs2,d2,ds2,p2,q2,rfl,rfl,rfl,h2,r2⟩:=trodAll_cons r1
 obtain ⟨rfl,rfl,rfl⟩:=trodAll_nil r2
 obtain rfl:args=#[v0,v1,v2]:=by cases args; simp_all
 obtain ⟨rfl,rfl⟩:=trodVars_none hV
 have hsz:(DataW.weightsEach Tryz.prog (Tryz.f8.params.toList++[]) ([d0,d1,d2]++[])).all (·≤reachBytes)=true:=hsz0
 rw [Tryz.params8] at hsz
 have k0:=h0
 have k1:=h1
 have k2:=h2
 have lt0:∀ x ∈ p0,x.block < W.heap.size:=by obtain ⟨m,hm⟩:=k0; exact DataW.trod_lt m _ _ _ hm
 have lt1:∀ x ∈ p1,x.block < W.heap.size:=by obtain ⟨m,hm⟩:=k1; exact DataW.trod_lt m _ _ _ hm
 have lt2:∀ x ∈ p2,x.block < W.heap.size:=by obtain ⟨m,hm⟩:=k2; exact DataW.trod_lt m _ _ _ hm
 obtain ⟨n0,x0,a0,b0⟩:=qrx q0y (by decide:29 ∈ _) (hval 0 29 v0 rfl rfl) h0
 obtain ⟨n1,x1,a1,b1⟩:=qrx q0y (by decide:30 ∈ _) (hval 1 30 v1 rfl rfl) h1
 obtain ⟨n2,x2,a2,b2⟩:=qrx q0y (by decide:3 ∈ _) (hval 2 3 v2 rfl rfl) h2
 obtain ⟨y0,rfl⟩:∃ m:Mch,x0=m.v:=by
  rcases b0 with ⟨vs,rfl,ht⟩ | ⟨ha,_⟩
  ·obtain ⟨m,rfl⟩:=q0v ht
   exact ⟨m,rfl⟩
  ·rw [ztz] at ha
   cases ha
 have z0:=q9k k0 a0 (qrj hsz (j:=0) rfl rfl)
 obtain ⟨y1,rfl⟩:∃ l:List Prs,x1=prs l:=by
  rcases b1 with ⟨vs,rfl,ht⟩ | ⟨_,ht⟩
  ·unfold rel at a1
   obtain ⟨us,rfl,_⟩:=a1
   obtain ⟨a,l,c,hh⟩:=okWide_slice Tryz.underlying30 (hval 1 30 _ rfl rfl)
   cases hh
  ·obtain ⟨l,hl⟩:=quz ht
   cases hl
   exact ⟨l,rfl⟩
 have z1:=q6j k1 (okWide_slice Tryz.underlying30 (hval 1 30 v1 rfl rfl)) a1 (qrj hsz (j:=1) rfl rfl)
 obtain ⟨y2,rfl⟩:∃ n:Int,x2=num n:=by
  rcases b2 with ⟨vs,rfl,ht⟩ | ⟨_,ht⟩
  ·unfold rel at a2
   obtain ⟨us,rfl,_⟩:=a2
   obtain ⟨a,hh⟩:=okWide_int Tryz.underlying3 (hval 2 3 _ rfl rfl)
   cases hh
  ·obtain ⟨m,hm⟩:=qdp ht
   cases hm
   exact ⟨m,rfl⟩
 clear hA0 hval0
 have hr:=ev8 y0 z0 y1 z1 y2
 refine (zju (us:=#[v0,v1,v2]) made (by unfold qaf; exact ⟨_,_,rfl,a0,by unfold qaf; exact ⟨_,_,rfl,a1,by unfold qaf; exact ⟨_,_,rfl,a2,by unfold qaf; rfl⟩⟩⟩) hr rfl).mono fun e W' ⟨he,old⟩=>?_
 subst he
 exact ⟨_,rfl,_,_,_,[],_,[],hW',trodAll_mk1 (shut_bool Tryz.underlying4 _),(trodAll_cons_mk (Old.trod laidOut (by kernel_rfl) (of_decide_eq_true (by kernel_rfl)) k0 old lt0) (trodAll_cons_mk (Old.trod laidOut (by kernel_rfl) (of_decide_eq_true (by kernel_rfl)) k1 old lt1) (trodAll_cons_mk (Old.trod laidOut (by kernel_rfl) (of_decide_eq_true (by kernel_rfl)) k2 old lt2) trodAll_mk0))),rfl,old.frame _,fun h=>by cases h⟩
theorem over:Rows.simulateLeadsRow.holds Tryz.pinned (OpenSpec.ofChange Rows.simulateLeadsSpec) :=
 OpenClaim.holds_of_wide 8 Tryz.f8 rfl rfl rfl rfl rfl rfl rfl ⟨rfl,rfl,rfl,rfl,rfl⟩ rfl rfl rfl rfl rfl (by kernel_rfl) Tryz.func8 (by kernel_rfl)
  (of_decide_eq_true (by kernel_rfl)) (by unfold Func.isWrapper; first | (rw [if_pos (by decide +kernel)]; kernel_rfl) | (rw [if_neg (by decide +kernel)]; exact ⟨rfl,rfl⟩))
  (fun os started H enc _=>lifted os started H enc)
theorem proved:Rows.SimulateLeadsSaid:=over
#print axioms proved
end Go.Proofs.YtlhciedghbmjjaaGreat.simulateLeadsDone
