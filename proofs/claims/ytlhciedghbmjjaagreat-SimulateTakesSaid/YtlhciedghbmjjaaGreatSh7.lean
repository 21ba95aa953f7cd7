/- What the arguments of the laws of machines in time are: machines, presses, pairs of small numbers; and how much memory they take. The law SimulateTakes returns true for every input, and leaves what came in as it was. It holds with no further condition. -/
import Derived.Test.YtlhciedghbmjjaaGreatTq3
import Derived.Test.YtlhciedghbmjjaaGreatSi2
import Derived.SizedLaws
import Derived.Deep.Slices
import Derived.WideShapes
import Derived.ChangeSame
import Derived.Test.YtlhciedghbmjjaaGreatRows
import Derived.Test.YtlhciedghbmjjaaGreatSi29
import Derived.ProofKit
import Derived.WalkKit
import Derived.OpenShut
import Derived.ShutString
import Derived.ChangeOld
import Derived.Below
import Derived.KernelRfl
set_option linter.all false
namespace Go.Proofs.YtlhciedghbmjjaaGreat
open Go Go.Am Go.Proofs
set_option maxRecDepth 100000
theorem zem:Tryz.prog.cellsOf 27=1:=by kernel_rfl
theorem zqn:Tryz.prog.cellsOf 29=6:=by kernel_rfl
theorem zld:Tryz.prog.cellsOf 71=2:=by kernel_rfl
theorem zfr:Tryz.prog.cellsOf 108=3:=by kernel_rfl
theorem znk:Tryz.prog.bytesOf 71=16:=by kernel_rfl
theorem zih:Tryz.prog.bytesOf 108=24:=by kernel_rfl
theorem zcu:zct Tryz.prog [29,26,27,71,30,108,22,23,24,106,104,102,9,3,4]=true:=by kernel_rfl
theorem z3o:qcu Tryz.prog 29=true:=by kernel_rfl
theorem zee {n:Nat} {vs:List V} (h:qbr Tryz.prog n 108 vs):∃ x:Prs,vs=x.row:=by
 cases n with
 | zero=>unfold qbr at h; exact absurd h (by simp)
 | succ n =>
  unfold qbr at h
  rw [Tryz.underlying108] at h
  obtain ⟨hl,hf⟩:=h
  rw [zfr] at hl
  match vs,hl with
  | [a,b,d],_ =>
   have h1:=hf _ (by simp; exact .inl rfl)
   have h2:=hf _ (by simp; exact .inr (.inl rfl))
   have h3:=hf _ (by simp; exact .inr (.inr rfl))
   simp [q0i,ziv] at h1 h2 h3
   obtain ⟨k,h1⟩:=qdr h1
   obtain ⟨i,h2⟩:=qdr h2
   obtain ⟨v,h3⟩:=quw h3
   simp at h1 h2 h3
   exact ⟨⟨k,i,v⟩,by simp [h1,h2,h3]⟩
theorem q7u {n:Nat} {vs:List V} (h:qbr Tryz.prog n 71 vs):∃ x:Int × Int,vs=zxh x:=by
 cases n with
 | zero=>unfold qbr at h; exact absurd h (by simp)
 | succ n =>
  unfold qbr at h
  rw [Tryz.underlying71] at h
  obtain ⟨hl,hf⟩:=h
  rw [zld] at hl
  match vs,hl with
  | [a,b],_ =>
   have h1:=hf _ (by simp; exact .inl rfl)
   have h2:=hf _ (by simp; exact .inr rfl)
   simp [q0i] at h1 h2
   obtain ⟨k,h1⟩:=qdr h1
   obtain ⟨i,h2⟩:=qdr h2
   simp at h1 h2
   exact ⟨(k,i),by simp [h1,h2]⟩
theorem zdf {n:Nat} {vs:List V} (h:qbr Tryz.prog n 29 vs):∃ m:Mch,vs=m.cells:=by
 cases n with
 | zero=>unfold qbr at h; exact absurd h (by simp)
 | succ n =>
  unfold qbr at h
  rw [Tryz.underlying29] at h
  obtain ⟨hl,hf⟩:=h
  rw [zqn] at hl
  match vs,hl with
  | [a0,a1,a2,a3,a4,a5],_ =>
   have h1:=hf _ (by simp; exact .inl rfl)
   have h2:=hf _ (by simp; exact .inr rfl)
   simp [zek,zem] at h1 h2
   obtain ⟨c,h1⟩:=zgx h1
   obtain ⟨ts,h2⟩:=qfs (row:=zxh) Tryz.underlying27 (fun n vs h=>q7u h) h2
   simp at h1 h2
   exact ⟨⟨c,ts⟩,by simp [h1,h2]⟩
theorem q7c {n:Nat} {vs:List V} (h:qbr Tryz.prog n 30 vs):∃ l:List Prs,vs=[prs l]:=qfs (row:=Prs.row) Tryz.underlying30 (fun n vs h=>zee h) h
section
variable {H:Type} {enc:TypeId × Value→H} {P:Program} {W:World} {base b0:Nat} {spare:Nat→Bool} {held:Bool}
theorem q5x {ts:List TypeId} {ds:List (DataW H)} (h:(DataW.weightsEach P ts ds).all (·≤reachBytes)=true) {j:Nat} {t:TypeId} {d:DataW H} (ht:ts[j]?=some t) (hd:ds[j]?=some d):(d.weights P t).all (·≤reachBytes)=true:=by
 rw [List.all_eq_true] at h ⊢
 exact fun n hn=>h n (DataW.weights_mem_each ht hd n hn)
theorem qzm {t e:TypeId} {fuel:Nat} {v:Value} {x:DataW H × List MemPlace} {els:List (List V)} {E:Env} (ht:P.underlying t=some (.slice e)) (h:DataW.trod enc P W base spare held fuel t [v]=some x) (hr:rel E (.imm els) v)
  (hz:(x.1.weights P t).all (·≤reachBytes)=true):els.length * P.bytesOf e≤reachBytes:=by
 unfold rel at hr
 obtain ⟨a,cap,rfl,-⟩:=hr
 rcases Go.Deep.open_slice ht h with ⟨hcs,rfl⟩ | ⟨a',len,cap',m,n,D,Pl,hcs,-,-,-,-,rfl,-⟩
 ·simp only [List.cons.injEq,Value.slice.injEq,and_true] at hcs
  rw [hcs.2.1,Nat.zero_mul]
  exact Nat.zero_le _
 ·simp only [List.cons.injEq,Value.slice.injEq,and_true] at hcs
  have:=List.all_eq_true.1 hz ((len + (m - len)) * P.bytesOf e) (by simp [DataW.weights,ht])
  simp only [decide_eq_true_eq] at this
  exact Nat.le_trans (Nat.mul_le_mul_right _ (by omega)) this
theorem zfa {v:Value} {d:DataW H} {ps:List MemPlace} {l:List Prs} {E:Env} (h:DataW.Trod enc Tryz.prog W base spare held 30 v d ps) (hv:∃ a n c,v=.slice a n c) (hr:rel E (prs l) v) (hz:(d.weights Tryz.prog 30).all (·≤reachBytes)=true):l.length * 24≤140737488355328:=by
 obtain ⟨fuel,hf⟩:=h
 have hc:v.cells.toList=[v]:=by
  obtain ⟨a,n,c,rfl⟩:=hv
  rfl
 rw [hc] at hf
 have:=qzm Tryz.underlying30 hf hr hz
 rw [zih,List.length_map] at this
 have hlt:=reachBytes_lt
 omega
theorem zns {v:Value} {d:DataW H} {ps:List MemPlace} {m:Mch} {E:Env} (h:DataW.Trod enc Tryz.prog W base spare held 29 v d ps) (hr:rel E m.v v) (hz:(d.weights Tryz.prog 29).all (·≤reachBytes)=true):m.ts.length * 16≤140737488355328:=by
 obtain ⟨fuel,hf⟩:=h
 unfold rel at hr
 obtain ⟨us,rfl,hr⟩:=hr
 obtain ⟨y0,y1,n,hd,hl,h1,h2⟩:=Go.ChangeShapes.trod_struct2 Tryz.underlying29 hf
 have hu:(Value.agg us).cells.toList=us.toList:=rfl
 rw [hu] at h2
 unfold qaf at hr; obtain ⟨u0,r0,e0,-,hr⟩:=hr
 unfold qaf at hr; obtain ⟨u1,r1,rfl,-,hr⟩:=hr
 unfold qaf at hr; obtain ⟨u2,r2,rfl,-,hr⟩:=hr
 unfold qaf at hr; obtain ⟨u3,r3,rfl,-,hr⟩:=hr
 unfold qaf at hr; obtain ⟨u4,r4,rfl,-,hr⟩:=hr
 unfold qaf at hr; obtain ⟨u5,r5,rfl,g,hr⟩:=hr
 rw [e0,zem] at h2
 simp only [List.drop_succ_cons,List.drop_zero,List.take_succ_cons,List.take_zero] at h2
 cases hd
 have hz1:(y1.1.weights Tryz.prog 27).all (·≤reachBytes)=true:=by
  rw [List.all_eq_true] at hz ⊢
  intro k hk
  refine hz k ?_
  unfold DataW.weights
  rw [Tryz.underlying29]
  simp [DataW.weightsEach,hk]
 have:=qzm Tryz.underlying27 h2 g hz1
 rw [znk,List.length_map] at this
 have hlt:=reachBytes_lt
 omega
end
end Go.Proofs.YtlhciedghbmjjaaGreat
namespace Go.Proofs.YtlhciedghbmjjaaGreat.simulateTakesDone
open Go Go.Am Go.Proofs Go.Proofs.YtlhciedghbmjjaaGreat
open Go.ChangeShapes Go.WideShapes Go.ChangeAt Go.RowKit
set_option linter.unusedVariables false
theorem own:ownKnob Tryz.prog.godebug=none:=by kernel_rfl
theorem laidOut:laidOutB Tryz.prog=true:=by kernel_rfl
set_option maxRecDepth 100000 in
theorem lifted (os:Os) (started:os.Started) (H:Type) (enc:TypeId × Value→H) :
  ReturnsInHanded {} Tryz.checked os 5 .any (Rows.simulateTakesSpec.pre6 enc Tryz.prog Tryz.f5 Rows.simulateTakesRow.domain false) (Rows.simulateTakesSpec.post enc Tryz.prog Tryz.f5 false true false false):=by
 refine returnsInHanded_of_change_sized (C:=Tryz.checked) own started (by kernel_rfl) Tryz.func5
  (ChangeSpec.witness6 (enc:=enc) (C:=Tryz.checked) false ⟨#[],#[.agg #[.int .i64 0,.slice none 0 0,.slice none 0 0,.slice none 0 0,.slice none 0 0,.slice none 0 0],.slice none 0 0,.int .i64 0],[]⟩ 8 (by kernel_rfl) (by kernel_rfl) (by kernel_rfl) (by kernel_rfl)) ?_
 intro W base args ds gs before hval0 hW hcnd hsz0 _
 have hval:∀ (j:Nat) t v,Tryz.f5.params[j]?=some t→args[j]?=some v→Value.okWide Tryz.prog W .any base t v:=hval0
 have hW':=hW
 obtain ⟨p,q,hA0,hV,rfl,hfz,hnd⟩:=hW
 have hA:DataW.TrodAll enc Tryz.prog W 0 (fun _=>true) true Tryz.f5.params.toList args.toList ds p:=hA0
 rw [Tryz.params5] at hA hval
 obtain ⟨v0,vs0,d0,ds0,p0,q0,hargs,rfl,rfl,h0,r0⟩:=trodAll_cons hA
 obtain ⟨v1,vs1,d1,ds1,p1,q1,rfl,rfl,rfl,h1,r1⟩:=trodAll_cons r0
 obtain ⟨v2,vs2,d2,ds2,p2,q2,rfl,rfl,rfl,h2,r2⟩:=trodAll_cons r1
 obtain ⟨rfl,rfl,rfl⟩:=trodAll_nil r2
 obtain rfl:args=#[v0,v1,v2]:=by cases args; simp_all
 obtain ⟨rfl,rfl⟩:=trodVars_none hV
 have hsz:(DataW.weightsEach Tryz.prog (Tryz.f5.params.toList++[]) ([d0,d1,d2]++[])).all (·≤reachBytes)=true:=hsz0
 rw [Tryz.params5] at hsz
 have k0:=h0
 have k1:=h1
 have k2:=h2
 have lt0:∀ x ∈ p0,x.block < W.heap.size:=by obtain ⟨m,hm⟩:=k0; exact DataW.trod_lt m _ _ _ hm
 have lt1:∀ x ∈ p1,x.block < W.heap.size:=by obtain ⟨m,hm⟩:=k1; exact DataW.trod_lt m _ _ _ hm
 have lt2:∀ x ∈ p2,x.block < W.heap.size:=by obtain ⟨m,hm⟩:=k2; exact DataW.trod_lt m _ _ _ hm
 obtain ⟨n0,x0,a0,b0⟩:=q3x zcu (by decide:29 ∈ _) (hval 0 29 v0 rfl rfl) h0
 obtain ⟨n1,x1,a1,b1⟩:=q3x zcu (by decide:30 ∈ _) (hval 1 30 v1 rfl rfl) h1
 obtain ⟨n2,x2,a2,b2⟩:=q3x zcu (by decide:3 ∈ _) (hval 2 3 v2 rfl rfl) h2
 obtain ⟨y0,rfl⟩:∃ m:Mch,x0=m.v:=by
  rcases b0 with ⟨vs,rfl,ht⟩ | ⟨ha,_⟩
  ·obtain ⟨m,rfl⟩:=zdf ht
   exact ⟨m,rfl⟩
  ·rw [z3o] at ha
   cases ha
 have z0:=zns k0 a0 (q5x hsz (j:=0) rfl rfl)
 obtain ⟨y1,rfl⟩:∃ l:List Prs,x1=prs l:=by
  rcases b1 with ⟨vs,rfl,ht⟩ | ⟨_,ht⟩
  ·unfold rel at a1
   obtain ⟨us,rfl,_⟩:=a1
   obtain ⟨a,l,c,hh⟩:=okWide_slice Tryz.underlying30 (hval 1 30 _ rfl rfl)
   cases hh
  ·obtain ⟨l,hl⟩:=q7c ht
   cases hl
   exact ⟨l,rfl⟩
 have z1:=zfa k1 (okWide_slice Tryz.underlying30 (hval 1 30 v1 rfl rfl)) a1 (q5x hsz (j:=1) rfl rfl)
 obtain ⟨y2,rfl⟩:∃ n:Int,x2=num n:=by
  rcases b2 with ⟨vs,rfl,ht⟩ | ⟨_,ht⟩
  ·unfold rel at a2
   obtain ⟨us,rfl,_⟩:=a2
   obtain ⟨a,hh⟩:=okWide_int Tryz.underlying3 (hval 2 3 _ rfl rfl)
   cases hh
  ·obtain ⟨m,hm⟩:=qdr ht
   cases hm
   exact ⟨m,rfl⟩
 clear hA0 hval0
 have hr:=ev5 y0 z0 y1 z1 y2
 refine (ztw (us:=#[v0,v1,v2]) made (by unfold qaf; exact ⟨_,_,rfl,a0,by unfold qaf; exact ⟨_,_,rfl,a1,by unfold qaf; exact ⟨_,_,rfl,a2,by unfold qaf; rfl⟩⟩⟩) hr rfl).mono fun e W' ⟨he,old⟩=>?_
 subst he
 exact ⟨_,rfl,_,_,_,[],_,[],hW',trodAll_mk1 (shut_bool Tryz.underlying4 _),(trodAll_cons_mk (Old.trod laidOut (by kernel_rfl) (of_decide_eq_true (by kernel_rfl)) k0 old lt0) (trodAll_cons_mk (Old.trod laidOut (by kernel_rfl) (of_decide_eq_true (by kernel_rfl)) k1 old lt1) (trodAll_cons_mk (Old.trod laidOut (by kernel_rfl) (of_decide_eq_true (by kernel_rfl)) k2 old lt2) trodAll_mk0))),rfl,old.frame _,fun h=>by cases h⟩
theorem over:Rows.simulateTakesRow.holds Tryz.pinned (OpenSpec.ofChange Rows.simulateTakesSpec) :=
 OpenClaim.holds_of_wide 5 Tryz.f5 rfl rfl rfl rfl rfl rfl rfl ⟨rfl,rfl,rfl,rfl,rfl⟩ rfl rfl rfl rfl rfl (by kernel_rfl) Tryz.func5 (by kernel_rfl)
  (of_decide_eq_true (by kernel_rfl)) (by unfold Func.isWrapper; first | (rw [if_pos (by decide +kernel)]; kernel_rfl) | (rw [if_neg (by decide +kernel)]; exact ⟨rfl,rfl⟩))
  (fun os started H enc _=>lifted os started H enc)
theorem proved:Rows.SimulateTakesSaid:=over
#print axioms proved
end Go.Proofs.YtlhciedghbmjjaaGreat.simulateTakesDone
