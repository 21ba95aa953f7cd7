/- The law DetectVerifies returns true for every input, and leaves what c. -/
import Derived.Test.YtbepbclaoohngaaGreatVTd3
import Derived.Test.YtbepbclaoohngaaGreatVRe1
import Derived.Test.YtbepbclaoohngaaGreatVDt7
import Derived.SizedLaws
import Derived.Deep.Slices
import Derived.WideShapes
import Derived.ChangeSame
import Derived.KernelRfl
import Derived.Test.YtbepbclaoohngaaGreatVEn4
import Derived.Test.YtbepbclaoohngaaGreatProg
import Derived.Shelf.Sort.Plain
import Derived.Shelf.Slices.In.SortNone
import Derived.Test.YtbepbclaoohngaaGreatVPg7
import Derived.Test.YtbepbclaoohngaaGreatRows
import Derived.Test.YtbepbclaoohngaaGreatVDt25
import Derived.ProofKit
import Derived.WalkKit
import Derived.OpenShut
import Derived.ShutString
import Derived.ChangeOld
import Derived.Below
set_option linter.all false
namespace Go.Proofs.YtbepbclaoohngaaGreat
open Go Go.Am Go.Proofs
set_option maxRecDepth 100000
theorem zsc:Tryz.prog.cellsOf 77=1:=by kernel_rfl
theorem zfa:Tryz.prog.cellsOf 79=5:=by kernel_rfl
theorem q5v{n:Nat}{vs:List V}(h:qct Tryz.prog n 79 vs):∃s:Ste,vs=s.cells:=by
 cases n with
 | zero=>unfold qct at h;exact absurd h (by simp)
 | succ n =>
  unfold qct at h
  rw[Tryz.underlying79]at h
  obtain⟨hl,hf⟩:=h
  rw[zfa]at hl
  match vs,hl with
  | [a0,a1,a2,a3,a4],_ =>
   have h0:=hf _ (by simp;exact .inl rfl)
   have h1:=hf _ (by simp;exact .inr (.inl rfl))
   have h2:=hf _ (by simp;exact .inr (.inr (.inl rfl)))
   have h3:=hf _ (by simp;exact .inr (.inr (.inr (.inl rfl))))
   have h4:=hf _ (by simp;exact .inr (.inr (.inr (.inr rfl))))
   simp[zez,zsc]at h0 h1 h2 h3 h4
   obtain⟨e,h0⟩:=qee (row:=qbj) Tryz.underlying24 (fun n vs h=>qfh h) h0
   obtain⟨w,h1⟩:=qee (row:=qfa) Tryz.underlying77 (fun n vs h=>qof h) h1
   obtain⟨i,h2⟩:=qee (row:=qfa) Tryz.underlying77 (fun n vs h=>qof h) h2
   obtain⟨v,h3⟩:=qee (row:=qfa) Tryz.underlying77 (fun n vs h=>qof h) h3
   obtain⟨t,h4⟩:=qee (row:=qbj) Tryz.underlying24 (fun n vs h=>qfh h) h4
   simp at h0 h1 h2 h3 h4
   refine⟨⟨e,w,i,v,t⟩,?_⟩
   simp[h0,h1,h2,h3,h4]
theorem zky:Tryz.prog.cellsOf 121=10:=by kernel_rfl
theorem zkv:Tryz.prog.bytesOf 121=240:=by kernel_rfl
theorem zis:zit Tryz.prog [26,28,9,3,4,22,23,24,141,143,145,31,105,77,79,121,40,5]=true:=by kernel_rfl
theorem zdq{n:Nat}{vs:List V}(h:qct Tryz.prog n 121 vs):∃p:Ste×Ste,vs=qbw p:=by
 cases n with
 | zero=>unfold qct at h;exact absurd h (by simp)
 | succ n =>
  unfold qct at h
  rw[Tryz.underlying121]at h
  obtain⟨hl,hf⟩:=h
  rw[zky]at hl
  match vs,hl with
  | [a0,a1,a2,a3,a4,a5,a6,a7,a8,a9],_ =>
   have h0:=hf _ (by simp;exact .inl rfl)
   have h1:=hf _ (by simp;exact .inr rfl)
   simp[zfa]at h0 h1
   obtain⟨s,h0⟩:=q5v h0
   obtain⟨t,h1⟩:=q5v h1
   refine⟨(s,t),?_⟩
   simp at h0 h1
   simp[h0,h1]
theorem q8c{n:Nat}{vs:List V}(h:qct Tryz.prog n 40 vs):∃l:List (Ste×Ste),vs=[prs l]:=qee (row:=qbw) Tryz.underlying40 (fun n vs h=>zdq h) h
section
variable{H:Type}{enc:TypeId×Value->H}{P:Program}{W:World}{base b0:Nat}{spare:Nat->Bool}{held:Bool}
theorem znz{ts:List TypeId}{ds:List (DataW H)}(h:(DataW.weightsEach P ts ds).all (·<=reachBytes)=true){j:Nat}{t:TypeId}{d:DataW H}(ht:ts[j]?=some t)(hd:ds[j]?=some d):(d.weights P t).all (·<=reachBytes)=true:=by
 rw[jP]at h ⊢
 exact fun n hn=>h n (DataW.weights_mem_each ht hd n hn)
theorem zhd{t e:TypeId}{fuel:Nat}{v:Value}{x:DataW H×List MemPlace}{els:List (List V)}{E:Env}(ht:P.underlying t=some (.slice e))(h:DataW.trod enc P W base spare held fuel t [v]=some x)(hr:rel E (.imm els) v)
  (hz:(x.1.weights P t).all (·<=reachBytes)=true):els.length*P.bytesOf e<=reachBytes:=by
 unfold rel at hr
 obtain⟨a,cap,rfl,-⟩:=hr
 rcases Go.Deep.open_slice ht h with⟨hcs,rfl⟩ | ⟨a',len,cap',m,n,D,Pl,hcs,-,-,-,-,rfl,-⟩
 .simp only[List.cons.injEq,Value.slice.injEq,and_true]at hcs
  rw[hcs.2.1,Nat.zero_mul]
  exact Nat.zero_le _
 .simp only[List.cons.injEq,Value.slice.injEq,and_true]at hcs
  have:=jP.1 hz ((len+(m-len))*P.bytesOf e) (by simp[DataW.weights,ht])
  simp only[jW]at this
  exact Nat.le_trans (jV _ (by omega)) this
theorem zhc{v:Value}{d:DataW H}{ps:List MemPlace}{l:List (Ste×Ste)}{E:Env}(h:DataW.Trod enc Tryz.prog W base spare held 40 v d ps)(hv:∃a n c,v=.slice a n c)(hr:rel E (prs l) v)(hz:(d.weights Tryz.prog 40).all (·<=reachBytes)=true):l.length<=140737488355328:=by
 obtain⟨fuel,hf⟩:=h
 have hc:v.cells.toList=[v]:=by
  obtain⟨a,n,c,rfl⟩:=hv
  rfl
 rw[hc]at hf
 have:=zhd Tryz.underlying40 hf hr hz
 rw[zkv,List.length_map]at this
 have hlt:=reachBytes_lt
 omega
end
end Go.Proofs.YtbepbclaoohngaaGreat
namespace Go.Proofs.YtbepbclaoohngaaGreat
open Go Go.Am Go.Proofs Go.Shelf
set_option maxRecDepth 100000
def jgj:Go.Shelf.Ren:=⟨fun | 189=>156 | 125=>223 | 257=>222 | 128=>268 | 129=>269 | 294=>259 | 295=>260 | 296=>261 | 297=>262 | 298=>263 | 299=>264 | 216=>265 | 300=>266 | 301=>267 | 328=>284 | 329=>285 | 330=>286 | 331=>287 | 332=>288 | 215=>289 | 343=>300 | n=>n,fun | 28=>24 | 3=>3 | 46=>313 | 0=>0 | 51=>349 | 53=>351 | 4=>4 | 183=>343 | 182=>342 | 131=>331 | 5=>5 | 9=>9 | 218=>370 | 222=>309 | 228=>388 | 229=>389 | n=>n,fun | n=>n⟩
theorem lyS:Go.Proofs.Lays.n189 Tryz.prog jgj:={ mixed:=by kernel_rfl,f125:=Tryz.func223.trans (congrArg some (by kernel_rfl)),f128:=Tryz.func268.trans (congrArg some (by kernel_rfl)),f129:=Tryz.func269.trans (congrArg some (by kernel_rfl)),f189:=Tryz.func156.trans (congrArg some (by kernel_rfl)),f215:=Tryz.func289.trans (congrArg some (by kernel_rfl)),f216:=Tryz.func265.trans (congrArg some (by kernel_rfl)),f257:=Tryz.func222.trans (congrArg some (by kernel_rfl)),f294:=Tryz.func259.trans (congrArg some (by kernel_rfl)),f295:=Tryz.func260.trans (congrArg some (by kernel_rfl)),f296:=Tryz.func261.trans (congrArg some (by kernel_rfl)),f297:=Tryz.func262.trans (congrArg some (by kernel_rfl)),f298:=Tryz.func263.trans (congrArg some (by kernel_rfl)),f299:=Tryz.func264.trans (congrArg some (by kernel_rfl)),f300:=Tryz.func266.trans (congrArg some (by kernel_rfl)),f301:=Tryz.func267.trans (congrArg some (by kernel_rfl)),f328:=Tryz.func284.trans (congrArg some (by kernel_rfl)),f329:=Tryz.func285.trans (congrArg some (by kernel_rfl)),f330:=Tryz.func286.trans (congrArg some (by kernel_rfl)),f331:=Tryz.func287.trans (congrArg some (by kernel_rfl)),f332:=Tryz.func288.trans (congrArg some (by kernel_rfl)),f343:=Tryz.func300.trans (congrArg some (by kernel_rfl)),t0:=Tryz.underlying0,a0:=Tryz.isAgg0,z0:=Tryz.sizeOf0,v0:=Tryz.zeroValue0,t3:=Tryz.underlying3,a3:=Tryz.isAgg3,z3:=Tryz.sizeOf3,v3:=Tryz.zeroValue3,t4:=Tryz.underlying4,a4:=Tryz.isAgg4,z4:=Tryz.sizeOf4,v4:=Tryz.zeroValue4,t5:=Tryz.underlying5,a5:=Tryz.isAgg5,z5:=Tryz.sizeOf5,v5:=Tryz.zeroValue5,t9:=Tryz.underlying9,a9:=Tryz.isAgg9,z9:=Tryz.sizeOf9,v9:=Tryz.zeroValue9,t28:=Tryz.underlying24,a28:=Tryz.isAgg24,z28:=Tryz.sizeOf24,v28:=Tryz.zeroValue24,t46:=Tryz.underlying313,a46:=Tryz.isAgg313,z46:=Tryz.sizeOf313,v46:=Tryz.zeroValue313,t51:=Tryz.underlying349,a51:=Tryz.isAgg349,z51:=Tryz.sizeOf349,v51:=Tryz.zeroValue349,t53:=Tryz.underlying351,a53:=Tryz.isAgg351,z53:=Tryz.sizeOf351,v53:=Tryz.zeroValue351,t131:=Tryz.underlying331,a131:=Tryz.isAgg331,z131:=Tryz.sizeOf331,v131:=Tryz.zeroValue331,t182:=Tryz.underlying342,a182:=Tryz.isAgg342,z182:=Tryz.sizeOf342,v182:=Tryz.zeroValue342,t183:=Tryz.underlying343,a183:=Tryz.isAgg343,z183:=Tryz.sizeOf343,v183:=Tryz.zeroValue343,t218:=Tryz.underlying370,a218:=Tryz.isAgg370,z218:=Tryz.sizeOf370,v218:=Tryz.zeroValue370,t222:=Tryz.underlying309,a222:=Tryz.isAgg309,z222:=Tryz.sizeOf309,v222:=Tryz.zeroValue309,t228:=Tryz.underlying388,a228:=Tryz.isAgg388,z228:=Tryz.sizeOf388,v228:=Tryz.zeroValue388,t229:=Tryz.underlying389,a229:=Tryz.isAgg389,z229:=Tryz.sizeOf389,v229:=Tryz.zeroValue389 }
theorem jek:qud Tryz.prog 156 :=
 ⟨⟨_,Tryz.func156,by decide,by kernel_rfl⟩,fun blk off cap zs w h1 h2 h3=>Any.slices_Sort_int lyS blk off cap zs w h1 h2 h3,fun p cap w=>calls_of_every_depth fun D=>AnyS.slices_Sort_int_none_alone lyS D p cap w⟩
theorem jed:∀f g,pg0 f=some g->∃fn fresh raw md,Tryz.prog.funcs[qlx f]?=some fn/\zwj Tryz.prog fresh raw fn md=some g:=by
 intro f g h
 have h2:cF f=some g:=by
  unfold pg0 at h
  split at h
  .rename_i e;rw[<-h];exact zgg z2l e
  .exact h
 unfold cF at h2
 change (Tryz.prog.funcs[qlx f]?).bind _=_ at h2
 cases e:Tryz.prog.funcs[qlx f]? with
 | none=>rw[e]at h2;cases h2
 | some fn=>rw[e]at h2;exact⟨fn,_,_,_,rfl,h2⟩
theorem made:Made Tryz.prog pg:=by
 intro f g h
 unfold pg at h
 split at h
 .rename_i e
  cases Nat.eq_of_beq_eq_true e
  cases h
  exact .inr ⟨rfl,by decide,jek⟩
 .exact .inl (jed f g h)
end Go.Proofs.YtbepbclaoohngaaGreat
namespace Go.Proofs.YtbepbclaoohngaaGreat.detectVerifiesDone
open Go Go.Am Go.Proofs Go.Proofs.YtbepbclaoohngaaGreat
open Go.ChangeShapes Go.WideShapes Go.ChangeAt Go.RowKit
set_option linter.unusedVariables false
theorem own:ownKnob Tryz.prog.godebug=none:=by kernel_rfl
theorem laidOut:laidOutB Tryz.prog=true:=by kernel_rfl
set_option maxRecDepth 100000 in
theorem lifted(os:Os)(started:os.Started)(H:Type)(enc:TypeId×Value->H) :
  ReturnsInHanded {} Tryz.checked os 7 .any (Rows.detectVerifiesSpec.pre6 enc Tryz.prog Tryz.f7 Rows.detectVerifiesRow.domain false) (Rows.detectVerifiesSpec.post enc Tryz.prog Tryz.f7 false true false false):=by
 refine returnsInHanded_of_change_sized (C:=Tryz.checked) own started (by kernel_rfl) Tryz.func7
  (ChangeSpec.witness6 (enc:=enc) (C:=Tryz.checked) false ⟨#[],#[.agg #[.int .i64 0,.slice none 0 0,.slice none 0 0,.slice none 0 0,.slice none 0 0],.agg #[.int .i64 0,.int .i64 0],.slice none 0 0],[]⟩ 8 (by kernel_rfl) (by kernel_rfl) (by kernel_rfl) (by kernel_rfl)) ?_
 intro W base args ds gs before hval0 hW hcnd hsz0 _
 have hval:∀(j:Nat) t v,Tryz.f7.params[j]?=some t->args[j]?=some v->Value.okWide Tryz.prog W .any base t v:=hval0
 have hW':=hW
 obtain⟨p,q,hA0,hV,rfl,hfz,hnd⟩:=hW
 have hA:DataW.TrodAll enc Tryz.prog W 0 (fun _=>true) true Tryz.f7.params.toList args.toList ds p:=hA0
 rw[Tryz.params7]at hA hval
 obtain⟨v0,vs0,d0,ds0,p0,q0,hargs,rfl,rfl,h0,r0⟩:=trodAll_cons hA
 obtain⟨v1,vs1,d1,ds1,p1,q1,rfl,rfl,rfl,h1,r1⟩:=trodAll_cons r0
 obtain⟨v2,vs2,d2,ds2,p2,q2,rfl,rfl,rfl,h2,r2⟩:=trodAll_cons r1
 obtain⟨rfl,rfl,rfl⟩:=trodAll_nil r2
 obtain rfl:args=#[v0,v1,v2]:=by cases args;simp_all
 obtain⟨rfl,rfl⟩:=trodVars_none hV
 have hsz:(DataW.weightsEach Tryz.prog (Tryz.f7.params.toList++[]) ([d0,d1,d2]++[])).all (·<=reachBytes)=true:=hsz0
 rw[Tryz.params7]at hsz
 have k0:=h0
 have k1:=h1
 have k2:=h2
 have lt0:∀x∈p0,x.block<W.heap.size:=by obtain⟨m,hm⟩:=k0;exact DataW.trod_lt m _ _ _ hm
 have lt1:∀x∈p1,x.block<W.heap.size:=by obtain⟨m,hm⟩:=k1;exact DataW.trod_lt m _ _ _ hm
 have lt2:∀x∈p2,x.block<W.heap.size:=by obtain⟨m,hm⟩:=k2;exact DataW.trod_lt m _ _ _ hm
 obtain⟨n0,x0,a0,b0⟩:=q6m zis (by decide:26∈_) (hval 0 26 v0 rfl rfl) h0
 obtain⟨n1,x1,a1,b1⟩:=q6m zis (by decide:28∈_) (hval 1 28 v1 rfl rfl) h1
 obtain⟨n2,x2,a2,b2⟩:=q6m zis (by decide:40∈_) (hval 2 40 v2 rfl rfl) h2
 obtain⟨y0,rfl⟩:∃c:Ct,x0=c.v:=by
  rcases b0 with⟨vs,rfl,ht⟩ | ⟨ha,_⟩
  .obtain⟨c,rfl⟩:=zoc ht
   exact⟨c,rfl⟩
  .rw[jam]at ha
   cases ha
 obtain⟨y1,y1i,rfl⟩:∃k i:Int,x1=fv k i:=by
  rcases b1 with⟨vs,rfl,ht⟩ | ⟨ha,_⟩
  .obtain⟨k,i,rfl⟩:=zod ht
   exact⟨k,i,rfl⟩
  .rw[jan]at ha
   cases ha
 obtain⟨y2,rfl⟩:∃l:List (Ste×Ste),x2=prs l:=by
  rcases b2 with⟨vs,rfl,ht⟩ | ⟨_,ht⟩
  .unfold rel at a2
   obtain⟨us,rfl,_⟩:=a2
   obtain⟨a,l,c,hh⟩:=okWide_slice Tryz.underlying40 (hval 2 40 _ rfl rfl)
   cases hh
  .obtain⟨l,hl⟩:=q8c ht
   cases hl
   exact⟨l,rfl⟩
 have z2:=zhc k2 (okWide_slice Tryz.underlying40 (hval 2 40 v2 rfl rfl)) a2 (znz hsz (j:=2) rfl rfl)
 clear hA0 hval0
 have hr:=ev7 y0 y1 y1i y2 z2
 refine(zzc (us:=#[v0,v1,v2]) made (by unfold qak;exact⟨_,_,rfl,a0,by unfold qak;exact⟨_,_,rfl,a1,by unfold qak;exact⟨_,_,rfl,a2,by unfold qak;rfl⟩⟩⟩) hr rfl).mono fun e W' ⟨he,old⟩=>?_
 subst he
 exact⟨_,rfl,_,_,_,[],_,[],hW',trodAll_mk1 (shut_bool Tryz.underlying4 _),(trodAll_cons_mk (Old.trod laidOut (by kernel_rfl) (of_decide_eq_true (by kernel_rfl)) k0 old lt0) (trodAll_cons_mk (Old.trod laidOut (by kernel_rfl) (of_decide_eq_true (by kernel_rfl)) k1 old lt1) (trodAll_cons_mk (Old.trod laidOut (by kernel_rfl) (of_decide_eq_true (by kernel_rfl)) k2 old lt2) trodAll_mk0))),rfl,old.frame _,fun h=>by cases h⟩
end Go.Proofs.YtbepbclaoohngaaGreat.detectVerifiesDone
