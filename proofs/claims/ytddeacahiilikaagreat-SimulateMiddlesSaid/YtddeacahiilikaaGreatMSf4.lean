/- What comes in is a pure value of its type: types that may be parts of themselves. What the arguments of the laws of fault are. What the arguments of the law of middles are: plants, machines. The law SimulateMiddles returns true for every input, and leaves what came in as it was. It holds with no further condition. -/
import Derived.Test.YtddeacahiilikaaGreatMEn5
import Derived.Test.YtddeacahiilikaaGreatMCt2
import Derived.Test.YtddeacahiilikaaGreatMPc1
import Derived.Test.YtddeacahiilikaaGreatMSi1
import Derived.SizedLaws
import Derived.Deep.Slices
import Derived.WideShapes
import Derived.ChangeSame
import Derived.KernelRfl
import Derived.Test.YtddeacahiilikaaGreatRows
import Derived.Test.YtddeacahiilikaaGreatMMi4
import Derived.ProofKit
import Derived.WalkKit
import Derived.OpenShut
import Derived.ShutString
import Derived.ChangeOld
import Derived.Below
set_option linter.all false
namespace Go.Am
open Go (World Value Addr Obj Program TypeId TypeDesc DataW MemPlace maxLen Lit)
def zcu(P:Program)(S:List TypeId):Bool:=S.all fun t=>match P.underlying t with
 | some .bool | some (.int _) | some .string=>P.cellsOf t==1
 | some (.slice e)=>P.cellsOf t==1&&P.cellsOf e != 0&&S.contains e
 | some (.struct fs)=>qoc P fs.toList 0==some (P.cellsOf t)&&fs.toList.all fun f=>S.contains f.type
 | _=>false
theorem qxi{H:Type}{enc:TypeId×Value->H}{P:Program}{w:World}{base:Nat}{spare:Nat->Bool}{held:Bool}{S:List TypeId}(hS:zcu P S=true):∀(n:Nat) (t:TypeId) (cs:List Value) (x:DataW H×List MemPlace),t∈S->DataW.trod enc P w base spare held n t cs=some x ->
  ∃vs,qah (q2n w) vs cs/\vs.all V.pcell=true/\qbj P n t vs/\cs.length=P.cellsOf t
 | 0,t,cs,x,_,h=>by simp[DataW.trod]at h
 | n+1,t,cs,x,hm,h=>by
  have hp:=jP.1 hS t hm
  split at hp
  .rename_i ht
   have hc:P.cellsOf t=1:=by simpa using hp
   unfold DataW.trod at h
   rw[ht]at h
   obtain⟨b,rfl⟩:∃b,cs=[.bool b]:=by
    rcases cs with _ | ⟨c,_ | ⟨c',cs⟩⟩
    .simp at h
    .cases c<;>simp at h
     exact⟨_,rfl⟩
    .cases c<;>simp at h
   refine⟨[.bool b],?_,rfl,?_,by simp[hc]⟩
   .unfold qah;exact⟨_,_,rfl,by unfold rel;rfl,by unfold qah;rfl⟩
   .unfold qbj;rw[ht];exact⟨b,rfl⟩
  .rename_i k ht
   have hc:P.cellsOf t=1:=by simpa using hp
   unfold DataW.trod at h
   rw[ht]at h
   obtain⟨m,rfl,hwf⟩:∃m,cs=[.int k m]/\(Lit.int k m).wf=true:=by
    rcases cs with _ | ⟨c,_ | ⟨c',cs⟩⟩
    .simp at h
    .cases c<;>simp at h
     rename_i k' m
     obtain⟨⟨rfl,h2⟩,_⟩:=h
     exact⟨m,rfl,h2⟩
    .cases c<;>simp at h
   refine⟨[.int k m],?_,rfl,?_,by simp[hc]⟩
   .unfold qah;exact⟨_,_,rfl,by unfold rel;rfl,by unfold qah;rfl⟩
   .unfold qbj;rw[ht];exact⟨m,rfl,hwf⟩
  .rename_i ht
   have hc:P.cellsOf t=1:=by simpa using hp
   unfold DataW.trod at h
   rw[ht]at h
   obtain⟨b,rfl,hb⟩:∃b:ByteArray,cs=[.string b]/\b.size<=maxLen:=by
    rcases cs with _ | ⟨c,_ | ⟨c',cs⟩⟩
    .simp at h
    .cases c<;>simp at h
     exact⟨_,rfl,h.1⟩
    .cases c<;>simp at h
   refine⟨[.str b.data.toList],?_,rfl,?_,by simp[hc]⟩
   .unfold qah;exact⟨_,_,rfl,by unfold rel;simp,by unfold qah;rfl⟩
   .unfold qbj;rw[ht];exact⟨_,rfl,by rw[Array.length_toList];exact hb⟩
  .rename_i e ht
   simp only[jE,beq_iff_eq,bne_iff_ne]at hp
   obtain⟨⟨hc,hce⟩,hpe⟩:=hp
   rcases DataW.trod_slice ht h with⟨rfl,_⟩ | ⟨a,len,cap,elems,rest,n',hn',rfl,_,_,hlc,hcm,hlen',hel,_,_⟩
   .refine⟨[.imm []],?_,rfl,?_,by simp[hc]⟩
    .unfold qah
     refine⟨_,_,rfl,?_,by unfold qah;rfl⟩
     unfold rel
     exact⟨none,0,rfl,jD _,rfl,.inl rfl⟩
    .unfold qbj;rw[ht];exact⟨[],rfl,Nat.zero_le _,fun r hr=>by cases hr⟩
   .obtain rfl:n=n':=by omega
    -- the elements
    have each:∀i,i<len->∃(vs:List V) (cs':List Value),w.cells? base (a.add (i*P.cellsOf e)) (P.cellsOf e)=some cs'/\qah (q2n w) vs cs'/\vs.all V.pcell=true/\qbj P n e vs/\cs'.length=P.cellsOf e:=by
     intro i hi
     have h1:=hel i hi
     rw[jA (by omega),jB]at h1
     obtain⟨cs',g1,g2⟩:=h1
     obtain⟨vs,k1,k2,k3,k4⟩:=qxi hS n e cs' _ (List.contains_iff_mem.1 hpe) g2
     exact⟨vs,cs',g1,k1,k2,k3,k4⟩
    have build:∀k,k<=len->∃els:List (List V),els.length=k/\qcc els=true/\(∀r∈els,r.length=P.cellsOf e/\qbj P n e r)/\∀(i:Nat) r,els[i]?=some r->∃cs',w.cells? base (a.add (i*P.cellsOf e)) (P.cellsOf e)=some cs'/\qah (q2n w) r cs':=by
     intro k
     induction k with
     | zero=>intro _;exact⟨[],rfl,rfl,(fun r hr=>by cases hr),(fun i r h=>by simp at h)⟩
     | succ k ih =>
      intro hk
      obtain⟨els,e1,e2,e3,e4⟩:=ih (by omega)
      obtain⟨vs,cs',g1,g2,g3,g4,g5⟩:=each k (by omega)
      refine⟨els++[vs],by simp[e1],qhv e2 (by simp[qcc];simpa using g3),fun r hr=>?_,fun i r hi=>?_⟩
      .rcases jQ.1 hr with hr | hr
       .exact e3 r hr
       .simp at hr;subst hr
        exact⟨by rw[qap g2,g5],g4⟩
      .by_cases hik:i<k
       .rw[jI (by omega)]at hi
        exact e4 i r hi
       .rw[jJ (by omega)]at hi
        have h0:i-els.length=0:=by
         have:=(jG.1 hi).1
         simp at this;omega
        rw[h0]at hi
        simp at hi
        subst hi
        have:i=k:=by omega
        subst this
        exact⟨cs',g1,g2⟩
    obtain⟨els,e1,e2,e3,e4⟩:=build len (jD _)
    refine⟨[.imm els],?_,rfl,?_,by simp[hc]⟩
    .unfold qah
     refine⟨_,_,rfl,?_,by unfold qah;rfl⟩
     unfold rel
     refine⟨some a,cap,by rw[e1],by omega,e2,?_⟩
     by_cases h0:els=[]
     .exact .inl h0
     .right
      have hlen:0<len:=by rw[<-e1];exact jZ.2 h0
      obtain⟨vs,cs',g1,_⟩:=each 0 hlen
      have hblk:=Go.World.cells?_block g1 (by omega)
      have hspot:a.spot=none:=by
       obtain⟨q1,q2,q3⟩:=Go.World.cells?_some g1
       have h0':=q3 0 (by omega)
       rw[jA (by omega)]at h0'
       have:=Go.World.cell?_spot h0'
       simpa[Go.Addr.add]using this
      obtain⟨b,o,sp⟩:=a
      simp only at hspot
      subst hspot
      refine⟨b,o,P.cellsOf e,rfl,by omega,(by simpa[qbs]using hblk:b<w.heap.size),?_⟩
      rw[qfq]
      intro i r hi
      refine⟨(e3 r (jR hi)).1,?_⟩
      obtain⟨cs',g1,g2⟩:=e4 i r hi
      refine qeg (us:=cs') (fun j u hj=>?_) g2
      obtain⟨q1,q2,q3⟩:=Go.World.cells?_some g1
      have hjl:=(jG.1 hj).1
      have:=q3 j (by omega)
      rw[qbs,qbs,hj]at this
      exact this
    .unfold qbj;rw[ht];exact⟨els,rfl,by omega,e3⟩
  .rename_i fs ht
   simp only[jE,beq_iff_eq,jP]at hp
   obtain⟨htl,hall⟩:=hp
   unfold DataW.trod at h
   rw[ht]at h
   have hs:cs.length=P.cellsOf t/\∃xs,(fs.toList.mapM fun f=>DataW.trod enc P w base spare held n f.type ((cs.drop f.offset).take (P.cellsOf f.type)))=some xs:=by
    simp only at h
    split at h
    .rename_i hl
     simp only[jM]at h
     obtain⟨xs,h1,_⟩:=h
     exact⟨hl,xs,h1⟩
    .cases h
   obtain⟨hl,xs,hxs⟩:=hs
   have hf:∀f∈fs.toList,∃y,DataW.trod enc P w base spare held n f.type ((cs.drop f.offset).take (P.cellsOf f.type))=some y:=by
    intro f hfm
    obtain⟨i,hi⟩:=List.mem_iff_getElem?.1 hfm
    have h1:=Go.mapM_some_get hxs i f hi
    have h2:=Go.mapM_some_length hxs
    have h3:=(jG.1 hi).1
    rw[jA (by omega)]at h1
    exact⟨_,h1⟩
   obtain⟨vs,k1,k2,k3⟩:=qsi (E:=q2n w) (n:=n) htl hl fun f hfm=>by
    obtain⟨y,hy⟩:=hf f hfm
    obtain⟨vs,q1,q2,q3,_⟩:=qxi hS n f.type _ y (List.contains_iff_mem.1 (hall f hfm)) hy
    exact⟨vs,q1,q2,q3⟩
   refine⟨vs,by simpa using k1,k2,?_,hl⟩
   unfold qbj
   rw[ht]
   refine⟨?_,fun f hfm=>by simpa using k3 [] rfl f hfm⟩
   have:=qap k1
   simpa[hl]using this
  .cases hp
theorem q9b{H:Type}{enc:TypeId×Value->H}{P:Program}{W:World}{base b0:Nat}{spare:Nat->Bool}{held:Bool}{reach:Go.Reach}{t:TypeId}{v:Value}{d:DataW H}{ps:List MemPlace}{S:List TypeId}(hS:zcu P S=true)(hp:t∈S)
  (hv:Value.okWide P W reach b0 t v) (h:DataW.Trod enc P W base spare held t v d ps) :
  ∃n,∃x:V,rel (q2n W) x v/\((∃vs,x=.agg vs/\qbj P n t vs)\/(qcr P t=false/\qbj P n t [x])):=by
 obtain⟨n,hf⟩:=h
 refine⟨n,?_⟩
 obtain⟨vs,k1,k2,k3,k4⟩:=qxi hS n t v.cells.toList _ hp hf
 have one:qcr P t=false->v.cells=#[v]->∃x:V,rel (q2n W) x v/\((∃vs,x=.agg vs/\qbj P n t vs)\/(qcr P t=false/\qbj P n t [x])):=by
  intro ha hc
  rw[hc]at k1
  cases vs with
  | nil=>unfold qah at k1;cases k1
  | cons x vs =>
   unfold qah at k1
   obtain⟨u,us,e,r1,r2⟩:=k1
   cases e
   cases vs with
   | nil=>exact⟨x,r1,.inr ⟨ha,k3⟩⟩
   | cons y vs=>unfold qah at r2;obtain⟨_,_,e,_⟩:=r2;cases e
 have hp:=jP.1 hS t hp
 .split at hp
  .rename_i ht
   obtain⟨b,rfl⟩:=Go.WideShapes.okWide_bool ht hv
   exact one (by simp[qcr,ht]) rfl
  .rename_i k ht
   obtain⟨b,rfl⟩:=Go.WideShapes.okWide_int ht hv
   exact one (by simp[qcr,ht]) rfl
  .rename_i ht
   obtain⟨b,rfl⟩:=Go.WideShapes.okWide_string ht hv
   exact one (by simp[qcr,ht]) rfl
  .rename_i e ht
   obtain⟨a,l,c,rfl⟩:=Go.WideShapes.okWide_slice ht hv
   exact one (by simp[qcr,ht]) rfl
  .rename_i fs ht
   obtain⟨cs,rfl,hc⟩:=Go.WideShapes.okWide_struct ht hv
   exact⟨.agg vs,by unfold rel;exact⟨cs,rfl,k1⟩,.inl ⟨vs,rfl,k3⟩⟩
  .cases hp
end Go.Am
namespace Go.Proofs.YtddeacahiilikaaGreat
open Go Go.Am Go.Proofs
set_option maxRecDepth 100000
theorem qyt:Tryz.prog.cellsOf 3=1:=by kernel_rfl
theorem zuk:Tryz.prog.cellsOf 4=1:=by kernel_rfl
theorem zul:Tryz.prog.cellsOf 9=1:=by kernel_rfl
theorem zkr:Tryz.prog.cellsOf 22=1:=by kernel_rfl
theorem zks:Tryz.prog.cellsOf 23=1:=by kernel_rfl
theorem zkt:Tryz.prog.cellsOf 24=1:=by kernel_rfl
theorem q9q:Tryz.prog.cellsOf 26=5:=by kernel_rfl
theorem zfk:Tryz.prog.cellsOf 113=1:=by kernel_rfl
theorem q3z:Tryz.prog.cellsOf 115=3:=by kernel_rfl
theorem zfl:Tryz.prog.cellsOf 117=10:=by kernel_rfl
theorem qed{n:Nat}{vs:List V}(h:qbj Tryz.prog n 3 vs):∃m,vs=[num m]:=by
 cases n with
 | zero=>unfold qbj at h;exact absurd h (by simp)
 | succ n =>
  unfold qbj at h
  rw[Tryz.underlying3]at h
  obtain⟨m,rfl,hw⟩:=h
  exact⟨m,rfl⟩
theorem q8e{n:Nat}{vs:List V}(h:qbj Tryz.prog n 4 vs):∃b,vs=[.bool b]:=by
 cases n with
 | zero=>unfold qbj at h;exact absurd h (by simp)
 | succ n =>
  unfold qbj at h
  rw[Tryz.underlying4]at h
  exact h
theorem q0y{n:Nat}{vs:List V}(h:qbj Tryz.prog n 9 vs):∃s,vs=[.str s]/\s.length<=maxLen:=by
 cases n with
 | zero=>unfold qbj at h;exact absurd h (by simp)
 | succ n =>
  unfold qbj at h
  rw[Tryz.underlying9]at h
  exact h
theorem qpg{n e:Nat}{α:Type}{row:α->List V}(hr:∀vs,qbj Tryz.prog n e vs->∃x,vs=row x):∀{els:List (List V)},(∀r∈els,qbj Tryz.prog n e r)->∃l:List α,els=l.map row
 | [],_=>⟨[],rfl⟩
 | r :: els,h=>by
  obtain⟨x,hx⟩:=hr r (h r (by simp))
  obtain⟨l,hl⟩:=qpg hr (els:=els) fun q hq=>h q (by simp[hq])
  exact⟨x :: l,by rw[hx,hl];rfl⟩
theorem qft{n t e:Nat}{α:Type}{row:α->List V}(hu:Tryz.prog.underlying t=some (.slice e))(hr:∀n vs,qbj Tryz.prog n e vs->∃x,vs=row x){vs:List V}(h:qbj Tryz.prog n t vs):∃l:List α,vs=[.imm (l.map row)]:=by
 cases n with
 | zero=>unfold qbj at h;exact absurd h (by simp)
 | succ n =>
  unfold qbj at h
  rw[hu]at h
  obtain⟨els,he,_,hel⟩:=h
  obtain⟨l,rfl⟩:=qpg (n:=n) (e:=e) (row:=row) (fun vs h=>hr n vs h) fun r hr=>(hel r hr).2
  exact⟨l,he⟩
theorem qxr:∀{n:Nat} {vs:List V},qbj Tryz.prog n 115 vs->∃x:Ex,vs=x.cells
 | 0,vs,h=>by unfold qbj at h;exact absurd h (by simp)
 | 1,vs,h=>by
  unfold qbj at h
  rw[Tryz.underlying115]at h
  obtain⟨hl,hf⟩:=h
  have h1:=hf _ (by simp;exact .inl rfl)
  unfold qbj at h1
  exact absurd h1 (by simp)
 | n+2,vs,h=>by
  unfold qbj at h
  rw[Tryz.underlying115]at h
  obtain⟨hl,hf⟩:=h
  rw[q3z]at hl
  match vs,hl with
  | [a,b,d],_ =>
   have h1:=hf _ (by simp;exact .inl rfl)
   have h2:=hf _ (by simp;exact .inr (.inl rfl))
   have h3:=hf _ (by simp;exact .inr (.inr rfl))
   simp[qyt,zfk]at h1 h2 h3
   obtain⟨o,h1⟩:=qed h1
   obtain⟨i,h2⟩:=qed h2
   unfold qbj at h3
   rw[Tryz.underlying113]at h3
   obtain⟨els,he,_,hel⟩:=h3
   obtain⟨l,rfl⟩:=qpg (n:=n) (e:=115) (row:=Ex.row) (fun vs h=>by obtain⟨x,hx⟩:=qxr h;exact⟨x,by rw[hx,zju]⟩) fun r hr=>(hel r hr).2
   refine⟨.mk o i l,?_⟩
   simp at h1 h2 he
   rw[h1,h2,he]
   rfl
theorem zih{n:Nat}{vs:List V}(h:qbj Tryz.prog n 117 vs):∃x:Sg,vs=x.row:=by
 cases n with
 | zero=>unfold qbj at h;exact absurd h (by simp)
 | succ n =>
  unfold qbj at h
  rw[Tryz.underlying117]at h
  obtain⟨hl,hf⟩:=h
  rw[zfl]at hl
  match vs,hl with
  | [a0,a1,a2,a3,a4,a5,a6,a7,a8,a9],_ =>
   have h0:=hf _ (by simp;exact .inl rfl)
   have h1:=hf _ (by simp;exact .inr (.inl rfl))
   have h2:=hf _ (by simp;exact .inr (.inr (.inl rfl)))
   have h3:=hf _ (by simp;exact .inr (.inr (.inr (.inl rfl))))
   have h4:=hf _ (by simp;exact .inr (.inr (.inr (.inr (.inl rfl)))))
   have h5:=hf _ (by simp;exact .inr (.inr (.inr (.inr (.inr rfl)))))
   simp[qyt,zuk,zul,q3z]at h0 h1 h2 h3 h4 h5
   obtain⟨s,h0,_⟩:=q0y h0
   obtain⟨k,h1⟩:=qed h1
   obtain⟨x,h2⟩:=qxr h2
   obtain⟨y,h3⟩:=qxr h3
   obtain⟨d,h4⟩:=qed h4
   obtain⟨b,h5⟩:=q8e h5
   simp at h0 h1 h2 h3 h4 h5
   refine⟨⟨s,k,x,y,d,b⟩,?_⟩
   simp[h0,h1,h2,h3,h4,h5]
theorem zig{n:Nat}{vs:List V}(h:qbj Tryz.prog n 26 vs):∃c:Ct,vs=c.cells:=by
 cases n with
 | zero=>unfold qbj at h;exact absurd h (by simp)
 | succ n =>
  unfold qbj at h
  rw[Tryz.underlying26]at h
  obtain⟨hl,hf⟩:=h
  rw[q9q]at hl
  match vs,hl with
  | [a0,a1,a2,a3,a4],_ =>
   have h0:=hf _ (by simp;exact .inl rfl)
   have h1:=hf _ (by simp;exact .inr (.inl rfl))
   have h2:=hf _ (by simp;exact .inr (.inr (.inl rfl)))
   have h3:=hf _ (by simp;exact .inr (.inr (.inr (.inl rfl))))
   have h4:=hf _ (by simp;exact .inr (.inr (.inr (.inr rfl))))
   simp[qyt,zkr,zks,zkt]at h0 h1 h2 h3 h4
   obtain⟨a,h0⟩:=qed h0
   obtain⟨i,h1⟩:=qft (row:=qqm) Tryz.underlying22 (fun n vs h=>by obtain⟨s,h,_⟩:=q0y h;exact⟨s,h⟩) h1
   obtain⟨g,h2⟩:=qft (row:=Sg.row) Tryz.underlying23 (fun n vs h=>zih h) h2
   obtain⟨p,h3⟩:=qft (row:=qej) Tryz.underlying24 (fun n vs h=>qed h) h3
   obtain⟨q,h4⟩:=qft (row:=qej) Tryz.underlying24 (fun n vs h=>qed h) h4
   simp at h0 h1 h2 h3 h4
   refine⟨⟨a,i,g,p,q⟩,?_⟩
   simp[h0,h1,h2,h3,h4]
theorem zku:Tryz.prog.cellsOf 49=1:=by kernel_rfl
theorem zkv:Tryz.prog.cellsOf 51=1:=by kernel_rfl
theorem q4a:Tryz.prog.cellsOf 138=2:=by kernel_rfl
theorem zfm:Tryz.prog.cellsOf 141=4:=by kernel_rfl
theorem q9r:Tryz.prog.cellsOf 52=1:=by kernel_rfl
theorem zkw:Tryz.prog.cellsOf 54=6:=by kernel_rfl
theorem zkx:Tryz.prog.cellsOf 70=2:=by kernel_rfl
theorem zkp:Tryz.prog.bytesOf 70=16:=by kernel_rfl
theorem zjq:zcu Tryz.prog [54,26,52,70,83,82,22,23,24,117,115,113,9,3,4,51,49,138,141]=true:=by kernel_rfl
theorem z4o:qcr Tryz.prog 51=true:=by kernel_rfl
theorem z4p:qcr Tryz.prog 54=true:=by kernel_rfl
theorem qvt{n:Nat}{vs:List V}(h:qbj Tryz.prog n 138 vs):∃a b:Int,vs=[num a,num b]:=by
 cases n with
 | zero=>unfold qbj at h;exact absurd h (by simp)
 | succ n =>
  unfold qbj at h
  rw[Tryz.underlying138]at h
  obtain⟨hl,hf⟩:=h
  rw[q4a]at hl
  match vs,hl with
  | [a,b],_ =>
   have h1:=hf _ (by simp;exact .inl rfl)
   have h2:=hf _ (by simp;exact .inr rfl)
   simp[qyt]at h1 h2
   obtain⟨k,h1⟩:=qed h1
   obtain⟨i,h2⟩:=qed h2
   simp at h1 h2
   exact⟨k,i,by rw[h1,h2]⟩
theorem zdu{n:Nat}{vs:List V}(h:qbj Tryz.prog n 141 vs):∃x:Trv,vs=x.row:=by
 cases n with
 | zero=>unfold qbj at h;exact absurd h (by simp)
 | succ n =>
  unfold qbj at h
  rw[Tryz.underlying141]at h
  obtain⟨hl,hf⟩:=h
  rw[zfm]at hl
  match vs,hl with
  | [a,b,c,d],_ =>
   have h1:=hf _ (by simp;exact .inl rfl)
   have h2:=hf _ (by simp;exact .inr rfl)
   simp[q4a]at h1 h2
   obtain⟨k,i,h1⟩:=qvt h1
   obtain⟨m,j,h2⟩:=qvt h2
   simp at h1 h2
   exact⟨⟨k,i,m,j⟩,by simp[h1,h2]⟩
theorem q3c{n:Nat}{vs:List V}(h:qbj Tryz.prog n 51 vs):∃l:List Trv,vs=[q0x l]:=by
 cases n with
 | zero=>unfold qbj at h;exact absurd h (by simp)
 | succ n =>
  unfold qbj at h
  rw[Tryz.underlying51]at h
  obtain⟨hl,hf⟩:=h
  rw[zkv]at hl
  match vs,hl with
  | [a],_ =>
   have h1:=hf _ (by simp;rfl)
   simp[zku]at h1
   exact qft (row:=Trv.row) Tryz.underlying49 (fun n vs h=>zdu h) h1
theorem q8f{n:Nat}{vs:List V}(h:qbj Tryz.prog n 70 vs):∃x:Int×Int,vs=zif x:=by
 cases n with
 | zero=>unfold qbj at h;exact absurd h (by simp)
 | succ n =>
  unfold qbj at h
  rw[Tryz.underlying70]at h
  obtain⟨hl,hf⟩:=h
  rw[zkx]at hl
  match vs,hl with
  | [a,b],_ =>
   have h1:=hf _ (by simp;exact .inl rfl)
   have h2:=hf _ (by simp;exact .inr rfl)
   simp[qyt]at h1 h2
   obtain⟨k,h1⟩:=qed h1
   obtain⟨i,h2⟩:=qed h2
   simp at h1 h2
   exact⟨(k,i),by simp[h1,h2]⟩
theorem zdt{n:Nat}{vs:List V}(h:qbj Tryz.prog n 54 vs):∃m:Mch,vs=m.cells:=by
 cases n with
 | zero=>unfold qbj at h;exact absurd h (by simp)
 | succ n =>
  unfold qbj at h
  rw[Tryz.underlying54]at h
  obtain⟨hl,hf⟩:=h
  rw[zkw]at hl
  match vs,hl with
  | [a0,a1,a2,a3,a4,a5],_ =>
   have h1:=hf _ (by simp;exact .inl rfl)
   have h2:=hf _ (by simp;exact .inr rfl)
   simp[q9q,q9r]at h1 h2
   obtain⟨c,h1⟩:=zig h1
   obtain⟨ts,h2⟩:=qft (row:=zif) Tryz.underlying52 (fun n vs h=>q8f h) h2
   simp at h1 h2
   exact⟨⟨c,ts⟩,by simp[h1,h2]⟩
section
variable{H:Type}{enc:TypeId×Value->H}{P:Program}{W:World}{base b0:Nat}{spare:Nat->Bool}{held:Bool}
theorem zia{ts:List TypeId}{ds:List (DataW H)}(h:(DataW.weightsEach P ts ds).all (·<=reachBytes)=true){j:Nat}{t:TypeId}{d:DataW H}(ht:ts[j]?=some t)(hd:ds[j]?=some d):(d.weights P t).all (·<=reachBytes)=true:=by
 rw[jP]at h ⊢
 exact fun n hn=>h n (DataW.weights_mem_each ht hd n hn)
theorem zbr{t e:TypeId}{fuel:Nat}{v:Value}{x:DataW H×List MemPlace}{els:List (List V)}{E:Env}(ht:P.underlying t=some (.slice e))(h:DataW.trod enc P W base spare held fuel t [v]=some x)(hr:rel E (.imm els) v)
  (hz:(x.1.weights P t).all (·<=reachBytes)=true):els.length*P.bytesOf e<=reachBytes:=by
 unfold rel at hr
 obtain⟨a,cap,rfl,-⟩:=hr
 rcases Go.Deep.open_slice ht h with⟨hcs,rfl⟩ | ⟨a',len,cap',m,n,D,Pl,hcs,-,-,-,-,rfl,-⟩
 .simp only[List.cons.injEq,Value.slice.injEq,and_true]at hcs
  rw[hcs.2.1,Nat.zero_mul]
  exact Nat.zero_le _
 .simp only[List.cons.injEq,Value.slice.injEq,and_true]at hcs
  have:=jP.1 hz ((len+(m-len))*P.bytesOf e) (by simp[DataW.weights,ht])
  simp only[jW]at this
  exact Nat.le_trans (jV _ (by omega)) this
theorem zqw{v:Value}{d:DataW H}{ps:List MemPlace}{m:Mch}{E:Env}(h:DataW.Trod enc Tryz.prog W base spare held 54 v d ps)(hr:rel E m.v v)(hz:(d.weights Tryz.prog 54).all (·<=reachBytes)=true):m.ts.length*16<=140737488355328:=by
 obtain⟨fuel,hf⟩:=h
 unfold rel at hr
 obtain⟨us,rfl,hr⟩:=hr
 obtain⟨y0,y1,n,hd,hl,h1,h2⟩:=Go.ChangeShapes.trod_struct2 Tryz.underlying54 hf
 have hu:(Value.agg us).cells.toList=us.toList:=rfl
 rw[hu]at h2
 unfold qah at hr;obtain⟨u0,r0,e0,-,hr⟩:=hr
 unfold qah at hr;obtain⟨u1,r1,rfl,-,hr⟩:=hr
 unfold qah at hr;obtain⟨u2,r2,rfl,-,hr⟩:=hr
 unfold qah at hr;obtain⟨u3,r3,rfl,-,hr⟩:=hr
 unfold qah at hr;obtain⟨u4,r4,rfl,-,hr⟩:=hr
 unfold qah at hr;obtain⟨u5,r5,rfl,g,hr⟩:=hr
 rw[e0,q9r]at h2
 simp only[List.drop_succ_cons,List.drop_zero,List.take_succ_cons,List.take_zero]at h2
 cases hd
 have hz1:(y1.1.weights Tryz.prog 52).all (·<=reachBytes)=true:=by
  rw[jP]at hz ⊢
  intro k hk
  refine hz k ?_
  unfold DataW.weights
  rw[Tryz.underlying54]
  simp[DataW.weightsEach,hk]
 have:=zbr Tryz.underlying52 h2 g hz1
 rw[zkp,List.length_map]at this
 have hlt:=reachBytes_lt
 omega
end
end Go.Proofs.YtddeacahiilikaaGreat
namespace Go.Proofs.YtddeacahiilikaaGreat.simulateMiddlesDone
open Go Go.Am Go.Proofs Go.Proofs.YtddeacahiilikaaGreat
open Go.ChangeShapes Go.WideShapes Go.ChangeAt Go.RowKit
set_option linter.unusedVariables false
theorem own:ownKnob Tryz.prog.godebug=none:=by kernel_rfl
theorem laidOut:laidOutB Tryz.prog=true:=by kernel_rfl
set_option maxRecDepth 100000 in
theorem lifted(os:Os)(started:os.Started)(H:Type)(enc:TypeId×Value->H) :
  ReturnsInHanded {} Tryz.checked os 4 .any (Rows.simulateMiddlesSpec.pre6 enc Tryz.prog Tryz.f4 Rows.simulateMiddlesRow.domain false) (Rows.simulateMiddlesSpec.post enc Tryz.prog Tryz.f4 false true false false):=by
 refine returnsInHanded_of_change_sized (C:=Tryz.checked) own started (by kernel_rfl) Tryz.func4
  (ChangeSpec.witness6 (enc:=enc) (C:=Tryz.checked) false ⟨#[],#[.agg #[.slice none 0 0],.agg #[.int .i64 0,.slice none 0 0,.slice none 0 0,.slice none 0 0,.slice none 0 0,.slice none 0 0]],[]⟩ 8 (by kernel_rfl) (by kernel_rfl) (by kernel_rfl) (by kernel_rfl)) ?_
 intro W base args ds gs before hval0 hW hcnd hsz0 _
 have hval:∀(j:Nat) t v,Tryz.f4.params[j]?=some t->args[j]?=some v->Value.okWide Tryz.prog W .any base t v:=hval0
 have hW':=hW
 obtain⟨p,q,hA0,hV,rfl,hfz,hnd⟩:=hW
 have hA:DataW.TrodAll enc Tryz.prog W 0 (fun _=>true) true Tryz.f4.params.toList args.toList ds p:=hA0
 rw[Tryz.params4]at hA hval
 obtain⟨v0,vs0,d0,ds0,p0,q0,hargs,rfl,rfl,h0,r0⟩:=trodAll_cons hA
 obtain⟨v1,vs1,d1,ds1,p1,q1,rfl,rfl,rfl,h1,r1⟩:=trodAll_cons r0
 obtain⟨rfl,rfl,rfl⟩:=trodAll_nil r1
 obtain rfl:args=#[v0,v1]:=by cases args;simp_all
 obtain⟨rfl,rfl⟩:=trodVars_none hV
 have hsz:(DataW.weightsEach Tryz.prog (Tryz.f4.params.toList++[]) ([d0,d1]++[])).all (·<=reachBytes)=true:=hsz0
 rw[Tryz.params4]at hsz
 have k0:=h0
 have k1:=h1
 have lt0:∀x∈p0,x.block<W.heap.size:=by obtain⟨m,hm⟩:=k0;exact DataW.trod_lt m _ _ _ hm
 have lt1:∀x∈p1,x.block<W.heap.size:=by obtain⟨m,hm⟩:=k1;exact DataW.trod_lt m _ _ _ hm
 obtain⟨n0,x0,a0,b0⟩:=q9b zjq (by decide:51∈_) (hval 0 51 v0 rfl rfl) h0
 obtain⟨n1,x1,a1,b1⟩:=q9b zjq (by decide:54∈_) (hval 1 54 v1 rfl rfl) h1
 obtain⟨y0,rfl⟩:∃l:List Trv,x0=.agg [q0x l]:=by
  rcases b0 with⟨vs,rfl,ht⟩ | ⟨ha,_⟩
  .obtain⟨l,rfl⟩:=q3c ht
   exact⟨l,rfl⟩
  .rw[z4o]at ha
   cases ha
 obtain⟨y1,rfl⟩:∃m:Mch,x1=m.v:=by
  rcases b1 with⟨vs,rfl,ht⟩ | ⟨ha,_⟩
  .obtain⟨m,rfl⟩:=zdt ht
   exact⟨m,rfl⟩
  .rw[z4p]at ha
   cases ha
 have z1:=zqw k1 a1 (zia hsz (j:=1) rfl rfl)
 clear hA0 hval0
 have hr:=ev4 y0 y1 z1
 refine(zwm (us:=#[v0,v1]) made (by unfold qah;exact⟨_,_,rfl,a0,by unfold qah;exact⟨_,_,rfl,a1,by unfold qah;rfl⟩⟩) hr rfl).mono fun e W' ⟨he,old⟩=>?_
 subst he
 exact⟨_,rfl,_,_,_,[],_,[],hW',trodAll_mk1 (shut_bool Tryz.underlying4 _),(trodAll_cons_mk (Old.trod laidOut (by kernel_rfl) (of_decide_eq_true (by kernel_rfl)) k0 old lt0) (trodAll_cons_mk (Old.trod laidOut (by kernel_rfl) (of_decide_eq_true (by kernel_rfl)) k1 old lt1) trodAll_mk0)),rfl,old.frame _,fun h=>by cases h⟩
end Go.Proofs.YtddeacahiilikaaGreat.simulateMiddlesDone
