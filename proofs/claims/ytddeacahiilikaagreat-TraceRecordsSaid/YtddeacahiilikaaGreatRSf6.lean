/- What comes in is a pure value of its type: types that may be parts of themselves. What the arguments of the laws of fault are. What the arguments of the laws of fault are: events. The law TraceRecords returns true for every input, and leaves what came in as it was. It holds with no further condition. -/
import Derived.Test.YtddeacahiilikaaGreatREn5
import Derived.Test.YtddeacahiilikaaGreatRCt2
import Derived.Test.YtddeacahiilikaaGreatRRe1
import Derived.KernelRfl
import Derived.Test.YtddeacahiilikaaGreatRows
import Derived.Test.YtddeacahiilikaaGreatRRr2
import Derived.ProofKit
import Derived.WalkKit
import Derived.OpenShut
import Derived.ShutString
import Derived.ChangeOld
import Derived.Below
set_option linter.all false
namespace Go.Am
open Go (World Value Addr Obj Program TypeId TypeDesc DataW MemPlace maxLen Lit)
def q9x(P:Program)(S:List TypeId):Bool:=S.all fun t=>match P.underlying t with
 | some .bool | some (.int _) | some .string=>P.cellsOf t==1
 | some (.slice e)=>P.cellsOf t==1&&P.cellsOf e != 0&&S.contains e
 | some (.struct fs)=>qoa P fs.toList 0==some (P.cellsOf t)&&fs.toList.all fun f=>S.contains f.type
 | _=>false
theorem qwk{H:Type}{enc:TypeId×Value->H}{P:Program}{w:World}{base:Nat}{spare:Nat->Bool}{held:Bool}{S:List TypeId}(hS:q9x P S=true):∀(n:Nat) (t:TypeId) (cs:List Value) (x:DataW H×List MemPlace),t∈S->DataW.trod enc P w base spare held n t cs=some x ->
  ∃vs,qai (q0s w) vs cs/\vs.all V.pcell=true/\qbs P n t vs/\cs.length=P.cellsOf t
 | 0,t,cs,x,_,h=>by simp[DataW.trod]at h
 | n+1,t,cs,x,hm,h=>by
  have hp:=jP.1 hS t hm
  split at hp
  .rename_i ht
   have hc:P.cellsOf t=1:=by simpa using hp
   unfold DataW.trod at h
   rw[ht]at h
   obtain⟨b,rfl⟩:∃b,cs=[.bool b]:=by
    rcases cs with _ | ⟨c,_ | ⟨c',cs⟩⟩
    .simp at h
    .cases c<;>simp at h
     exact⟨_,rfl⟩
    .cases c<;>simp at h
   refine⟨[.bool b],?_,rfl,?_,by simp[hc]⟩
   .unfold qai;exact⟨_,_,rfl,by unfold rel;rfl,by unfold qai;rfl⟩
   .unfold qbs;rw[ht];exact⟨b,rfl⟩
  .rename_i k ht
   have hc:P.cellsOf t=1:=by simpa using hp
   unfold DataW.trod at h
   rw[ht]at h
   obtain⟨m,rfl,hwf⟩:∃m,cs=[.int k m]/\(Lit.int k m).wf=true:=by
    rcases cs with _ | ⟨c,_ | ⟨c',cs⟩⟩
    .simp at h
    .cases c<;>simp at h
     rename_i k' m
     obtain⟨⟨rfl,h2⟩,_⟩:=h
     exact⟨m,rfl,h2⟩
    .cases c<;>simp at h
   refine⟨[.int k m],?_,rfl,?_,by simp[hc]⟩
   .unfold qai;exact⟨_,_,rfl,by unfold rel;rfl,by unfold qai;rfl⟩
   .unfold qbs;rw[ht];exact⟨m,rfl,hwf⟩
  .rename_i ht
   have hc:P.cellsOf t=1:=by simpa using hp
   unfold DataW.trod at h
   rw[ht]at h
   obtain⟨b,rfl,hb⟩:∃b:ByteArray,cs=[.string b]/\b.size<=maxLen:=by
    rcases cs with _ | ⟨c,_ | ⟨c',cs⟩⟩
    .simp at h
    .cases c<;>simp at h
     exact⟨_,rfl,h.1⟩
    .cases c<;>simp at h
   refine⟨[.str b.data.toList],?_,rfl,?_,by simp[hc]⟩
   .unfold qai;exact⟨_,_,rfl,by unfold rel;simp,by unfold qai;rfl⟩
   .unfold qbs;rw[ht];exact⟨_,rfl,by rw[Array.length_toList];exact hb⟩
  .rename_i e ht
   simp only[jE,beq_iff_eq,bne_iff_ne]at hp
   obtain⟨⟨hc,hce⟩,hpe⟩:=hp
   rcases DataW.trod_slice ht h with⟨rfl,_⟩ | ⟨a,len,cap,elems,rest,n',hn',rfl,_,_,hlc,hcm,hlen',hel,_,_⟩
   .refine⟨[.imm []],?_,rfl,?_,by simp[hc]⟩
    .unfold qai
     refine⟨_,_,rfl,?_,by unfold qai;rfl⟩
     unfold rel
     exact⟨none,0,rfl,jD _,rfl,.inl rfl⟩
    .unfold qbs;rw[ht];exact⟨[],rfl,Nat.zero_le _,fun r hr=>by cases hr⟩
   .obtain rfl:n=n':=by omega
    -- the elements
    have each:∀i,i<len->∃(vs:List V) (cs':List Value),w.cells? base (a.add (i*P.cellsOf e)) (P.cellsOf e)=some cs'/\qai (q0s w) vs cs'/\vs.all V.pcell=true/\qbs P n e vs/\cs'.length=P.cellsOf e:=by
     intro i hi
     have h1:=hel i hi
     rw[jA (by omega),jB]at h1
     obtain⟨cs',g1,g2⟩:=h1
     obtain⟨vs,k1,k2,k3,k4⟩:=qwk hS n e cs' _ (List.contains_iff_mem.1 hpe) g2
     exact⟨vs,cs',g1,k1,k2,k3,k4⟩
    have build:∀k,k<=len->∃els:List (List V),els.length=k/\qcj els=true/\(∀r∈els,r.length=P.cellsOf e/\qbs P n e r)/\∀(i:Nat) r,els[i]?=some r->∃cs',w.cells? base (a.add (i*P.cellsOf e)) (P.cellsOf e)=some cs'/\qai (q0s w) r cs':=by
     intro k
     induction k with
     | zero=>intro _;exact⟨[],rfl,rfl,(fun r hr=>by cases hr),(fun i r h=>by simp at h)⟩
     | succ k ih =>
      intro hk
      obtain⟨els,e1,e2,e3,e4⟩:=ih (by omega)
      obtain⟨vs,cs',g1,g2,g3,g4,g5⟩:=each k (by omega)
      refine⟨els++[vs],by simp[e1],qhr e2 (by simp[qcj];simpa using g3),fun r hr=>?_,fun i r hi=>?_⟩
      .rcases jQ.1 hr with hr | hr
       .exact e3 r hr
       .simp at hr;subst hr
        exact⟨by rw[qan g2,g5],g4⟩
      .by_cases hik:i<k
       .rw[jI (by omega)]at hi
        exact e4 i r hi
       .rw[jJ (by omega)]at hi
        have h0:i-els.length=0:=by
         have:=(jG.1 hi).1
         simp at this;omega
        rw[h0]at hi
        simp at hi
        subst hi
        have:i=k:=by omega
        subst this
        exact⟨cs',g1,g2⟩
    obtain⟨els,e1,e2,e3,e4⟩:=build len (jD _)
    refine⟨[.imm els],?_,rfl,?_,by simp[hc]⟩
    .unfold qai
     refine⟨_,_,rfl,?_,by unfold qai;rfl⟩
     unfold rel
     refine⟨some a,cap,by rw[e1],by omega,e2,?_⟩
     by_cases h0:els=[]
     .exact .inl h0
     .right
      have hlen:0<len:=by rw[<-e1];exact jZ.2 h0
      obtain⟨vs,cs',g1,_⟩:=each 0 hlen
      have hblk:=Go.World.cells?_block g1 (by omega)
      have hspot:a.spot=none:=by
       obtain⟨q1,q2,q3⟩:=Go.World.cells?_some g1
       have h0':=q3 0 (by omega)
       rw[jA (by omega)]at h0'
       have:=Go.World.cell?_spot h0'
       simpa[Go.Addr.add]using this
      obtain⟨b,o,sp⟩:=a
      simp only at hspot
      subst hspot
      refine⟨b,o,P.cellsOf e,rfl,by omega,(by simpa[qbp]using hblk:b<w.heap.size),?_⟩
      rw[qfo]
      intro i r hi
      refine⟨(e3 r (jR hi)).1,?_⟩
      obtain⟨cs',g1,g2⟩:=e4 i r hi
      refine qei (us:=cs') (fun j u hj=>?_) g2
      obtain⟨q1,q2,q3⟩:=Go.World.cells?_some g1
      have hjl:=(jG.1 hj).1
      have:=q3 j (by omega)
      rw[qbp,qbp,hj]at this
      exact this
    .unfold qbs;rw[ht];exact⟨els,rfl,by omega,e3⟩
  .rename_i fs ht
   simp only[jE,beq_iff_eq,jP]at hp
   obtain⟨htl,hall⟩:=hp
   unfold DataW.trod at h
   rw[ht]at h
   have hs:cs.length=P.cellsOf t/\∃xs,(fs.toList.mapM fun f=>DataW.trod enc P w base spare held n f.type ((cs.drop f.offset).take (P.cellsOf f.type)))=some xs:=by
    simp only at h
    split at h
    .rename_i hl
     simp only[jM]at h
     obtain⟨xs,h1,_⟩:=h
     exact⟨hl,xs,h1⟩
    .cases h
   obtain⟨hl,xs,hxs⟩:=hs
   have hf:∀f∈fs.toList,∃y,DataW.trod enc P w base spare held n f.type ((cs.drop f.offset).take (P.cellsOf f.type))=some y:=by
    intro f hfm
    obtain⟨i,hi⟩:=List.mem_iff_getElem?.1 hfm
    have h1:=Go.mapM_some_get hxs i f hi
    have h2:=Go.mapM_some_length hxs
    have h3:=(jG.1 hi).1
    rw[jA (by omega)]at h1
    exact⟨_,h1⟩
   obtain⟨vs,k1,k2,k3⟩:=qrz (E:=q0s w) (n:=n) htl hl fun f hfm=>by
    obtain⟨y,hy⟩:=hf f hfm
    obtain⟨vs,q1,q2,q3,_⟩:=qwk hS n f.type _ y (List.contains_iff_mem.1 (hall f hfm)) hy
    exact⟨vs,q1,q2,q3⟩
   refine⟨vs,by simpa using k1,k2,?_,hl⟩
   unfold qbs
   rw[ht]
   refine⟨?_,fun f hfm=>by simpa using k3 [] rfl f hfm⟩
   have:=qan k1
   simpa[hl]using this
  .cases hp
theorem q6j{H:Type}{enc:TypeId×Value->H}{P:Program}{W:World}{base b0:Nat}{spare:Nat->Bool}{held:Bool}{reach:Go.Reach}{t:TypeId}{v:Value}{d:DataW H}{ps:List MemPlace}{S:List TypeId}(hS:q9x P S=true)(hp:t∈S)
  (hv:Value.okWide P W reach b0 t v) (h:DataW.Trod enc P W base spare held t v d ps) :
  ∃n,∃x:V,rel (q0s W) x v/\((∃vs,x=.agg vs/\qbs P n t vs)\/(qcv P t=false/\qbs P n t [x])):=by
 obtain⟨n,hf⟩:=h
 refine⟨n,?_⟩
 obtain⟨vs,k1,k2,k3,k4⟩:=qwk hS n t v.cells.toList _ hp hf
 have one:qcv P t=false->v.cells=#[v]->∃x:V,rel (q0s W) x v/\((∃vs,x=.agg vs/\qbs P n t vs)\/(qcv P t=false/\qbs P n t [x])):=by
  intro ha hc
  rw[hc]at k1
  cases vs with
  | nil=>unfold qai at k1;cases k1
  | cons x vs =>
   unfold qai at k1
   obtain⟨u,us,e,r1,r2⟩:=k1
   cases e
   cases vs with
   | nil=>exact⟨x,r1,.inr ⟨ha,k3⟩⟩
   | cons y vs=>unfold qai at r2;obtain⟨_,_,e,_⟩:=r2;cases e
 have hp:=jP.1 hS t hp
 .split at hp
  .rename_i ht
   obtain⟨b,rfl⟩:=Go.WideShapes.okWide_bool ht hv
   exact one (by simp[qcv,ht]) rfl
  .rename_i k ht
   obtain⟨b,rfl⟩:=Go.WideShapes.okWide_int ht hv
   exact one (by simp[qcv,ht]) rfl
  .rename_i ht
   obtain⟨b,rfl⟩:=Go.WideShapes.okWide_string ht hv
   exact one (by simp[qcv,ht]) rfl
  .rename_i e ht
   obtain⟨a,l,c,rfl⟩:=Go.WideShapes.okWide_slice ht hv
   exact one (by simp[qcv,ht]) rfl
  .rename_i fs ht
   obtain⟨cs,rfl,hc⟩:=Go.WideShapes.okWide_struct ht hv
   exact⟨.agg vs,by unfold rel;exact⟨cs,rfl,k1⟩,.inl ⟨vs,rfl,k3⟩⟩
  .cases hp
end Go.Am
namespace Go.Proofs.YtddeacahiilikaaGreat
open Go Go.Am Go.Proofs
set_option maxRecDepth 100000
theorem q1x:Tryz.prog.cellsOf 3=1:=by kernel_rfl
theorem zey:Tryz.prog.cellsOf 4=1:=by kernel_rfl
theorem zqk:Tryz.prog.cellsOf 9=1:=by kernel_rfl
theorem zgr:Tryz.prog.cellsOf 22=1:=by kernel_rfl
theorem zgs:Tryz.prog.cellsOf 23=1:=by kernel_rfl
theorem zgt:Tryz.prog.cellsOf 24=1:=by kernel_rfl
theorem zgu:Tryz.prog.cellsOf 26=5:=by kernel_rfl
theorem zbx:Tryz.prog.cellsOf 113=1:=by kernel_rfl
theorem q1w:Tryz.prog.cellsOf 115=3:=by kernel_rfl
theorem zby:Tryz.prog.cellsOf 117=10:=by kernel_rfl
theorem qfg{n:Nat}{vs:List V}(h:qbs Tryz.prog n 3 vs):∃m,vs=[num m]:=by
 cases n with
 | zero=>unfold qbs at h;exact absurd h (by simp)
 | succ n =>
  unfold qbs at h
  rw[Tryz.underlying3]at h
  obtain⟨m,rfl,hw⟩:=h
  exact⟨m,rfl⟩
theorem qux{n:Nat}{vs:List V}(h:qbs Tryz.prog n 4 vs):∃b,vs=[.bool b]:=by
 cases n with
 | zero=>unfold qbs at h;exact absurd h (by simp)
 | succ n =>
  unfold qbs at h
  rw[Tryz.underlying4]at h
  exact h
theorem qzm{n:Nat}{vs:List V}(h:qbs Tryz.prog n 9 vs):∃s,vs=[.str s]/\s.length<=maxLen:=by
 cases n with
 | zero=>unfold qbs at h;exact absurd h (by simp)
 | succ n =>
  unfold qbs at h
  rw[Tryz.underlying9]at h
  exact h
theorem qpe{n e:Nat}{α:Type}{row:α->List V}(hr:∀vs,qbs Tryz.prog n e vs->∃x,vs=row x):∀{els:List (List V)},(∀r∈els,qbs Tryz.prog n e r)->∃l:List α,els=l.map row
 | [],_=>⟨[],rfl⟩
 | r :: els,h=>by
  obtain⟨x,hx⟩:=hr r (h r (by simp))
  obtain⟨l,hl⟩:=qpe hr (els:=els) fun q hq=>h q (by simp[hq])
  exact⟨x :: l,by rw[hx,hl];rfl⟩
theorem qhh{n t e:Nat}{α:Type}{row:α->List V}(hu:Tryz.prog.underlying t=some (.slice e))(hr:∀n vs,qbs Tryz.prog n e vs->∃x,vs=row x){vs:List V}(h:qbs Tryz.prog n t vs):∃l:List α,vs=[.imm (l.map row)]:=by
 cases n with
 | zero=>unfold qbs at h;exact absurd h (by simp)
 | succ n =>
  unfold qbs at h
  rw[hu]at h
  obtain⟨els,he,_,hel⟩:=h
  obtain⟨l,rfl⟩:=qpe (n:=n) (e:=e) (row:=row) (fun vs h=>hr n vs h) fun r hr=>(hel r hr).2
  exact⟨l,he⟩
theorem qwr:∀{n:Nat} {vs:List V},qbs Tryz.prog n 115 vs->∃x:Ex,vs=x.cells
 | 0,vs,h=>by unfold qbs at h;exact absurd h (by simp)
 | 1,vs,h=>by
  unfold qbs at h
  rw[Tryz.underlying115]at h
  obtain⟨hl,hf⟩:=h
  have h1:=hf _ (by simp;exact .inl rfl)
  unfold qbs at h1
  exact absurd h1 (by simp)
 | n+2,vs,h=>by
  unfold qbs at h
  rw[Tryz.underlying115]at h
  obtain⟨hl,hf⟩:=h
  rw[q1w]at hl
  match vs,hl with
  | [a,b,d],_ =>
   have h1:=hf _ (by simp;exact .inl rfl)
   have h2:=hf _ (by simp;exact .inr (.inl rfl))
   have h3:=hf _ (by simp;exact .inr (.inr rfl))
   simp[q1x,zbx]at h1 h2 h3
   obtain⟨o,h1⟩:=qfg h1
   obtain⟨i,h2⟩:=qfg h2
   unfold qbs at h3
   rw[Tryz.underlying113]at h3
   obtain⟨els,he,_,hel⟩:=h3
   obtain⟨l,rfl⟩:=qpe (n:=n) (e:=115) (row:=Ex.row) (fun vs h=>by obtain⟨x,hx⟩:=qwr h;exact⟨x,by rw[hx,zfv]⟩) fun r hr=>(hel r hr).2
   refine⟨.mk o i l,?_⟩
   simp at h1 h2 he
   rw[h1,h2,he]
   rfl
theorem zel{n:Nat}{vs:List V}(h:qbs Tryz.prog n 117 vs):∃x:Sg,vs=x.row:=by
 cases n with
 | zero=>unfold qbs at h;exact absurd h (by simp)
 | succ n =>
  unfold qbs at h
  rw[Tryz.underlying117]at h
  obtain⟨hl,hf⟩:=h
  rw[zby]at hl
  match vs,hl with
  | [a0,a1,a2,a3,a4,a5,a6,a7,a8,a9],_ =>
   have h0:=hf _ (by simp;exact .inl rfl)
   have h1:=hf _ (by simp;exact .inr (.inl rfl))
   have h2:=hf _ (by simp;exact .inr (.inr (.inl rfl)))
   have h3:=hf _ (by simp;exact .inr (.inr (.inr (.inl rfl))))
   have h4:=hf _ (by simp;exact .inr (.inr (.inr (.inr (.inl rfl)))))
   have h5:=hf _ (by simp;exact .inr (.inr (.inr (.inr (.inr rfl)))))
   simp[q1x,zey,zqk,q1w]at h0 h1 h2 h3 h4 h5
   obtain⟨s,h0,_⟩:=qzm h0
   obtain⟨k,h1⟩:=qfg h1
   obtain⟨x,h2⟩:=qwr h2
   obtain⟨y,h3⟩:=qwr h3
   obtain⟨d,h4⟩:=qfg h4
   obtain⟨b,h5⟩:=qux h5
   simp at h0 h1 h2 h3 h4 h5
   refine⟨⟨s,k,x,y,d,b⟩,?_⟩
   simp[h0,h1,h2,h3,h4,h5]
theorem zek{n:Nat}{vs:List V}(h:qbs Tryz.prog n 26 vs):∃c:Ct,vs=c.cells:=by
 cases n with
 | zero=>unfold qbs at h;exact absurd h (by simp)
 | succ n =>
  unfold qbs at h
  rw[Tryz.underlying26]at h
  obtain⟨hl,hf⟩:=h
  rw[zgu]at hl
  match vs,hl with
  | [a0,a1,a2,a3,a4],_ =>
   have h0:=hf _ (by simp;exact .inl rfl)
   have h1:=hf _ (by simp;exact .inr (.inl rfl))
   have h2:=hf _ (by simp;exact .inr (.inr (.inl rfl)))
   have h3:=hf _ (by simp;exact .inr (.inr (.inr (.inl rfl))))
   have h4:=hf _ (by simp;exact .inr (.inr (.inr (.inr rfl))))
   simp[q1x,zgr,zgs,zgt]at h0 h1 h2 h3 h4
   obtain⟨a,h0⟩:=qfg h0
   obtain⟨i,h1⟩:=qhh (row:=zai) Tryz.underlying22 (fun n vs h=>by obtain⟨s,h,_⟩:=qzm h;exact⟨s,h⟩) h1
   obtain⟨g,h2⟩:=qhh (row:=Sg.row) Tryz.underlying23 (fun n vs h=>zel h) h2
   obtain⟨p,h3⟩:=qhh (row:=qdw) Tryz.underlying24 (fun n vs h=>qfg h) h3
   obtain⟨q,h4⟩:=qhh (row:=qdw) Tryz.underlying24 (fun n vs h=>qfg h) h4
   simp at h0 h1 h2 h3 h4
   refine⟨⟨a,i,g,p,q⟩,?_⟩
   simp[h0,h1,h2,h3,h4]
theorem zzt:qcv Tryz.prog 26=true:=by kernel_rfl
theorem zgv:Tryz.prog.cellsOf 42=3:=by kernel_rfl
theorem zaq{n:Nat}{vs:List V}(h:qbs Tryz.prog n 42 vs):∃x:Evn,vs=x.row:=by
 cases n with
 | zero=>unfold qbs at h;exact absurd h (by simp)
 | succ n =>
  unfold qbs at h
  rw[Tryz.underlying42]at h
  obtain⟨hl,hf⟩:=h
  rw[zgv]at hl
  match vs,hl with
  | [a,b,d],_ =>
   have h1:=hf _ (by simp;exact .inl rfl)
   have h2:=hf _ (by simp;exact .inr (.inl rfl))
   have h3:=hf _ (by simp;exact .inr (.inr rfl))
   simp[q1x,zey]at h1 h2 h3
   obtain⟨k,h1⟩:=qfg h1
   obtain⟨i,h2⟩:=qfg h2
   obtain⟨v,h3⟩:=qux h3
   simp at h1 h2 h3
   exact⟨⟨k,i,v⟩,by simp[h1,h2,h3]⟩
theorem zar{n:Nat}{vs:List V}(h:qbs Tryz.prog n 29 vs):∃l:List Evn,vs=[evs l]:=qhh (row:=Evn.row) Tryz.underlying29 (fun n vs h=>zaq h) h
theorem zfr:q9x Tryz.prog [26,28,9,3,4,22,23,24,113,115,117,29,42]=true:=by kernel_rfl
end Go.Proofs.YtddeacahiilikaaGreat
namespace Go.Proofs.YtddeacahiilikaaGreat.traceRecordsDone
open Go Go.Am Go.Proofs Go.Proofs.YtddeacahiilikaaGreat
open Go.ChangeShapes Go.WideShapes Go.ChangeAt Go.RowKit
set_option linter.unusedVariables false
theorem own:ownKnob Tryz.prog.godebug=none:=by kernel_rfl
theorem laidOut:laidOutB Tryz.prog=true:=by kernel_rfl
set_option maxRecDepth 100000 in
theorem lifted(os:Os)(started:os.Started)(H:Type)(enc:TypeId×Value->H) :
  ReturnsInHanded {} Tryz.checked os 6 .any (Rows.traceRecordsSpec.pre6 enc Tryz.prog Tryz.f6 Rows.traceRecordsRow.domain false) (Rows.traceRecordsSpec.post enc Tryz.prog Tryz.f6 false true false false):=by
 refine returnsInHanded_of_change (C:=Tryz.checked) own started (by kernel_rfl) Tryz.func6
  (ChangeSpec.witness6 (enc:=enc) (C:=Tryz.checked) false ⟨#[],#[.agg #[.int .i64 0,.slice none 0 0,.slice none 0 0,.slice none 0 0,.slice none 0 0],.slice none 0 0],[]⟩ 8 (by kernel_rfl) (by kernel_rfl) (by kernel_rfl) (by kernel_rfl)) ?_
 intro W base args ds gs before hval0 hW hcnd _
 have hval:∀(j:Nat) t v,Tryz.f6.params[j]?=some t->args[j]?=some v->Value.okWide Tryz.prog W .any base t v:=hval0
 have hW':=hW
 obtain⟨p,q,hA0,hV,rfl,hfz,hnd⟩:=hW
 have hA:DataW.TrodAll enc Tryz.prog W 0 (fun _=>true) true Tryz.f6.params.toList args.toList ds p:=hA0
 rw[Tryz.params6]at hA hval
 obtain⟨v0,vs0,d0,ds0,p0,q0,hargs,rfl,rfl,h0,r0⟩:=trodAll_cons hA
 obtain⟨v1,vs1,d1,ds1,p1,q1,rfl,rfl,rfl,h1,r1⟩:=trodAll_cons r0
 obtain⟨rfl,rfl,rfl⟩:=trodAll_nil r1
 obtain rfl:args=#[v0,v1]:=by cases args;simp_all
 obtain⟨rfl,rfl⟩:=trodVars_none hV
 have k0:=h0
 have k1:=h1
 have lt0:∀x∈p0,x.block<W.heap.size:=by obtain⟨m,hm⟩:=k0;exact DataW.trod_lt m _ _ _ hm
 have lt1:∀x∈p1,x.block<W.heap.size:=by obtain⟨m,hm⟩:=k1;exact DataW.trod_lt m _ _ _ hm
 obtain⟨n0,x0,a0,b0⟩:=q6j zfr (by decide:26∈_) (hval 0 26 v0 rfl rfl) h0
 obtain⟨n1,x1,a1,b1⟩:=q6j zfr (by decide:29∈_) (hval 1 29 v1 rfl rfl) h1
 obtain⟨y0,rfl⟩:∃c:Ct,x0=c.v:=by
  rcases b0 with⟨vs,rfl,ht⟩ | ⟨ha,_⟩
  .obtain⟨c,rfl⟩:=zek ht
   exact⟨c,rfl⟩
  .rw[zzt]at ha
   cases ha
 obtain⟨y1,rfl⟩:∃l:List Evn,x1=evs l:=by
  rcases b1 with⟨vs,rfl,ht⟩ | ⟨_,ht⟩
  .unfold rel at a1
   obtain⟨us,rfl,_⟩:=a1
   obtain⟨a,l,c,hh⟩:=okWide_slice Tryz.underlying29 (hval 1 29 _ rfl rfl)
   cases hh
  .obtain⟨l,hl⟩:=zar ht
   cases hl
   exact⟨l,rfl⟩
 clear hA0 hval0
 have hr:=ev6 y0 y1
 refine(zrs (us:=#[v0,v1]) made (by unfold qai;exact⟨_,_,rfl,a0,by unfold qai;exact⟨_,_,rfl,a1,by unfold qai;rfl⟩⟩) hr rfl).mono fun e W' ⟨he,old⟩=>?_
 subst he
 exact⟨_,rfl,_,_,_,[],_,[],hW',trodAll_mk1 (shut_bool Tryz.underlying4 _),(trodAll_cons_mk (Old.trod laidOut (by kernel_rfl) (of_decide_eq_true (by kernel_rfl)) k0 old lt0) (trodAll_cons_mk (Old.trod laidOut (by kernel_rfl) (of_decide_eq_true (by kernel_rfl)) k1 old lt1) trodAll_mk0)),rfl,old.frame _,fun h=>by cases h⟩
end Go.Proofs.YtddeacahiilikaaGreat.traceRecordsDone
