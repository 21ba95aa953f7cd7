/- What comes in is a pure value of its type: types that may be parts of themselves. What the arguments of the laws of plant are: controls. What the arguments of the laws of machines in time are: machines, presses, pairs of small numbers; and how much memory they take. -/
import Derived.Test.YtlhciedghbmjjaaGreatEn5
import Derived.Test.YtlhciedghbmjjaaGreatCt3
import Derived.Test.YtlhciedghbmjjaaGreatSi2
import Derived.SizedLaws
import Derived.Deep.Slices
import Derived.WideShapes
import Derived.ChangeSame
set_option linter.all false
namespace Go.Am
open Go (World Value Addr Obj Program TypeId TypeDesc DataW MemPlace maxLen Lit)
def zfi(P:Program)(S:List TypeId):Bool:=S.all fun t=>match P.underlying t with
 | some .bool | some (.int _) | some .string=>P.cellsOf t==1
 | some (.slice e)=>P.cellsOf t==1&&P.cellsOf e != 0&&S.contains e
 | some (.struct fs)=>qph P fs.toList 0==some (P.cellsOf t)&&fs.toList.all fun f=>S.contains f.type
 | _=>false
theorem qym{H:Type}{enc:TypeId×Value->H}{P:Program}{w:World}{base:Nat}{spare:Nat->Bool}{held:Bool}{S:List TypeId}(hS:zfi P S=true):∀(n:Nat) (t:TypeId) (cs:List Value) (x:DataW H×List MemPlace),t∈S->DataW.trod enc P w base spare held n t cs=some x ->
  ∃vs,qai (q4n w) vs cs/\vs.all V.pcell=true/\qbw P n t vs/\cs.length=P.cellsOf t
 | 0,t,cs,x,_,h=>by simp[DataW.trod]at h
 | n+1,t,cs,x,hm,h=>by
  have hp:=jP.1 hS t hm
  split at hp
  .rename_i ht
   have hc:P.cellsOf t=1:=by simpa using hp
   unfold DataW.trod at h
   rw[ht]at h
   obtain⟨b,rfl⟩:∃b,cs=[.bool b]:=by
    rcases cs with _ | ⟨c,_ | ⟨c',cs⟩⟩
    .simp at h
    .cases c<;>simp at h
     exact⟨_,rfl⟩
    .cases c<;>simp at h
   refine⟨[.bool b],?_,rfl,?_,by simp[hc]⟩
   .unfold qai;exact⟨_,_,rfl,by unfold rel;rfl,by unfold qai;rfl⟩
   .unfold qbw;rw[ht];exact⟨b,rfl⟩
  .rename_i k ht
   have hc:P.cellsOf t=1:=by simpa using hp
   unfold DataW.trod at h
   rw[ht]at h
   obtain⟨m,rfl,hwf⟩:∃m,cs=[.int k m]/\(Lit.int k m).wf=true:=by
    rcases cs with _ | ⟨c,_ | ⟨c',cs⟩⟩
    .simp at h
    .cases c<;>simp at h
     rename_i k' m
     obtain⟨⟨rfl,h2⟩,_⟩:=h
     exact⟨m,rfl,h2⟩
    .cases c<;>simp at h
   refine⟨[.int k m],?_,rfl,?_,by simp[hc]⟩
   .unfold qai;exact⟨_,_,rfl,by unfold rel;rfl,by unfold qai;rfl⟩
   .unfold qbw;rw[ht];exact⟨m,rfl,hwf⟩
  .rename_i ht
   have hc:P.cellsOf t=1:=by simpa using hp
   unfold DataW.trod at h
   rw[ht]at h
   obtain⟨b,rfl,hb⟩:∃b:ByteArray,cs=[.string b]/\b.size<=maxLen:=by
    rcases cs with _ | ⟨c,_ | ⟨c',cs⟩⟩
    .simp at h
    .cases c<;>simp at h
     exact⟨_,rfl,h.1⟩
    .cases c<;>simp at h
   refine⟨[.str b.data.toList],?_,rfl,?_,by simp[hc]⟩
   .unfold qai;exact⟨_,_,rfl,by unfold rel;simp,by unfold qai;rfl⟩
   .unfold qbw;rw[ht];exact⟨_,rfl,by rw[Array.length_toList];exact hb⟩
  .rename_i e ht
   simp only[jE,beq_iff_eq,bne_iff_ne]at hp
   obtain⟨⟨hc,hce⟩,hpe⟩:=hp
   rcases DataW.trod_slice ht h with⟨rfl,_⟩ | ⟨a,len,cap,elems,rest,n',hn',rfl,_,_,hlc,hcm,hlen',hel,_,_⟩
   .refine⟨[.imm []],?_,rfl,?_,by simp[hc]⟩
    .unfold qai
     refine⟨_,_,rfl,?_,by unfold qai;rfl⟩
     unfold rel
     exact⟨none,0,rfl,jD _,rfl,.inl rfl⟩
    .unfold qbw;rw[ht];exact⟨[],rfl,Nat.zero_le _,fun r hr=>by cases hr⟩
   .obtain rfl:n=n':=by omega
    -- the elements
    have each:∀i,i<len->∃(vs:List V) (cs':List Value),w.cells? base (a.add (i*P.cellsOf e)) (P.cellsOf e)=some cs'/\qai (q4n w) vs cs'/\vs.all V.pcell=true/\qbw P n e vs/\cs'.length=P.cellsOf e:=by
     intro i hi
     have h1:=hel i hi
     rw[jA (by omega),jB]at h1
     obtain⟨cs',g1,g2⟩:=h1
     obtain⟨vs,k1,k2,k3,k4⟩:=qym hS n e cs' _ (List.contains_iff_mem.1 hpe) g2
     exact⟨vs,cs',g1,k1,k2,k3,k4⟩
    have build:∀k,k<=len->∃els:List (List V),els.length=k/\qcn els=true/\(∀r∈els,r.length=P.cellsOf e/\qbw P n e r)/\∀(i:Nat) r,els[i]?=some r->∃cs',w.cells? base (a.add (i*P.cellsOf e)) (P.cellsOf e)=some cs'/\qai (q4n w) r cs':=by
     intro k
     induction k with
     | zero=>intro _;exact⟨[],rfl,rfl,(fun r hr=>by cases hr),(fun i r h=>by simp at h)⟩
     | succ k ih =>
      intro hk
      obtain⟨els,e1,e2,e3,e4⟩:=ih (by omega)
      obtain⟨vs,cs',g1,g2,g3,g4,g5⟩:=each k (by omega)
      refine⟨els++[vs],by simp[e1],qir e2 (by simp[qcn];simpa using g3),fun r hr=>?_,fun i r hi=>?_⟩
      .rcases jQ.1 hr with hr | hr
       .exact e3 r hr
       .simp at hr;subst hr
        exact⟨by rw[qas g2,g5],g4⟩
      .by_cases hik:i<k
       .rw[jI (by omega)]at hi
        exact e4 i r hi
       .rw[jJ (by omega)]at hi
        have h0:i-els.length=0:=by
         have:=(jG.1 hi).1
         simp at this;omega
        rw[h0]at hi
        simp at hi
        subst hi
        have:i=k:=by omega
        subst this
        exact⟨cs',g1,g2⟩
    obtain⟨els,e1,e2,e3,e4⟩:=build len (jD _)
    refine⟨[.imm els],?_,rfl,?_,by simp[hc]⟩
    .unfold qai
     refine⟨_,_,rfl,?_,by unfold qai;rfl⟩
     unfold rel
     refine⟨some a,cap,by rw[e1],by omega,e2,?_⟩
     by_cases h0:els=[]
     .exact .inl h0
     .right
      have hlen:0<len:=by rw[<-e1];exact kA.2 h0
      obtain⟨vs,cs',g1,_⟩:=each 0 hlen
      have hblk:=Go.World.cells?_block g1 (by omega)
      have hspot:a.spot=none:=by
       obtain⟨q1,q2,q3⟩:=Go.World.cells?_some g1
       have h0':=q3 0 (by omega)
       rw[jA (by omega)]at h0'
       have:=Go.World.cell?_spot h0'
       simpa[Go.Addr.add]using this
      obtain⟨b,o,sp⟩:=a
      simp only at hspot
      subst hspot
      refine⟨b,o,P.cellsOf e,rfl,by omega,(by simpa[qca]using hblk:b<w.heap.size),?_⟩
      rw[qgi]
      intro i r hi
      refine⟨(e3 r (jR hi)).1,?_⟩
      obtain⟨cs',g1,g2⟩:=e4 i r hi
      refine qey (us:=cs') (fun j u hj=>?_) g2
      obtain⟨q1,q2,q3⟩:=Go.World.cells?_some g1
      have hjl:=(jG.1 hj).1
      have:=q3 j (by omega)
      rw[qca,qca,hj]at this
      exact this
    .unfold qbw;rw[ht];exact⟨els,rfl,by omega,e3⟩
  .rename_i fs ht
   simp only[jE,beq_iff_eq,jP]at hp
   obtain⟨htl,hall⟩:=hp
   unfold DataW.trod at h
   rw[ht]at h
   have hs:cs.length=P.cellsOf t/\∃xs,(fs.toList.mapM fun f=>DataW.trod enc P w base spare held n f.type ((cs.drop f.offset).take (P.cellsOf f.type)))=some xs:=by
    simp only at h
    split at h
    .rename_i hl
     simp only[jM]at h
     obtain⟨xs,h1,_⟩:=h
     exact⟨hl,xs,h1⟩
    .cases h
   obtain⟨hl,xs,hxs⟩:=hs
   have hf:∀f∈fs.toList,∃y,DataW.trod enc P w base spare held n f.type ((cs.drop f.offset).take (P.cellsOf f.type))=some y:=by
    intro f hfm
    obtain⟨i,hi⟩:=List.mem_iff_getElem?.1 hfm
    have h1:=Go.mapM_some_get hxs i f hi
    have h2:=Go.mapM_some_length hxs
    have h3:=(jG.1 hi).1
    rw[jA (by omega)]at h1
    exact⟨_,h1⟩
   obtain⟨vs,k1,k2,k3⟩:=qvh (E:=q4n w) (n:=n) htl hl fun f hfm=>by
    obtain⟨y,hy⟩:=hf f hfm
    obtain⟨vs,q1,q2,q3,_⟩:=qym hS n f.type _ y (List.contains_iff_mem.1 (hall f hfm)) hy
    exact⟨vs,q1,q2,q3⟩
   refine⟨vs,by simpa using k1,k2,?_,hl⟩
   unfold qbw
   rw[ht]
   refine⟨?_,fun f hfm=>by simpa using k3 [] rfl f hfm⟩
   have:=qas k1
   simpa[hl]using this
  .cases hp
theorem qqq{H:Type}{enc:TypeId×Value->H}{P:Program}{W:World}{base b0:Nat}{spare:Nat->Bool}{held:Bool}{reach:Go.Reach}{t:TypeId}{v:Value}{d:DataW H}{ps:List MemPlace}{S:List TypeId}(hS:zfi P S=true)(hp:t∈S)
  (hv:Value.okWide P W reach b0 t v) (h:DataW.Trod enc P W base spare held t v d ps) :
  ∃n,∃x:V,rel (q4n W) x v/\((∃vs,x=.agg vs/\qbw P n t vs)\/(qdp P t=false/\qbw P n t [x])):=by
 obtain⟨n,hf⟩:=h
 refine⟨n,?_⟩
 obtain⟨vs,k1,k2,k3,k4⟩:=qym hS n t v.cells.toList _ hp hf
 have one:qdp P t=false->v.cells=#[v]->∃x:V,rel (q4n W) x v/\((∃vs,x=.agg vs/\qbw P n t vs)\/(qdp P t=false/\qbw P n t [x])):=by
  intro ha hc
  rw[hc]at k1
  cases vs with
  | nil=>unfold qai at k1;cases k1
  | cons x vs =>
   unfold qai at k1
   obtain⟨u,us,e,r1,r2⟩:=k1
   cases e
   cases vs with
   | nil=>exact⟨x,r1,.inr ⟨ha,k3⟩⟩
   | cons y vs=>unfold qai at r2;obtain⟨_,_,e,_⟩:=r2;cases e
 have hp:=jP.1 hS t hp
 .split at hp
  .rename_i ht
   obtain⟨b,rfl⟩:=Go.WideShapes.okWide_bool ht hv
   exact one (by simp[qdp,ht]) rfl
  .rename_i k ht
   obtain⟨b,rfl⟩:=Go.WideShapes.okWide_int ht hv
   exact one (by simp[qdp,ht]) rfl
  .rename_i ht
   obtain⟨b,rfl⟩:=Go.WideShapes.okWide_string ht hv
   exact one (by simp[qdp,ht]) rfl
  .rename_i e ht
   obtain⟨a,l,c,rfl⟩:=Go.WideShapes.okWide_slice ht hv
   exact one (by simp[qdp,ht]) rfl
  .rename_i fs ht
   obtain⟨cs,rfl,hc⟩:=Go.WideShapes.okWide_struct ht hv
   exact⟨.agg vs,by unfold rel;exact⟨cs,rfl,k1⟩,.inl ⟨vs,rfl,k3⟩⟩
  .cases hp
end Go.Am
namespace Go.Proofs.YtlhciedghbmjjaaGreat
open Go Go.Am Go.Proofs
set_option maxRecDepth 100000
theorem q2b:Tryz.prog.cellsOf 3=1:=by kernel_rfl
theorem zmr:Tryz.prog.cellsOf 4=1:=by kernel_rfl
theorem z0x:Tryz.prog.cellsOf 9=1:=by kernel_rfl
theorem zsn:Tryz.prog.cellsOf 22=1:=by kernel_rfl
theorem znl:Tryz.prog.cellsOf 23=1:=by kernel_rfl
theorem ztr:Tryz.prog.cellsOf 24=1:=by kernel_rfl
theorem zft:Tryz.prog.cellsOf 26=5:=by kernel_rfl
theorem zir:Tryz.prog.cellsOf 102=1:=by kernel_rfl
theorem q7m:Tryz.prog.cellsOf 104=3:=by kernel_rfl
theorem zjy:Tryz.prog.cellsOf 106=10:=by kernel_rfl
theorem qec{n:Nat}{vs:List V}(h:qbw Tryz.prog n 3 vs):∃m,vs=[num m]:=by
 cases n with
 | zero=>unfold qbw at h;exact absurd h (by simp)
 | succ n =>
  unfold qbw at h
  rw[Tryz.underlying3]at h
  obtain⟨m,rfl,hw⟩:=h
  exact⟨m,rfl⟩
theorem qwr{n:Nat}{vs:List V}(h:qbw Tryz.prog n 4 vs):∃b,vs=[.bool b]:=by
 cases n with
 | zero=>unfold qbw at h;exact absurd h (by simp)
 | succ n =>
  unfold qbw at h
  rw[Tryz.underlying4]at h
  exact h
theorem q1q{n:Nat}{vs:List V}(h:qbw Tryz.prog n 9 vs):∃s,vs=[.str s]/\s.length<=maxLen:=by
 cases n with
 | zero=>unfold qbw at h;exact absurd h (by simp)
 | succ n =>
  unfold qbw at h
  rw[Tryz.underlying9]at h
  exact h
theorem qqo{n e:Nat}{α:Type}{row:α->List V}(hr:∀vs,qbw Tryz.prog n e vs->∃x,vs=row x):∀{els:List (List V)},(∀r∈els,qbw Tryz.prog n e r)->∃l:List α,els=l.map row
 | [],_=>⟨[],rfl⟩
 | r :: els,h=>by
  obtain⟨x,hx⟩:=hr r (h r (by simp))
  obtain⟨l,hl⟩:=qqo hr (els:=els) fun q hq=>h q (by simp[hq])
  exact⟨x :: l,by rw[hx,hl];rfl⟩
theorem qge{n t e:Nat}{α:Type}{row:α->List V}(hu:Tryz.prog.underlying t=some (.slice e))(hr:∀n vs,qbw Tryz.prog n e vs->∃x,vs=row x){vs:List V}(h:qbw Tryz.prog n t vs):∃l:List α,vs=[.imm (l.map row)]:=by
 cases n with
 | zero=>unfold qbw at h;exact absurd h (by simp)
 | succ n =>
  unfold qbw at h
  rw[hu]at h
  obtain⟨els,he,_,hel⟩:=h
  obtain⟨l,rfl⟩:=qqo (n:=n) (e:=e) (row:=row) (fun vs h=>hr n vs h) fun r hr=>(hel r hr).2
  exact⟨l,he⟩
theorem qzr:∀{n:Nat} {vs:List V},qbw Tryz.prog n 104 vs->∃x:Ex,vs=x.cells
 | 0,vs,h=>by unfold qbw at h;exact absurd h (by simp)
 | 1,vs,h=>by
  unfold qbw at h
  rw[Tryz.underlying104]at h
  obtain⟨hl,hf⟩:=h
  have h1:=hf _ (by simp;exact .inl rfl)
  unfold qbw at h1
  exact absurd h1 (by simp)
 | n+2,vs,h=>by
  unfold qbw at h
  rw[Tryz.underlying104]at h
  obtain⟨hl,hf⟩:=h
  rw[q7m]at hl
  match vs,hl with
  | [a,b,d],_ =>
   have h1:=hf _ (by simp;exact .inl rfl)
   have h2:=hf _ (by simp;exact .inr (.inl rfl))
   have h3:=hf _ (by simp;exact .inr (.inr rfl))
   simp[q2b,zir]at h1 h2 h3
   obtain⟨o,h1⟩:=qec h1
   obtain⟨i,h2⟩:=qec h2
   unfold qbw at h3
   rw[Tryz.underlying102]at h3
   obtain⟨els,he,_,hel⟩:=h3
   obtain⟨l,rfl⟩:=qqo (n:=n) (e:=104) (row:=Ex.row) (fun vs h=>by obtain⟨x,hx⟩:=qzr h;exact⟨x,by rw[hx,zlb]⟩) fun r hr=>(hel r hr).2
   refine⟨.mk o i l,?_⟩
   simp at h1 h2 he
   rw[h1,h2,he]
   rfl
theorem zku{n:Nat}{vs:List V}(h:qbw Tryz.prog n 106 vs):∃x:Sg,vs=x.row:=by
 cases n with
 | zero=>unfold qbw at h;exact absurd h (by simp)
 | succ n =>
  unfold qbw at h
  rw[Tryz.underlying106]at h
  obtain⟨hl,hf⟩:=h
  rw[zjy]at hl
  match vs,hl with
  | [a0,a1,a2,a3,a4,a5,a6,a7,a8,a9],_ =>
   have h0:=hf _ (by simp;exact .inl rfl)
   have h1:=hf _ (by simp;exact .inr (.inl rfl))
   have h2:=hf _ (by simp;exact .inr (.inr (.inl rfl)))
   have h3:=hf _ (by simp;exact .inr (.inr (.inr (.inl rfl))))
   have h4:=hf _ (by simp;exact .inr (.inr (.inr (.inr (.inl rfl)))))
   have h5:=hf _ (by simp;exact .inr (.inr (.inr (.inr (.inr rfl)))))
   simp[q2b,zmr,z0x,q7m]at h0 h1 h2 h3 h4 h5
   obtain⟨s,h0,_⟩:=q1q h0
   obtain⟨k,h1⟩:=qec h1
   obtain⟨x,h2⟩:=qzr h2
   obtain⟨y,h3⟩:=qzr h3
   obtain⟨d,h4⟩:=qec h4
   obtain⟨b,h5⟩:=qwr h5
   simp at h0 h1 h2 h3 h4 h5
   refine⟨⟨s,k,x,y,d,b⟩,?_⟩
   simp[h0,h1,h2,h3,h4,h5]
theorem zih{n:Nat}{vs:List V}(h:qbw Tryz.prog n 26 vs):∃c:Ct,vs=c.cells:=by
 cases n with
 | zero=>unfold qbw at h;exact absurd h (by simp)
 | succ n =>
  unfold qbw at h
  rw[Tryz.underlying26]at h
  obtain⟨hl,hf⟩:=h
  rw[zft]at hl
  match vs,hl with
  | [a0,a1,a2,a3,a4],_ =>
   have h0:=hf _ (by simp;exact .inl rfl)
   have h1:=hf _ (by simp;exact .inr (.inl rfl))
   have h2:=hf _ (by simp;exact .inr (.inr (.inl rfl)))
   have h3:=hf _ (by simp;exact .inr (.inr (.inr (.inl rfl))))
   have h4:=hf _ (by simp;exact .inr (.inr (.inr (.inr rfl))))
   simp[q2b,zsn,znl,ztr]at h0 h1 h2 h3 h4
   obtain⟨a,h0⟩:=qec h0
   obtain⟨i,h1⟩:=qge (row:=q3t) Tryz.underlying22 (fun n vs h=>by obtain⟨s,h,_⟩:=q1q h;exact⟨s,h⟩) h1
   obtain⟨g,h2⟩:=qge (row:=Sg.row) Tryz.underlying23 (fun n vs h=>zku h) h2
   obtain⟨p,h3⟩:=qge (row:=qdc) Tryz.underlying24 (fun n vs h=>qec h) h3
   obtain⟨q,h4⟩:=qge (row:=qdc) Tryz.underlying24 (fun n vs h=>qec h) h4
   simp at h0 h1 h2 h3 h4
   refine⟨⟨a,i,g,p,q⟩,?_⟩
   simp[h0,h1,h2,h3,h4]
theorem zcr:Tryz.prog.cellsOf 27=1:=by kernel_rfl
theorem zqj:Tryz.prog.cellsOf 29=6:=by kernel_rfl
theorem zok:Tryz.prog.cellsOf 71=2:=by kernel_rfl
theorem zhd:Tryz.prog.cellsOf 108=3:=by kernel_rfl
theorem zsd:Tryz.prog.bytesOf 71=16:=by kernel_rfl
theorem zio:Tryz.prog.bytesOf 108=24:=by kernel_rfl
theorem qxj:zfi Tryz.prog [29,26,27,71,30,108,22,23,24,106,104,102,9,3,4]=true:=by kernel_rfl
theorem zza:qdp Tryz.prog 29=true:=by kernel_rfl
theorem zbf{n:Nat}{vs:List V}(h:qbw Tryz.prog n 108 vs):∃x:Prs,vs=x.row:=by
 cases n with
 | zero=>unfold qbw at h;exact absurd h (by simp)
 | succ n =>
  unfold qbw at h
  rw[Tryz.underlying108]at h
  obtain⟨hl,hf⟩:=h
  rw[zhd]at hl
  match vs,hl with
  | [a,b,d],_ =>
   have h1:=hf _ (by simp;exact .inl rfl)
   have h2:=hf _ (by simp;exact .inr (.inl rfl))
   have h3:=hf _ (by simp;exact .inr (.inr rfl))
   simp[q2b,zmr]at h1 h2 h3
   obtain⟨k,h1⟩:=qec h1
   obtain⟨i,h2⟩:=qec h2
   obtain⟨v,h3⟩:=qwr h3
   simp at h1 h2 h3
   exact⟨⟨k,i,v⟩,by simp[h1,h2,h3]⟩
theorem zao{n:Nat}{vs:List V}(h:qbw Tryz.prog n 71 vs):∃x:Int×Int,vs=zpt x:=by
 cases n with
 | zero=>unfold qbw at h;exact absurd h (by simp)
 | succ n =>
  unfold qbw at h
  rw[Tryz.underlying71]at h
  obtain⟨hl,hf⟩:=h
  rw[zok]at hl
  match vs,hl with
  | [a,b],_ =>
   have h1:=hf _ (by simp;exact .inl rfl)
   have h2:=hf _ (by simp;exact .inr rfl)
   simp[q2b]at h1 h2
   obtain⟨k,h1⟩:=qec h1
   obtain⟨i,h2⟩:=qec h2
   simp at h1 h2
   exact⟨(k,i),by simp[h1,h2]⟩
theorem q3a{n:Nat}{vs:List V}(h:qbw Tryz.prog n 29 vs):∃m:Mch,vs=m.cells:=by
 cases n with
 | zero=>unfold qbw at h;exact absurd h (by simp)
 | succ n =>
  unfold qbw at h
  rw[Tryz.underlying29]at h
  obtain⟨hl,hf⟩:=h
  rw[zqj]at hl
  match vs,hl with
  | [a0,a1,a2,a3,a4,a5],_ =>
   have h1:=hf _ (by simp;exact .inl rfl)
   have h2:=hf _ (by simp;exact .inr rfl)
   simp[zft,zcr]at h1 h2
   obtain⟨c,h1⟩:=zih h1
   obtain⟨ts,h2⟩:=qge (row:=zpt) Tryz.underlying27 (fun n vs h=>zao h) h2
   simp at h1 h2
   exact⟨⟨c,ts⟩,by simp[h1,h2]⟩
theorem qxx{n:Nat}{vs:List V}(h:qbw Tryz.prog n 30 vs):∃l:List Prs,vs=[prs l]:=qge (row:=Prs.row) Tryz.underlying30 (fun n vs h=>zbf h) h
section
variable{H:Type}{enc:TypeId×Value->H}{P:Program}{W:World}{base b0:Nat}{spare:Nat->Bool}{held:Bool}
theorem qsy{ts:List TypeId}{ds:List (DataW H)}(h:(DataW.weightsEach P ts ds).all (·<=reachBytes)=true){j:Nat}{t:TypeId}{d:DataW H}(ht:ts[j]?=some t)(hd:ds[j]?=some d):(d.weights P t).all (·<=reachBytes)=true:=by
 rw[jP]at h ⊢
 exact fun n hn=>h n (DataW.weights_mem_each ht hd n hn)
theorem q1z{t e:TypeId}{fuel:Nat}{v:Value}{x:DataW H×List MemPlace}{els:List (List V)}{E:Env}(ht:P.underlying t=some (.slice e))(h:DataW.trod enc P W base spare held fuel t [v]=some x)(hr:rel E (.imm els) v)
  (hz:(x.1.weights P t).all (·<=reachBytes)=true):els.length*P.bytesOf e<=reachBytes:=by
 unfold rel at hr
 obtain⟨a,cap,rfl,-⟩:=hr
 rcases Go.Deep.open_slice ht h with⟨hcs,rfl⟩ | ⟨a',len,cap',m,n,D,Pl,hcs,-,-,-,-,rfl,-⟩
 .simp only[List.cons.injEq,Value.slice.injEq,and_true]at hcs
  rw[hcs.2.1,Nat.zero_mul]
  exact Nat.zero_le _
 .simp only[List.cons.injEq,Value.slice.injEq,and_true]at hcs
  have:=jP.1 hz ((len+(m-len))*P.bytesOf e) (by simp[DataW.weights,ht])
  simp only[jW]at this
  exact Nat.le_trans (jV _ (by omega)) this
theorem q8j{v:Value}{d:DataW H}{ps:List MemPlace}{l:List Prs}{E:Env}(h:DataW.Trod enc Tryz.prog W base spare held 30 v d ps)(hv:∃a n c,v=.slice a n c)(hr:rel E (prs l) v)(hz:(d.weights Tryz.prog 30).all (·<=reachBytes)=true):l.length*24<=140737488355328:=by
 obtain⟨fuel,hf⟩:=h
 have hc:v.cells.toList=[v]:=by
  obtain⟨a,n,c,rfl⟩:=hv
  rfl
 rw[hc]at hf
 have:=q1z Tryz.underlying30 hf hr hz
 rw[zio,List.length_map]at this
 have hlt:=reachBytes_lt
 omega
theorem zgd{v:Value}{d:DataW H}{ps:List MemPlace}{m:Mch}{E:Env}(h:DataW.Trod enc Tryz.prog W base spare held 29 v d ps)(hr:rel E m.v v)(hz:(d.weights Tryz.prog 29).all (·<=reachBytes)=true):m.ts.length*16<=140737488355328:=by
 obtain⟨fuel,hf⟩:=h
 unfold rel at hr
 obtain⟨us,rfl,hr⟩:=hr
 obtain⟨y0,y1,n,hd,hl,h1,h2⟩:=Go.ChangeShapes.trod_struct2 Tryz.underlying29 hf
 have hu:(Value.agg us).cells.toList=us.toList:=rfl
 rw[hu]at h2
 unfold qai at hr;obtain⟨u0,r0,e0,-,hr⟩:=hr
 unfold qai at hr;obtain⟨u1,r1,rfl,-,hr⟩:=hr
 unfold qai at hr;obtain⟨u2,r2,rfl,-,hr⟩:=hr
 unfold qai at hr;obtain⟨u3,r3,rfl,-,hr⟩:=hr
 unfold qai at hr;obtain⟨u4,r4,rfl,-,hr⟩:=hr
 unfold qai at hr;obtain⟨u5,r5,rfl,g,hr⟩:=hr
 rw[e0,zcr]at h2
 simp only[List.drop_succ_cons,List.drop_zero,List.take_succ_cons,List.take_zero]at h2
 cases hd
 have hz1:(y1.1.weights Tryz.prog 27).all (·<=reachBytes)=true:=by
  rw[jP]at hz ⊢
  intro k hk
  refine hz k ?_
  unfold DataW.weights
  rw[Tryz.underlying29]
  simp[DataW.weightsEach,hk]
 have:=q1z Tryz.underlying27 h2 g hz1
 rw[zsd,List.length_map]at this
 have hlt:=reachBytes_lt
 omega
end
end Go.Proofs.YtlhciedghbmjjaaGreat
