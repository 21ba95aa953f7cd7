/- What the arguments of the laws of fault are. -/
import Derived.Test.YtbepbclaoohngaaGreatVEn5
import Derived.Test.YtbepbclaoohngaaGreatVCt2
set_option linter.all false
namespace Go.Am
open Go (World Value Addr Obj Program TypeId TypeDesc DataW MemPlace maxLen Lit)
def zit(P:Program)(S:List TypeId):Bool:=S.all fun t=>match P.underlying t with
 | some .bool | some (.int _) | some .string=>P.cellsOf t==1
 | some (.slice e)=>P.cellsOf t==1&&P.cellsOf e != 0&&S.contains e
 | some (.struct fs)=>qri P fs.toList 0==some (P.cellsOf t)&&fs.toList.all fun f=>S.contains f.type
 | _=>false
theorem q1y{H:Type}{enc:TypeId×Value->H}{P:Program}{w:World}{base:Nat}{spare:Nat->Bool}{held:Bool}{S:List TypeId}(hS:zit P S=true):∀(n:Nat) (t:TypeId) (cs:List Value) (x:DataW H×List MemPlace),t∈S->DataW.trod enc P w base spare held n t cs=some x ->
  ∃vs,qak (znk w) vs cs/\vs.all V.pcell=true/\qct P n t vs/\cs.length=P.cellsOf t
 | 0,t,cs,x,_,h=>by simp[DataW.trod]at h
 | n+1,t,cs,x,hm,h=>by
  have hp:=jP.1 hS t hm
  split at hp
  .rename_i ht
   have hc:P.cellsOf t=1:=by simpa using hp
   unfold DataW.trod at h
   rw[ht]at h
   obtain⟨b,rfl⟩:∃b,cs=[.bool b]:=by
    rcases cs with _ | ⟨c,_ | ⟨c',cs⟩⟩
    .simp at h
    .cases c<;>simp at h
     exact⟨_,rfl⟩
    .cases c<;>simp at h
   refine⟨[.bool b],?_,rfl,?_,by simp[hc]⟩
   .unfold qak;exact⟨_,_,rfl,by unfold rel;rfl,by unfold qak;rfl⟩
   .unfold qct;rw[ht];exact⟨b,rfl⟩
  .rename_i k ht
   have hc:P.cellsOf t=1:=by simpa using hp
   unfold DataW.trod at h
   rw[ht]at h
   obtain⟨m,rfl,hwf⟩:∃m,cs=[.int k m]/\(Lit.int k m).wf=true:=by
    rcases cs with _ | ⟨c,_ | ⟨c',cs⟩⟩
    .simp at h
    .cases c<;>simp at h
     rename_i k' m
     obtain⟨⟨rfl,h2⟩,_⟩:=h
     exact⟨m,rfl,h2⟩
    .cases c<;>simp at h
   refine⟨[.int k m],?_,rfl,?_,by simp[hc]⟩
   .unfold qak;exact⟨_,_,rfl,by unfold rel;rfl,by unfold qak;rfl⟩
   .unfold qct;rw[ht];exact⟨m,rfl,hwf⟩
  .rename_i ht
   have hc:P.cellsOf t=1:=by simpa using hp
   unfold DataW.trod at h
   rw[ht]at h
   obtain⟨b,rfl,hb⟩:∃b:ByteArray,cs=[.string b]/\b.size<=maxLen:=by
    rcases cs with _ | ⟨c,_ | ⟨c',cs⟩⟩
    .simp at h
    .cases c<;>simp at h
     exact⟨_,rfl,h.1⟩
    .cases c<;>simp at h
   refine⟨[.str b.data.toList],?_,rfl,?_,by simp[hc]⟩
   .unfold qak;exact⟨_,_,rfl,by unfold rel;simp,by unfold qak;rfl⟩
   .unfold qct;rw[ht];exact⟨_,rfl,by rw[Array.length_toList];exact hb⟩
  .rename_i e ht
   simp only[jE,beq_iff_eq,bne_iff_ne]at hp
   obtain⟨⟨hc,hce⟩,hpe⟩:=hp
   rcases DataW.trod_slice ht h with⟨rfl,_⟩ | ⟨a,len,cap,elems,rest,n',hn',rfl,_,_,hlc,hcm,hlen',hel,_,_⟩
   .refine⟨[.imm []],?_,rfl,?_,by simp[hc]⟩
    .unfold qak
     refine⟨_,_,rfl,?_,by unfold qak;rfl⟩
     unfold rel
     exact⟨none,0,rfl,jD _,rfl,.inl rfl⟩
    .unfold qct;rw[ht];exact⟨[],rfl,Nat.zero_le _,fun r hr=>by cases hr⟩
   .obtain rfl:n=n':=by omega
    -- the elements
    have each:∀i,i<len->∃(vs:List V) (cs':List Value),w.cells? base (a.add (i*P.cellsOf e)) (P.cellsOf e)=some cs'/\qak (znk w) vs cs'/\vs.all V.pcell=true/\qct P n e vs/\cs'.length=P.cellsOf e:=by
     intro i hi
     have h1:=hel i hi
     rw[jA (by omega),jB]at h1
     obtain⟨cs',g1,g2⟩:=h1
     obtain⟨vs,k1,k2,k3,k4⟩:=q1y hS n e cs' _ (List.contains_iff_mem.1 hpe) g2
     exact⟨vs,cs',g1,k1,k2,k3,k4⟩
    have build:∀k,k<=len->∃els:List (List V),els.length=k/\qcg els=true/\(∀r∈els,r.length=P.cellsOf e/\qct P n e r)/\∀(i:Nat) r,els[i]?=some r->∃cs',w.cells? base (a.add (i*P.cellsOf e)) (P.cellsOf e)=some cs'/\qak (znk w) r cs':=by
     intro k
     induction k with
     | zero=>intro _;exact⟨[],rfl,rfl,(fun r hr=>by cases hr),(fun i r h=>by simp at h)⟩
     | succ k ih =>
      intro hk
      obtain⟨els,e1,e2,e3,e4⟩:=ih (by omega)
      obtain⟨vs,cs',g1,g2,g3,g4,g5⟩:=each k (by omega)
      refine⟨els++[vs],by simp[e1],qmm e2 (by simp[qcg];simpa using g3),fun r hr=>?_,fun i r hi=>?_⟩
      .rcases jQ.1 hr with hr | hr
       .exact e3 r hr
       .simp at hr;subst hr
        exact⟨by rw[qav g2,g5],g4⟩
      .by_cases hik:i<k
       .rw[jI (by omega)]at hi
        exact e4 i r hi
       .rw[jJ (by omega)]at hi
        have h0:i-els.length=0:=by
         have:=(jG.1 hi).1
         simp at this;omega
        rw[h0]at hi
        simp at hi
        subst hi
        have:i=k:=by omega
        subst this
        exact⟨cs',g1,g2⟩
    obtain⟨els,e1,e2,e3,e4⟩:=build len (jD _)
    refine⟨[.imm els],?_,rfl,?_,by simp[hc]⟩
    .unfold qak
     refine⟨_,_,rfl,?_,by unfold qak;rfl⟩
     unfold rel
     refine⟨some a,cap,by rw[e1],by omega,e2,?_⟩
     by_cases h0:els=[]
     .exact .inl h0
     .right
      have hlen:0<len:=by rw[<-e1];exact kA.2 h0
      obtain⟨vs,cs',g1,_⟩:=each 0 hlen
      have hblk:=Go.World.cells?_block g1 (by omega)
      have hspot:a.spot=none:=by
       obtain⟨q1,q2,q3⟩:=Go.World.cells?_some g1
       have h0':=q3 0 (by omega)
       rw[jA (by omega)]at h0'
       have:=Go.World.cell?_spot h0'
       simpa[Go.Addr.add]using this
      obtain⟨b,o,sp⟩:=a
      simp only at hspot
      subst hspot
      refine⟨b,o,P.cellsOf e,rfl,by omega,(by simpa[qci]using hblk:b<w.heap.size),?_⟩
      rw[qfy]
      intro i r hi
      refine⟨(e3 r (jR hi)).1,?_⟩
      obtain⟨cs',g1,g2⟩:=e4 i r hi
      refine qgk (us:=cs') (fun j u hj=>?_) g2
      obtain⟨q1,q2,q3⟩:=Go.World.cells?_some g1
      have hjl:=(jG.1 hj).1
      have:=q3 j (by omega)
      rw[qci,qci,hj]at this
      exact this
    .unfold qct;rw[ht];exact⟨els,rfl,by omega,e3⟩
  .rename_i fs ht
   simp only[jE,beq_iff_eq,jP]at hp
   obtain⟨htl,hall⟩:=hp
   unfold DataW.trod at h
   rw[ht]at h
   have hs:cs.length=P.cellsOf t/\∃xs,(fs.toList.mapM fun f=>DataW.trod enc P w base spare held n f.type ((cs.drop f.offset).take (P.cellsOf f.type)))=some xs:=by
    simp only at h
    split at h
    .rename_i hl
     simp only[jM]at h
     obtain⟨xs,h1,_⟩:=h
     exact⟨hl,xs,h1⟩
    .cases h
   obtain⟨hl,xs,hxs⟩:=hs
   have hf:∀f∈fs.toList,∃y,DataW.trod enc P w base spare held n f.type ((cs.drop f.offset).take (P.cellsOf f.type))=some y:=by
    intro f hfm
    obtain⟨i,hi⟩:=List.mem_iff_getElem?.1 hfm
    have h1:=Go.mapM_some_get hxs i f hi
    have h2:=Go.mapM_some_length hxs
    have h3:=(jG.1 hi).1
    rw[jA (by omega)]at h1
    exact⟨_,h1⟩
   obtain⟨vs,k1,k2,k3⟩:=q4z (E:=znk w) (n:=n) htl hl fun f hfm=>by
    obtain⟨y,hy⟩:=hf f hfm
    obtain⟨vs,q1,q2,q3,_⟩:=q1y hS n f.type _ y (List.contains_iff_mem.1 (hall f hfm)) hy
    exact⟨vs,q1,q2,q3⟩
   refine⟨vs,by simpa using k1,k2,?_,hl⟩
   unfold qct
   rw[ht]
   refine⟨?_,fun f hfm=>by simpa using k3 [] rfl f hfm⟩
   have:=qav k1
   simpa[hl]using this
  .cases hp
theorem q6m{H:Type}{enc:TypeId×Value->H}{P:Program}{W:World}{base b0:Nat}{spare:Nat->Bool}{held:Bool}{reach:Go.Reach}{t:TypeId}{v:Value}{d:DataW H}{ps:List MemPlace}{S:List TypeId}(hS:zit P S=true)(hp:t∈S)
  (hv:Value.okWide P W reach b0 t v) (h:DataW.Trod enc P W base spare held t v d ps) :
  ∃n,∃x:V,rel (znk W) x v/\((∃vs,x=.agg vs/\qct P n t vs)\/(qey P t=false/\qct P n t [x])):=by
 obtain⟨n,hf⟩:=h
 refine⟨n,?_⟩
 obtain⟨vs,k1,k2,k3,k4⟩:=q1y hS n t v.cells.toList _ hp hf
 have one:qey P t=false->v.cells=#[v]->∃x:V,rel (znk W) x v/\((∃vs,x=.agg vs/\qct P n t vs)\/(qey P t=false/\qct P n t [x])):=by
  intro ha hc
  rw[hc]at k1
  cases vs with
  | nil=>unfold qak at k1;cases k1
  | cons x vs =>
   unfold qak at k1
   obtain⟨u,us,e,r1,r2⟩:=k1
   cases e
   cases vs with
   | nil=>exact⟨x,r1,.inr ⟨ha,k3⟩⟩
   | cons y vs=>unfold qak at r2;obtain⟨_,_,e,_⟩:=r2;cases e
 have hp:=jP.1 hS t hp
 .split at hp
  .rename_i ht
   obtain⟨b,rfl⟩:=Go.WideShapes.okWide_bool ht hv
   exact one (by simp[qey,ht]) rfl
  .rename_i k ht
   obtain⟨b,rfl⟩:=Go.WideShapes.okWide_int ht hv
   exact one (by simp[qey,ht]) rfl
  .rename_i ht
   obtain⟨b,rfl⟩:=Go.WideShapes.okWide_string ht hv
   exact one (by simp[qey,ht]) rfl
  .rename_i e ht
   obtain⟨a,l,c,rfl⟩:=Go.WideShapes.okWide_slice ht hv
   exact one (by simp[qey,ht]) rfl
  .rename_i fs ht
   obtain⟨cs,rfl,hc⟩:=Go.WideShapes.okWide_struct ht hv
   exact⟨.agg vs,by unfold rel;exact⟨cs,rfl,k1⟩,.inl ⟨vs,rfl,k3⟩⟩
  .cases hp
end Go.Am
namespace Go.Proofs.YtbepbclaoohngaaGreat
open Go Go.Am Go.Proofs
set_option maxRecDepth 100000
theorem q8s:Tryz.prog.cellsOf 3=1:=by kernel_rfl
theorem zxy:Tryz.prog.cellsOf 4=1:=by kernel_rfl
theorem zxz:Tryz.prog.cellsOf 9=1:=by kernel_rfl
theorem zry:Tryz.prog.cellsOf 22=1:=by kernel_rfl
theorem zrz:Tryz.prog.cellsOf 23=1:=by kernel_rfl
theorem zez:Tryz.prog.cellsOf 24=1:=by kernel_rfl
theorem zsa:Tryz.prog.cellsOf 26=5:=by kernel_rfl
theorem zsb:Tryz.prog.cellsOf 28=2:=by kernel_rfl
theorem zkz:Tryz.prog.cellsOf 141=1:=by kernel_rfl
theorem q8r:Tryz.prog.cellsOf 143=3:=by kernel_rfl
theorem zla:Tryz.prog.cellsOf 145=10:=by kernel_rfl
theorem qfh{n:Nat}{vs:List V}(h:qct Tryz.prog n 3 vs):∃m,vs=[num m]:=by
 cases n with
 | zero=>unfold qct at h;exact absurd h (by simp)
 | succ n =>
  unfold qct at h
  rw[Tryz.underlying3]at h
  obtain⟨m,rfl,hw⟩:=h
  exact⟨m,rfl⟩
theorem qof{n:Nat}{vs:List V}(h:qct Tryz.prog n 4 vs):∃b,vs=[.bool b]:=by
 cases n with
 | zero=>unfold qct at h;exact absurd h (by simp)
 | succ n =>
  unfold qct at h
  rw[Tryz.underlying4]at h
  exact h
theorem q5w{n:Nat}{vs:List V}(h:qct Tryz.prog n 9 vs):∃s,vs=[.str s]/\s.length<=maxLen:=by
 cases n with
 | zero=>unfold qct at h;exact absurd h (by simp)
 | succ n =>
  unfold qct at h
  rw[Tryz.underlying9]at h
  exact h
theorem qsy{n e:Nat}{α:Type}{row:α->List V}(hr:∀vs,qct Tryz.prog n e vs->∃x,vs=row x):∀{els:List (List V)},(∀r∈els,qct Tryz.prog n e r)->∃l:List α,els=l.map row
 | [],_=>⟨[],rfl⟩
 | r :: els,h=>by
  obtain⟨x,hx⟩:=hr r (h r (by simp))
  obtain⟨l,hl⟩:=qsy hr (els:=els) fun q hq=>h q (by simp[hq])
  exact⟨x :: l,by rw[hx,hl];rfl⟩
theorem qee{n t e:Nat}{α:Type}{row:α->List V}(hu:Tryz.prog.underlying t=some (.slice e))(hr:∀n vs,qct Tryz.prog n e vs->∃x,vs=row x){vs:List V}(h:qct Tryz.prog n t vs):∃l:List α,vs=[.imm (l.map row)]:=by
 cases n with
 | zero=>unfold qct at h;exact absurd h (by simp)
 | succ n =>
  unfold qct at h
  rw[hu]at h
  obtain⟨els,he,_,hel⟩:=h
  obtain⟨l,rfl⟩:=qsy (n:=n) (e:=e) (row:=row) (fun vs h=>hr n vs h) fun r hr=>(hel r hr).2
  exact⟨l,he⟩
theorem q2i:∀{n:Nat} {vs:List V},qct Tryz.prog n 143 vs->∃x:Ex,vs=x.cells
 | 0,vs,h=>by unfold qct at h;exact absurd h (by simp)
 | 1,vs,h=>by
  unfold qct at h
  rw[Tryz.underlying143]at h
  obtain⟨hl,hf⟩:=h
  have h1:=hf _ (by simp;exact .inl rfl)
  unfold qct at h1
  exact absurd h1 (by simp)
 | n+2,vs,h=>by
  unfold qct at h
  rw[Tryz.underlying143]at h
  obtain⟨hl,hf⟩:=h
  rw[q8r]at hl
  match vs,hl with
  | [a,b,d],_ =>
   have h1:=hf _ (by simp;exact .inl rfl)
   have h2:=hf _ (by simp;exact .inr (.inl rfl))
   have h3:=hf _ (by simp;exact .inr (.inr rfl))
   simp[q8s,zkz]at h1 h2 h3
   obtain⟨o,h1⟩:=qfh h1
   obtain⟨i,h2⟩:=qfh h2
   unfold qct at h3
   rw[Tryz.underlying141]at h3
   obtain⟨els,he,_,hel⟩:=h3
   obtain⟨l,rfl⟩:=qsy (n:=n) (e:=143) (row:=Ex.row) (fun vs h=>by obtain⟨x,hx⟩:=q2i h;exact⟨x,by rw[hx,qzw]⟩) fun r hr=>(hel r hr).2
   refine⟨.mk o i l,?_⟩
   simp at h1 h2 he
   rw[h1,h2,he]
   rfl
theorem zoe{n:Nat}{vs:List V}(h:qct Tryz.prog n 145 vs):∃x:Sg,vs=x.row:=by
 cases n with
 | zero=>unfold qct at h;exact absurd h (by simp)
 | succ n =>
  unfold qct at h
  rw[Tryz.underlying145]at h
  obtain⟨hl,hf⟩:=h
  rw[zla]at hl
  match vs,hl with
  | [a0,a1,a2,a3,a4,a5,a6,a7,a8,a9],_ =>
   have h0:=hf _ (by simp;exact .inl rfl)
   have h1:=hf _ (by simp;exact .inr (.inl rfl))
   have h2:=hf _ (by simp;exact .inr (.inr (.inl rfl)))
   have h3:=hf _ (by simp;exact .inr (.inr (.inr (.inl rfl))))
   have h4:=hf _ (by simp;exact .inr (.inr (.inr (.inr (.inl rfl)))))
   have h5:=hf _ (by simp;exact .inr (.inr (.inr (.inr (.inr rfl)))))
   simp[q8s,zxy,zxz,q8r]at h0 h1 h2 h3 h4 h5
   obtain⟨s,h0,_⟩:=q5w h0
   obtain⟨k,h1⟩:=qfh h1
   obtain⟨x,h2⟩:=q2i h2
   obtain⟨y,h3⟩:=q2i h3
   obtain⟨d,h4⟩:=qfh h4
   obtain⟨b,h5⟩:=qof h5
   simp at h0 h1 h2 h3 h4 h5
   refine⟨⟨s,k,x,y,d,b⟩,?_⟩
   simp[h0,h1,h2,h3,h4,h5]
theorem zoc{n:Nat}{vs:List V}(h:qct Tryz.prog n 26 vs):∃c:Ct,vs=c.cells:=by
 cases n with
 | zero=>unfold qct at h;exact absurd h (by simp)
 | succ n =>
  unfold qct at h
  rw[Tryz.underlying26]at h
  obtain⟨hl,hf⟩:=h
  rw[zsa]at hl
  match vs,hl with
  | [a0,a1,a2,a3,a4],_ =>
   have h0:=hf _ (by simp;exact .inl rfl)
   have h1:=hf _ (by simp;exact .inr (.inl rfl))
   have h2:=hf _ (by simp;exact .inr (.inr (.inl rfl)))
   have h3:=hf _ (by simp;exact .inr (.inr (.inr (.inl rfl))))
   have h4:=hf _ (by simp;exact .inr (.inr (.inr (.inr rfl))))
   simp[q8s,zry,zrz,zez]at h0 h1 h2 h3 h4
   obtain⟨a,h0⟩:=qfh h0
   obtain⟨i,h1⟩:=qee (row:=qoe) Tryz.underlying22 (fun n vs h=>by obtain⟨s,h,_⟩:=q5w h;exact⟨s,h⟩) h1
   obtain⟨g,h2⟩:=qee (row:=Sg.row) Tryz.underlying23 (fun n vs h=>zoe h) h2
   obtain⟨p,h3⟩:=qee (row:=qbj) Tryz.underlying24 (fun n vs h=>qfh h) h3
   obtain⟨q,h4⟩:=qee (row:=qbj) Tryz.underlying24 (fun n vs h=>qfh h) h4
   simp at h0 h1 h2 h3 h4
   refine⟨⟨a,i,g,p,q⟩,?_⟩
   simp[h0,h1,h2,h3,h4]
theorem zod{n:Nat}{vs:List V}(h:qct Tryz.prog n 28 vs):∃k i:Int,vs=[num k,num i]:=by
 cases n with
 | zero=>unfold qct at h;exact absurd h (by simp)
 | succ n =>
  unfold qct at h
  rw[Tryz.underlying28]at h
  obtain⟨hl,hf⟩:=h
  rw[zsb]at hl
  match vs,hl with
  | [a,b],_ =>
   have h1:=hf _ (by simp;exact .inl rfl)
   have h2:=hf _ (by simp;exact .inr rfl)
   simp[q8s]at h1 h2
   obtain⟨k,h1⟩:=qfh h1
   obtain⟨i,h2⟩:=qfh h2
   simp at h1 h2
   exact⟨k,i,by rw[h1,h2]⟩
theorem jam:qey Tryz.prog 26=true:=by kernel_rfl
theorem jan:qey Tryz.prog 28=true:=by kernel_rfl
end Go.Proofs.YtbepbclaoohngaaGreat
