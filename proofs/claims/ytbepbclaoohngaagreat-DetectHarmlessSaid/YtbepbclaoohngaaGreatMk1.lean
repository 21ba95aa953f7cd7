/- The table is made from the program. -/
import Derived.Test.YtbepbclaoohngaaGreatEn5
import Derived.Test.YtbepbclaoohngaaGreatCt2
import Derived.Test.YtbepbclaoohngaaGreatRe1
import Derived.KernelRfl
import Derived.Test.YtbepbclaoohngaaGreatDt6
import Derived.SizedLaws
import Derived.Deep.Slices
import Derived.WideShapes
import Derived.ChangeSame
import Derived.Test.YtbepbclaoohngaaGreatEn4
import Derived.Test.YtbepbclaoohngaaGreatProg
import Derived.Shelf.Sort.Plain
import Derived.Shelf.Slices.In.SortNone
import Derived.Test.YtbepbclaoohngaaGreatPg7
set_option linter.all false
namespace Go.Am
open Go (World Value Addr Obj Program TypeId TypeDesc DataW MemPlace maxLen Lit)
def zjy(P:Program)(S:List TypeId):Bool:=S.all fun t=>match P.underlying t with
 | some .bool | some (.int _) | some .string=>P.cellsOf t==1
 | some (.slice e)=>P.cellsOf t==1&&P.cellsOf e != 0&&S.contains e
 | some (.struct fs)=>qrw P fs.toList 0==some (P.cellsOf t)&&fs.toList.all fun f=>S.contains f.type
 | _=>false
theorem q3b{H:Type}{enc:TypeId×Value->H}{P:Program}{w:World}{base:Nat}{spare:Nat->Bool}{held:Bool}{S:List TypeId}(hS:zjy P S=true):∀(n:Nat) (t:TypeId) (cs:List Value) (x:DataW H×List MemPlace),t∈S->DataW.trod enc P w base spare held n t cs=some x ->
  ∃vs,qai (zov w) vs cs/\vs.all V.pcell=true/\qcv P n t vs/\cs.length=P.cellsOf t
 | 0,t,cs,x,_,h=>by simp[DataW.trod]at h
 | n+1,t,cs,x,hm,h=>by
  have hp:=jP.1 hS t hm
  split at hp
  .rename_i ht
   have hc:P.cellsOf t=1:=by simpa using hp
   unfold DataW.trod at h
   rw[ht]at h
   obtain⟨b,rfl⟩:∃b,cs=[.bool b]:=by
    rcases cs with _ | ⟨c,_ | ⟨c',cs⟩⟩
    .simp at h
    .cases c<;>simp at h
     exact⟨_,rfl⟩
    .cases c<;>simp at h
   refine⟨[.bool b],?_,rfl,?_,by simp[hc]⟩
   .unfold qai;exact⟨_,_,rfl,by unfold rel;rfl,by unfold qai;rfl⟩
   .unfold qcv;rw[ht];exact⟨b,rfl⟩
  .rename_i k ht
   have hc:P.cellsOf t=1:=by simpa using hp
   unfold DataW.trod at h
   rw[ht]at h
   obtain⟨m,rfl,hwf⟩:∃m,cs=[.int k m]/\(Lit.int k m).wf=true:=by
    rcases cs with _ | ⟨c,_ | ⟨c',cs⟩⟩
    .simp at h
    .cases c<;>simp at h
     rename_i k' m
     obtain⟨⟨rfl,h2⟩,_⟩:=h
     exact⟨m,rfl,h2⟩
    .cases c<;>simp at h
   refine⟨[.int k m],?_,rfl,?_,by simp[hc]⟩
   .unfold qai;exact⟨_,_,rfl,by unfold rel;rfl,by unfold qai;rfl⟩
   .unfold qcv;rw[ht];exact⟨m,rfl,hwf⟩
  .rename_i ht
   have hc:P.cellsOf t=1:=by simpa using hp
   unfold DataW.trod at h
   rw[ht]at h
   obtain⟨b,rfl,hb⟩:∃b:ByteArray,cs=[.string b]/\b.size<=maxLen:=by
    rcases cs with _ | ⟨c,_ | ⟨c',cs⟩⟩
    .simp at h
    .cases c<;>simp at h
     exact⟨_,rfl,h.1⟩
    .cases c<;>simp at h
   refine⟨[.str b.data.toList],?_,rfl,?_,by simp[hc]⟩
   .unfold qai;exact⟨_,_,rfl,by unfold rel;simp,by unfold qai;rfl⟩
   .unfold qcv;rw[ht];exact⟨_,rfl,by rw[Array.length_toList];exact hb⟩
  .rename_i e ht
   simp only[jE,beq_iff_eq,bne_iff_ne]at hp
   obtain⟨⟨hc,hce⟩,hpe⟩:=hp
   rcases DataW.trod_slice ht h with⟨rfl,_⟩ | ⟨a,len,cap,elems,rest,n',hn',rfl,_,_,hlc,hcm,hlen',hel,_,_⟩
   .refine⟨[.imm []],?_,rfl,?_,by simp[hc]⟩
    .unfold qai
     refine⟨_,_,rfl,?_,by unfold qai;rfl⟩
     unfold rel
     exact⟨none,0,rfl,jD _,rfl,.inl rfl⟩
    .unfold qcv;rw[ht];exact⟨[],rfl,Nat.zero_le _,fun r hr=>by cases hr⟩
   .obtain rfl:n=n':=by omega
    -- the elements
    have each:∀i,i<len->∃(vs:List V) (cs':List Value),w.cells? base (a.add (i*P.cellsOf e)) (P.cellsOf e)=some cs'/\qai (zov w) vs cs'/\vs.all V.pcell=true/\qcv P n e vs/\cs'.length=P.cellsOf e:=by
     intro i hi
     have h1:=hel i hi
     rw[jA (by omega),jB]at h1
     obtain⟨cs',g1,g2⟩:=h1
     obtain⟨vs,k1,k2,k3,k4⟩:=q3b hS n e cs' _ (List.contains_iff_mem.1 hpe) g2
     exact⟨vs,cs',g1,k1,k2,k3,k4⟩
    have build:∀k,k<=len->∃els:List (List V),els.length=k/\qby els=true/\(∀r∈els,r.length=P.cellsOf e/\qcv P n e r)/\∀(i:Nat) r,els[i]?=some r->∃cs',w.cells? base (a.add (i*P.cellsOf e)) (P.cellsOf e)=some cs'/\qai (zov w) r cs':=by
     intro k
     induction k with
     | zero=>intro _;exact⟨[],rfl,rfl,(fun r hr=>by cases hr),(fun i r h=>by simp at h)⟩
     | succ k ih =>
      intro hk
      obtain⟨els,e1,e2,e3,e4⟩:=ih (by omega)
      obtain⟨vs,cs',g1,g2,g3,g4,g5⟩:=each k (by omega)
      refine⟨els++[vs],by simp[e1],qmu e2 (by simp[qby];simpa using g3),fun r hr=>?_,fun i r hi=>?_⟩
      .rcases jQ.1 hr with hr | hr
       .exact e3 r hr
       .simp at hr;subst hr
        exact⟨by rw[qav g2,g5],g4⟩
      .by_cases hik:i<k
       .rw[jI (by omega)]at hi
        exact e4 i r hi
       .rw[jJ (by omega)]at hi
        have h0:i-els.length=0:=by
         have:=(jG.1 hi).1
         simp at this;omega
        rw[h0]at hi
        simp at hi
        subst hi
        have:i=k:=by omega
        subst this
        exact⟨cs',g1,g2⟩
    obtain⟨els,e1,e2,e3,e4⟩:=build len (jD _)
    refine⟨[.imm els],?_,rfl,?_,by simp[hc]⟩
    .unfold qai
     refine⟨_,_,rfl,?_,by unfold qai;rfl⟩
     unfold rel
     refine⟨some a,cap,by rw[e1],by omega,e2,?_⟩
     by_cases h0:els=[]
     .exact .inl h0
     .right
      have hlen:0<len:=by rw[<-e1];exact kB.2 h0
      obtain⟨vs,cs',g1,_⟩:=each 0 hlen
      have hblk:=Go.World.cells?_block g1 (by omega)
      have hspot:a.spot=none:=by
       obtain⟨q1,q2,q3⟩:=Go.World.cells?_some g1
       have h0':=q3 0 (by omega)
       rw[jA (by omega)]at h0'
       have:=Go.World.cell?_spot h0'
       simpa[Go.Addr.add]using this
      obtain⟨b,o,sp⟩:=a
      simp only at hspot
      subst hspot
      refine⟨b,o,P.cellsOf e,rfl,by omega,(by simpa[qcf]using hblk:b<w.heap.size),?_⟩
      rw[qge]
      intro i r hi
      refine⟨(e3 r (jR hi)).1,?_⟩
      obtain⟨cs',g1,g2⟩:=e4 i r hi
      refine qgo (us:=cs') (fun j u hj=>?_) g2
      obtain⟨q1,q2,q3⟩:=Go.World.cells?_some g1
      have hjl:=(jG.1 hj).1
      have:=q3 j (by omega)
      rw[qcf,qcf,hj]at this
      exact this
    .unfold qcv;rw[ht];exact⟨els,rfl,by omega,e3⟩
  .rename_i fs ht
   simp only[jE,beq_iff_eq,jP]at hp
   obtain⟨htl,hall⟩:=hp
   unfold DataW.trod at h
   rw[ht]at h
   have hs:cs.length=P.cellsOf t/\∃xs,(fs.toList.mapM fun f=>DataW.trod enc P w base spare held n f.type ((cs.drop f.offset).take (P.cellsOf f.type)))=some xs:=by
    simp only at h
    split at h
    .rename_i hl
     simp only[jM]at h
     obtain⟨xs,h1,_⟩:=h
     exact⟨hl,xs,h1⟩
    .cases h
   obtain⟨hl,xs,hxs⟩:=hs
   have hf:∀f∈fs.toList,∃y,DataW.trod enc P w base spare held n f.type ((cs.drop f.offset).take (P.cellsOf f.type))=some y:=by
    intro f hfm
    obtain⟨i,hi⟩:=List.mem_iff_getElem?.1 hfm
    have h1:=Go.mapM_some_get hxs i f hi
    have h2:=Go.mapM_some_length hxs
    have h3:=(jG.1 hi).1
    rw[jA (by omega)]at h1
    exact⟨_,h1⟩
   obtain⟨vs,k1,k2,k3⟩:=q6b (E:=zov w) (n:=n) htl hl fun f hfm=>by
    obtain⟨y,hy⟩:=hf f hfm
    obtain⟨vs,q1,q2,q3,_⟩:=q3b hS n f.type _ y (List.contains_iff_mem.1 (hall f hfm)) hy
    exact⟨vs,q1,q2,q3⟩
   refine⟨vs,by simpa using k1,k2,?_,hl⟩
   unfold qcv
   rw[ht]
   refine⟨?_,fun f hfm=>by simpa using k3 [] rfl f hfm⟩
   have:=qav k1
   simpa[hl]using this
  .cases hp
theorem qmg{H:Type}{enc:TypeId×Value->H}{P:Program}{W:World}{base b0:Nat}{spare:Nat->Bool}{held:Bool}{reach:Go.Reach}{t:TypeId}{v:Value}{d:DataW H}{ps:List MemPlace}{S:List TypeId}(hS:zjy P S=true)(hp:t∈S)
  (hv:Value.okWide P W reach b0 t v) (h:DataW.Trod enc P W base spare held t v d ps) :
  ∃n,∃x:V,rel (zov W) x v/\((∃vs,x=.agg vs/\qcv P n t vs)\/(qeq P t=false/\qcv P n t [x])):=by
 obtain⟨n,hf⟩:=h
 refine⟨n,?_⟩
 obtain⟨vs,k1,k2,k3,k4⟩:=q3b hS n t v.cells.toList _ hp hf
 have one:qeq P t=false->v.cells=#[v]->∃x:V,rel (zov W) x v/\((∃vs,x=.agg vs/\qcv P n t vs)\/(qeq P t=false/\qcv P n t [x])):=by
  intro ha hc
  rw[hc]at k1
  cases vs with
  | nil=>unfold qai at k1;cases k1
  | cons x vs =>
   unfold qai at k1
   obtain⟨u,us,e,r1,r2⟩:=k1
   cases e
   cases vs with
   | nil=>exact⟨x,r1,.inr ⟨ha,k3⟩⟩
   | cons y vs=>unfold qai at r2;obtain⟨_,_,e,_⟩:=r2;cases e
 have hp:=jP.1 hS t hp
 .split at hp
  .rename_i ht
   obtain⟨b,rfl⟩:=Go.WideShapes.okWide_bool ht hv
   exact one (by simp[qeq,ht]) rfl
  .rename_i k ht
   obtain⟨b,rfl⟩:=Go.WideShapes.okWide_int ht hv
   exact one (by simp[qeq,ht]) rfl
  .rename_i ht
   obtain⟨b,rfl⟩:=Go.WideShapes.okWide_string ht hv
   exact one (by simp[qeq,ht]) rfl
  .rename_i e ht
   obtain⟨a,l,c,rfl⟩:=Go.WideShapes.okWide_slice ht hv
   exact one (by simp[qeq,ht]) rfl
  .rename_i fs ht
   obtain⟨cs,rfl,hc⟩:=Go.WideShapes.okWide_struct ht hv
   exact⟨.agg vs,by unfold rel;exact⟨cs,rfl,k1⟩,.inl ⟨vs,rfl,k3⟩⟩
  .cases hp
end Go.Am
namespace Go.Proofs.YtbepbclaoohngaaGreat
open Go Go.Am Go.Proofs
set_option maxRecDepth 100000
theorem q4n:Tryz.prog.cellsOf 3=1:=by kernel_rfl
theorem zqc:Tryz.prog.cellsOf 4=1:=by kernel_rfl
theorem zzi:Tryz.prog.cellsOf 9=1:=by kernel_rfl
theorem ztg:Tryz.prog.cellsOf 22=1:=by kernel_rfl
theorem zth:Tryz.prog.cellsOf 23=1:=by kernel_rfl
theorem zti:Tryz.prog.cellsOf 24=1:=by kernel_rfl
theorem ztj:Tryz.prog.cellsOf 26=5:=by kernel_rfl
theorem ztk:Tryz.prog.cellsOf 28=2:=by kernel_rfl
theorem zmi:Tryz.prog.cellsOf 141=1:=by kernel_rfl
theorem q9x:Tryz.prog.cellsOf 143=3:=by kernel_rfl
theorem zmj:Tryz.prog.cellsOf 145=10:=by kernel_rfl
theorem qfa{n:Nat}{vs:List V}(h:qcv Tryz.prog n 3 vs):∃m,vs=[num m]:=by
 cases n with
 | zero=>unfold qcv at h;exact absurd h (by simp)
 | succ n =>
  unfold qcv at h
  rw[Tryz.underlying3]at h
  obtain⟨m,rfl,hw⟩:=h
  exact⟨m,rfl⟩
theorem q1k{n:Nat}{vs:List V}(h:qcv Tryz.prog n 4 vs):∃b,vs=[.bool b]:=by
 cases n with
 | zero=>unfold qcv at h;exact absurd h (by simp)
 | succ n =>
  unfold qcv at h
  rw[Tryz.underlying4]at h
  exact h
theorem q7c{n:Nat}{vs:List V}(h:qcv Tryz.prog n 9 vs):∃s,vs=[.str s]/\s.length<=maxLen:=by
 cases n with
 | zero=>unfold qcv at h;exact absurd h (by simp)
 | succ n =>
  unfold qcv at h
  rw[Tryz.underlying9]at h
  exact h
theorem qtn{n e:Nat}{α:Type}{row:α->List V}(hr:∀vs,qcv Tryz.prog n e vs->∃x,vs=row x):∀{els:List (List V)},(∀r∈els,qcv Tryz.prog n e r)->∃l:List α,els=l.map row
 | [],_=>⟨[],rfl⟩
 | r :: els,h=>by
  obtain⟨x,hx⟩:=hr r (h r (by simp))
  obtain⟨l,hl⟩:=qtn hr (els:=els) fun q hq=>h q (by simp[hq])
  exact⟨x :: l,by rw[hx,hl];rfl⟩
theorem qjl{n t e:Nat}{α:Type}{row:α->List V}(hu:Tryz.prog.underlying t=some (.slice e))(hr:∀n vs,qcv Tryz.prog n e vs->∃x,vs=row x){vs:List V}(h:qcv Tryz.prog n t vs):∃l:List α,vs=[.imm (l.map row)]:=by
 cases n with
 | zero=>unfold qcv at h;exact absurd h (by simp)
 | succ n =>
  unfold qcv at h
  rw[hu]at h
  obtain⟨els,he,_,hel⟩:=h
  obtain⟨l,rfl⟩:=qtn (n:=n) (e:=e) (row:=row) (fun vs h=>hr n vs h) fun r hr=>(hel r hr).2
  exact⟨l,he⟩
theorem q3p:∀{n:Nat} {vs:List V},qcv Tryz.prog n 143 vs->∃x:Ex,vs=x.cells
 | 0,vs,h=>by unfold qcv at h;exact absurd h (by simp)
 | 1,vs,h=>by
  unfold qcv at h
  rw[Tryz.underlying143]at h
  obtain⟨hl,hf⟩:=h
  have h1:=hf _ (by simp;exact .inl rfl)
  unfold qcv at h1
  exact absurd h1 (by simp)
 | n+2,vs,h=>by
  unfold qcv at h
  rw[Tryz.underlying143]at h
  obtain⟨hl,hf⟩:=h
  rw[q9x]at hl
  match vs,hl with
  | [a,b,d],_ =>
   have h1:=hf _ (by simp;exact .inl rfl)
   have h2:=hf _ (by simp;exact .inr (.inl rfl))
   have h3:=hf _ (by simp;exact .inr (.inr rfl))
   simp[q4n,zmi]at h1 h2 h3
   obtain⟨o,h1⟩:=qfa h1
   obtain⟨i,h2⟩:=qfa h2
   unfold qcv at h3
   rw[Tryz.underlying141]at h3
   obtain⟨els,he,_,hel⟩:=h3
   obtain⟨l,rfl⟩:=qtn (n:=n) (e:=143) (row:=Ex.row) (fun vs h=>by obtain⟨x,hx⟩:=q3p h;exact⟨x,by rw[hx,q0y]⟩) fun r hr=>(hel r hr).2
   refine⟨.mk o i l,?_⟩
   simp at h1 h2 he
   rw[h1,h2,he]
   rfl
theorem zpn{n:Nat}{vs:List V}(h:qcv Tryz.prog n 145 vs):∃x:Sg,vs=x.row:=by
 cases n with
 | zero=>unfold qcv at h;exact absurd h (by simp)
 | succ n =>
  unfold qcv at h
  rw[Tryz.underlying145]at h
  obtain⟨hl,hf⟩:=h
  rw[zmj]at hl
  match vs,hl with
  | [a0,a1,a2,a3,a4,a5,a6,a7,a8,a9],_ =>
   have h0:=hf _ (by simp;exact .inl rfl)
   have h1:=hf _ (by simp;exact .inr (.inl rfl))
   have h2:=hf _ (by simp;exact .inr (.inr (.inl rfl)))
   have h3:=hf _ (by simp;exact .inr (.inr (.inr (.inl rfl))))
   have h4:=hf _ (by simp;exact .inr (.inr (.inr (.inr (.inl rfl)))))
   have h5:=hf _ (by simp;exact .inr (.inr (.inr (.inr (.inr rfl)))))
   simp[q4n,zqc,zzi,q9x]at h0 h1 h2 h3 h4 h5
   obtain⟨s,h0,_⟩:=q7c h0
   obtain⟨k,h1⟩:=qfa h1
   obtain⟨x,h2⟩:=q3p h2
   obtain⟨y,h3⟩:=q3p h3
   obtain⟨d,h4⟩:=qfa h4
   obtain⟨b,h5⟩:=q1k h5
   simp at h0 h1 h2 h3 h4 h5
   refine⟨⟨s,k,x,y,d,b⟩,?_⟩
   simp[h0,h1,h2,h3,h4,h5]
theorem q3o{n:Nat}{vs:List V}(h:qcv Tryz.prog n 26 vs):∃c:Ct,vs=c.cells:=by
 cases n with
 | zero=>unfold qcv at h;exact absurd h (by simp)
 | succ n =>
  unfold qcv at h
  rw[Tryz.underlying26]at h
  obtain⟨hl,hf⟩:=h
  rw[ztj]at hl
  match vs,hl with
  | [a0,a1,a2,a3,a4],_ =>
   have h0:=hf _ (by simp;exact .inl rfl)
   have h1:=hf _ (by simp;exact .inr (.inl rfl))
   have h2:=hf _ (by simp;exact .inr (.inr (.inl rfl)))
   have h3:=hf _ (by simp;exact .inr (.inr (.inr (.inl rfl))))
   have h4:=hf _ (by simp;exact .inr (.inr (.inr (.inr rfl))))
   simp[q4n,ztg,zth,zti]at h0 h1 h2 h3 h4
   obtain⟨a,h0⟩:=qfa h0
   obtain⟨i,h1⟩:=qjl (row:=qoq) Tryz.underlying22 (fun n vs h=>by obtain⟨s,h,_⟩:=q7c h;exact⟨s,h⟩) h1
   obtain⟨g,h2⟩:=qjl (row:=Sg.row) Tryz.underlying23 (fun n vs h=>zpn h) h2
   obtain⟨p,h3⟩:=qjl (row:=qbo) Tryz.underlying24 (fun n vs h=>qfa h) h3
   obtain⟨q,h4⟩:=qjl (row:=qbo) Tryz.underlying24 (fun n vs h=>qfa h) h4
   simp at h0 h1 h2 h3 h4
   refine⟨⟨a,i,g,p,q⟩,?_⟩
   simp[h0,h1,h2,h3,h4]
theorem q3q{n:Nat}{vs:List V}(h:qcv Tryz.prog n 28 vs):∃k i:Int,vs=[num k,num i]:=by
 cases n with
 | zero=>unfold qcv at h;exact absurd h (by simp)
 | succ n =>
  unfold qcv at h
  rw[Tryz.underlying28]at h
  obtain⟨hl,hf⟩:=h
  rw[ztk]at hl
  match vs,hl with
  | [a,b],_ =>
   have h1:=hf _ (by simp;exact .inl rfl)
   have h2:=hf _ (by simp;exact .inr rfl)
   simp[q4n]at h1 h2
   obtain⟨k,h1⟩:=qfa h1
   obtain⟨i,h2⟩:=qfa h2
   simp at h1 h2
   exact⟨k,i,by rw[h1,h2]⟩
theorem zsy:qeq Tryz.prog 26=true:=by kernel_rfl
theorem zsz:qeq Tryz.prog 28=true:=by kernel_rfl
theorem zmh:Tryz.prog.cellsOf 105=3:=by kernel_rfl
theorem zkz{n:Nat}{vs:List V}(h:qcv Tryz.prog n 105 vs):∃x:Evn,vs=x.row:=by
 cases n with
 | zero=>unfold qcv at h;exact absurd h (by simp)
 | succ n =>
  unfold qcv at h
  rw[Tryz.underlying105]at h
  obtain⟨hl,hf⟩:=h
  rw[zmh]at hl
  match vs,hl with
  | [a,b,d],_ =>
   have h1:=hf _ (by simp;exact .inl rfl)
   have h2:=hf _ (by simp;exact .inr (.inl rfl))
   have h3:=hf _ (by simp;exact .inr (.inr rfl))
   simp[q4n,zqc]at h1 h2 h3
   obtain⟨k,h1⟩:=qfa h1
   obtain⟨i,h2⟩:=qfa h2
   obtain⟨v,h3⟩:=q1k h3
   simp at h1 h2 h3
   exact⟨⟨k,i,v⟩,by simp[h1,h2,h3]⟩
theorem zla{n:Nat}{vs:List V}(h:qcv Tryz.prog n 31 vs):∃l:List Evn,vs=[evs l]:=qjl (row:=Evn.row) Tryz.underlying31 (fun n vs h=>zkz h) h
theorem qub:zjy Tryz.prog [26,28,9,3,4,22,23,24,141,143,145,31,105,77,79,121,40,5]=true:=by kernel_rfl
theorem zpo{n:Nat}{vs:List V}(h:qcv Tryz.prog n 5 vs):∃m,vs=[.int .u8 m]/\0<=m/\m<=255:=by
 cases n with
 | zero=>unfold qcv at h;exact absurd h (by simp)
 | succ n =>
  unfold qcv at h
  rw[Tryz.underlying5]at h
  obtain⟨m,rfl,hw⟩:=h
  refine⟨m,rfl,?_⟩
  simpa[Lit.wf,IntKind.bits,IntKind.signed,IntKind.wrap,IntKind.min,IntKind.max]using hw
section
variable{H:Type}{enc:TypeId×Value->H}{P:Program}{W:World}{base b0:Nat}{spare:Nat->Bool}{held:Bool}
end
end Go.Proofs.YtbepbclaoohngaaGreat
namespace Go.Proofs.YtbepbclaoohngaaGreat
open Go Go.Am Go.Proofs Go.Shelf
set_option maxRecDepth 100000
def jfu:Go.Shelf.Ren:=⟨fun | 189=>156 | 125=>223 | 257=>222 | 128=>268 | 129=>269 | 294=>259 | 295=>260 | 296=>261 | 297=>262 | 298=>263 | 299=>264 | 216=>265 | 300=>266 | 301=>267 | 328=>284 | 329=>285 | 330=>286 | 331=>287 | 332=>288 | 215=>289 | 343=>300 | n=>n,fun | 28=>24 | 3=>3 | 46=>313 | 0=>0 | 51=>349 | 53=>351 | 4=>4 | 183=>343 | 182=>342 | 131=>331 | 5=>5 | 9=>9 | 218=>370 | 222=>309 | 228=>388 | 229=>389 | n=>n,fun | n=>n⟩
theorem lyS:Go.Proofs.Lays.n189 Tryz.prog jfu:={ mixed:=by kernel_rfl,f125:=Tryz.func223.trans (congrArg some (by kernel_rfl)),f128:=Tryz.func268.trans (congrArg some (by kernel_rfl)),f129:=Tryz.func269.trans (congrArg some (by kernel_rfl)),f189:=Tryz.func156.trans (congrArg some (by kernel_rfl)),f215:=Tryz.func289.trans (congrArg some (by kernel_rfl)),f216:=Tryz.func265.trans (congrArg some (by kernel_rfl)),f257:=Tryz.func222.trans (congrArg some (by kernel_rfl)),f294:=Tryz.func259.trans (congrArg some (by kernel_rfl)),f295:=Tryz.func260.trans (congrArg some (by kernel_rfl)),f296:=Tryz.func261.trans (congrArg some (by kernel_rfl)),f297:=Tryz.func262.trans (congrArg some (by kernel_rfl)),f298:=Tryz.func263.trans (congrArg some (by kernel_rfl)),f299:=Tryz.func264.trans (congrArg some (by kernel_rfl)),f300:=Tryz.func266.trans (congrArg some (by kernel_rfl)),f301:=Tryz.func267.trans (congrArg some (by kernel_rfl)),f328:=Tryz.func284.trans (congrArg some (by kernel_rfl)),f329:=Tryz.func285.trans (congrArg some (by kernel_rfl)),f330:=Tryz.func286.trans (congrArg some (by kernel_rfl)),f331:=Tryz.func287.trans (congrArg some (by kernel_rfl)),f332:=Tryz.func288.trans (congrArg some (by kernel_rfl)),f343:=Tryz.func300.trans (congrArg some (by kernel_rfl)),t0:=Tryz.underlying0,a0:=Tryz.isAgg0,z0:=Tryz.sizeOf0,v0:=Tryz.zeroValue0,t3:=Tryz.underlying3,a3:=Tryz.isAgg3,z3:=Tryz.sizeOf3,v3:=Tryz.zeroValue3,t4:=Tryz.underlying4,a4:=Tryz.isAgg4,z4:=Tryz.sizeOf4,v4:=Tryz.zeroValue4,t5:=Tryz.underlying5,a5:=Tryz.isAgg5,z5:=Tryz.sizeOf5,v5:=Tryz.zeroValue5,t9:=Tryz.underlying9,a9:=Tryz.isAgg9,z9:=Tryz.sizeOf9,v9:=Tryz.zeroValue9,t28:=Tryz.underlying24,a28:=Tryz.isAgg24,z28:=Tryz.sizeOf24,v28:=Tryz.zeroValue24,t46:=Tryz.underlying313,a46:=Tryz.isAgg313,z46:=Tryz.sizeOf313,v46:=Tryz.zeroValue313,t51:=Tryz.underlying349,a51:=Tryz.isAgg349,z51:=Tryz.sizeOf349,v51:=Tryz.zeroValue349,t53:=Tryz.underlying351,a53:=Tryz.isAgg351,z53:=Tryz.sizeOf351,v53:=Tryz.zeroValue351,t131:=Tryz.underlying331,a131:=Tryz.isAgg331,z131:=Tryz.sizeOf331,v131:=Tryz.zeroValue331,t182:=Tryz.underlying342,a182:=Tryz.isAgg342,z182:=Tryz.sizeOf342,v182:=Tryz.zeroValue342,t183:=Tryz.underlying343,a183:=Tryz.isAgg343,z183:=Tryz.sizeOf343,v183:=Tryz.zeroValue343,t218:=Tryz.underlying370,a218:=Tryz.isAgg370,z218:=Tryz.sizeOf370,v218:=Tryz.zeroValue370,t222:=Tryz.underlying309,a222:=Tryz.isAgg309,z222:=Tryz.sizeOf309,v222:=Tryz.zeroValue309,t228:=Tryz.underlying388,a228:=Tryz.isAgg388,z228:=Tryz.sizeOf388,v228:=Tryz.zeroValue388,t229:=Tryz.underlying389,a229:=Tryz.isAgg389,z229:=Tryz.sizeOf389,v229:=Tryz.zeroValue389 }
theorem jdx:quv Tryz.prog 156 :=
 ⟨⟨_,Tryz.func156,by decide,by kernel_rfl⟩,fun blk off cap zs w h1 h2 h3=>Any.slices_Sort_int lyS blk off cap zs w h1 h2 h3,fun p cap w=>calls_of_every_depth fun D=>AnyS.slices_Sort_int_none_alone lyS D p cap w⟩
theorem jdn:∀f g,pg0 f=some g->∃fn fresh raw md,Tryz.prog.funcs[qmd f]?=some fn/\zxu Tryz.prog fresh raw fn md=some g:=by
 intro f g h
 have h2:cF f=some g:=by
  unfold pg0 at h
  split at h
  .rename_i e;rw[<-h];exact zhm z3o e
  .exact h
 unfold cF at h2
 change (Tryz.prog.funcs[qmd f]?).bind _=_ at h2
 cases e:Tryz.prog.funcs[qmd f]? with
 | none=>rw[e]at h2;cases h2
 | some fn=>rw[e]at h2;exact⟨fn,_,_,_,rfl,h2⟩
theorem made:Made Tryz.prog pg:=by
 intro f g h
 unfold pg at h
 split at h
 .rename_i e
  cases Nat.eq_of_beq_eq_true e
  cases h
  exact .inr ⟨rfl,by decide,jdx⟩
 .exact .inl (jdn f g h)
end Go.Proofs.YtbepbclaoohngaaGreat
