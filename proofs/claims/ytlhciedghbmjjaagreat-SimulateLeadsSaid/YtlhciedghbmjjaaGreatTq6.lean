/- What comes in is a pure value of its type: types that may be parts of themselves. What the arguments of the laws of plant are: controls. What the arguments of the laws of machines in time are: machines, presses, pairs of small numbers; and how much memory they take. -/
import Derived.Test.YtlhciedghbmjjaaGreatEn5
import Derived.Test.YtlhciedghbmjjaaGreatCt2
import Derived.Test.YtlhciedghbmjjaaGreatSi2
import Derived.SizedLaws
import Derived.Deep.Slices
import Derived.WideShapes
import Derived.ChangeSame
set_option linter.all false
namespace Go.Am
open Go (World Value Addr Obj Program TypeId TypeDesc DataW MemPlace maxLen Lit)
def zdb (P:Program) (S:List TypeId):Bool:=S.all fun t=>match P.underlying t with
 | some .bool | some (.int _) | some .string=>P.cellsOf t == 1
 | some (.slice e)=>P.cellsOf t == 1 && P.cellsOf e != 0 && S.contains e
 | some (.struct fs)=>qnq P fs.toList 0 == some (P.cellsOf t) && fs.toList.all fun f=>S.contains f.type
 | _=>false
theorem qxx {H:Type} {enc:TypeId × Value→H} {P:Program} {w:World} {base:Nat} {spare:Nat→Bool} {held:Bool} {S:List TypeId} (hS:zdb P S=true):∀ (n:Nat) (t:TypeId) (cs:List Value) (x:DataW H × List MemPlace),t ∈ S→DataW.trod enc P w base spare held n t cs=some x →
  ∃ vs,qaf (q2a w) vs cs∧vs.all V.pcell=true∧qbr P n t vs∧cs.length=P.cellsOf t
 | 0,t,cs,x,_,h=>by simp [DataW.trod] at h
 | n + 1,t,cs,x,hm,h=>by
  have hp:=List.all_eq_true.1 hS t hm
  split at hp
  ·rename_i ht
   have hc:P.cellsOf t=1:=by simpa using hp
   unfold DataW.trod at h
   rw [ht] at h
   obtain ⟨b,rfl⟩:∃ b,cs=[.bool b]:=by
    rcases cs with _ | ⟨c,_ | ⟨c',cs⟩⟩
    ·simp at h
    ·cases c <;> simp at h
     exact ⟨_,rfl⟩
    ·cases c <;> simp at h
   refine ⟨[.bool b],?_,rfl,?_,by simp [hc]⟩
   ·unfold qaf; exact ⟨_,_,rfl,by unfold rel; rfl,by unfold qaf; rfl⟩
   ·unfold qbr; rw [ht]; exact ⟨b,rfl⟩
  ·rename_i k ht
   have hc:P.cellsOf t=1:=by simpa using hp
   unfold DataW.trod at h
   rw [ht] at h
   obtain ⟨m,rfl,hwf⟩:∃ m,cs=[.int k m]∧(Lit.int k m).wf=true:=by
    rcases cs with _ | ⟨c,_ | ⟨c',cs⟩⟩
    ·simp at h
    ·cases c <;> simp at h
     rename_i k' m
     obtain ⟨⟨rfl,h2⟩,_⟩:=h
     exact ⟨m,rfl,h2⟩
    ·cases c <;> simp at h
   refine ⟨[.int k m],?_,rfl,?_,by simp [hc]⟩
   ·unfold qaf; exact ⟨_,_,rfl,by unfold rel; rfl,by unfold qaf; rfl⟩
   ·unfold qbr; rw [ht]; exact ⟨m,rfl,hwf⟩
  ·rename_i ht
   have hc:P.cellsOf t=1:=by simpa using hp
   unfold DataW.trod at h
   rw [ht] at h
   obtain ⟨b,rfl,hb⟩:∃ b:ByteArray,cs=[.string b]∧b.size≤maxLen:=by
    rcases cs with _ | ⟨c,_ | ⟨c',cs⟩⟩
    ·simp at h
    ·cases c <;> simp at h
     exact ⟨_,rfl,h.1⟩
    ·cases c <;> simp at h
   refine ⟨[.str b.data.toList],?_,rfl,?_,by simp [hc]⟩
   ·unfold qaf; exact ⟨_,_,rfl,by unfold rel; simp,by unfold qaf; rfl⟩
   ·unfold qbr; rw [ht]; exact ⟨_,rfl,by rw [Array.length_toList]; exact hb⟩
  ·rename_i e ht
   simp only [Bool.and_eq_true,beq_iff_eq,bne_iff_ne] at hp
   obtain ⟨⟨hc,hce⟩,hpe⟩:=hp
   rcases DataW.trod_slice ht h with ⟨rfl,_⟩ | ⟨a,len,cap,elems,rest,n',hn',rfl,_,_,hlc,hcm,hlen',hel,_,_⟩
   ·refine ⟨[.imm []],?_,rfl,?_,by simp [hc]⟩
    ·unfold qaf
     refine ⟨_,_,rfl,?_,by unfold qaf; rfl⟩
     unfold rel
     exact ⟨none,0,rfl,Nat.le_refl _,rfl,.inl rfl⟩
    ·unfold qbr; rw [ht]; exact ⟨[],rfl,Nat.zero_le _,fun r hr=>by cases hr⟩
   ·obtain rfl:n=n':=by omega
    -- the elements
    have each:∀ i,i < len→∃ (vs:List V) (cs':List Value),w.cells? base (a.add (i * P.cellsOf e)) (P.cellsOf e)=some cs'∧qaf (q2a w) vs cs'∧vs.all V.pcell=true∧qbr P n e vs∧cs'.length=P.cellsOf e:=by
     intro i hi
     have h1:=hel i hi
     rw [List.getElem?_eq_getElem (by omega),Option.bind_eq_some_iff] at h1
     obtain ⟨cs',g1,g2⟩:=h1
     obtain ⟨vs,k1,k2,k3,k4⟩:=qxx hS n e cs' _ (List.contains_iff_mem.1 hpe) g2
     exact ⟨vs,cs',g1,k1,k2,k3,k4⟩
    have build:∀ k,k≤len→∃ els:List (List V),els.length=k∧qcd els=true∧(∀ r ∈ els,r.length=P.cellsOf e∧qbr P n e r)∧∀ (i:Nat) r,els[i]?=some r→∃ cs',w.cells? base (a.add (i * P.cellsOf e)) (P.cellsOf e)=some cs'∧qaf (q2a w) r cs':=by
     intro k
     induction k with
     | zero=>intro _; exact ⟨[],rfl,rfl,(fun r hr=>by cases hr),(fun i r h=>by simp at h)⟩
     | succ k ih =>
      intro hk
      obtain ⟨els,e1,e2,e3,e4⟩:=ih (by omega)
      obtain ⟨vs,cs',g1,g2,g3,g4,g5⟩:=each k (by omega)
      refine ⟨els++[vs],by simp [e1],qia e2 (by simp [qcd]; simpa using g3),fun r hr=>?_,fun i r hi=>?_⟩
      ·rcases List.mem_append.1 hr with hr | hr
       ·exact e3 r hr
       ·simp at hr; subst hr
        exact ⟨by rw [qap g2,g5],g4⟩
      ·by_cases hik:i < k
       ·rw [List.getElem?_append_left (by omega)] at hi
        exact e4 i r hi
       ·rw [List.getElem?_append_right (by omega)] at hi
        have h0:i - els.length=0:=by
         have:=(List.getElem?_eq_some_iff.1 hi).1
         simp at this; omega
        rw [h0] at hi
        simp at hi
        subst hi
        have:i=k:=by omega
        subst this
        exact ⟨cs',g1,g2⟩
    obtain ⟨els,e1,e2,e3,e4⟩:=build len (Nat.le_refl _)
    refine ⟨[.imm els],?_,rfl,?_,by simp [hc]⟩
    ·unfold qaf
     refine ⟨_,_,rfl,?_,by unfold qaf; rfl⟩
     unfold rel
     refine ⟨some a,cap,by rw [e1],by omega,e2,?_⟩
     by_cases h0:els=[]
     ·exact .inl h0
     ·right
      have hlen:0 < len:=by rw [← e1]; exact List.length_pos_iff.2 h0
      obtain ⟨vs,cs',g1,_⟩:=each 0 hlen
      have hblk:=Go.World.cells?_block g1 (by omega)
      have hspot:a.spot=none:=by
       obtain ⟨q1,q2,q3⟩:=Go.World.cells?_some g1
       have h0':=q3 0 (by omega)
       rw [List.getElem?_eq_getElem (by omega)] at h0'
       have:=Go.World.cell?_spot h0'
       simpa [Go.Addr.add] using this
      obtain ⟨b,o,sp⟩:=a
      simp only at hspot
      subst hspot
      refine ⟨b,o,P.cellsOf e,rfl,by omega,(by simpa [qbt] using hblk:b < w.heap.size),?_⟩
      rw [qfq]
      intro i r hi
      refine ⟨(e3 r (List.mem_of_getElem? hi)).1,?_⟩
      obtain ⟨cs',g1,g2⟩:=e4 i r hi
      refine qeg (us:=cs') (fun j u hj=>?_) g2
      obtain ⟨q1,q2,q3⟩:=Go.World.cells?_some g1
      have hjl:=(List.getElem?_eq_some_iff.1 hj).1
      have:=q3 j (by omega)
      rw [qbt,qbt,hj] at this
      exact this
    ·unfold qbr; rw [ht]; exact ⟨els,rfl,by omega,e3⟩
  ·rename_i fs ht
   simp only [Bool.and_eq_true,beq_iff_eq,List.all_eq_true] at hp
   obtain ⟨htl,hall⟩:=hp
   unfold DataW.trod at h
   rw [ht] at h
   have hs:cs.length=P.cellsOf t∧∃ xs,(fs.toList.mapM fun f=>DataW.trod enc P w base spare held n f.type ((cs.drop f.offset).take (P.cellsOf f.type)))=some xs:=by
    simp only at h
    split at h
    ·rename_i hl
     simp only [Option.map_eq_some_iff] at h
     obtain ⟨xs,h1,_⟩:=h
     exact ⟨hl,xs,h1⟩
    ·cases h
   obtain ⟨hl,xs,hxs⟩:=hs
   have hf:∀ f ∈ fs.toList,∃ y,DataW.trod enc P w base spare held n f.type ((cs.drop f.offset).take (P.cellsOf f.type))=some y:=by
    intro f hfm
    obtain ⟨i,hi⟩:=List.mem_iff_getElem?.1 hfm
    have h1:=Go.mapM_some_get hxs i f hi
    have h2:=Go.mapM_some_length hxs
    have h3:=(List.getElem?_eq_some_iff.1 hi).1
    rw [List.getElem?_eq_getElem (by omega)] at h1
    exact ⟨_,h1⟩
   obtain ⟨vs,k1,k2,k3⟩:=qrm (E:=q2a w) (n:=n) htl hl fun f hfm=>by
    obtain ⟨y,hy⟩:=hf f hfm
    obtain ⟨vs,q1,q2,q3,_⟩:=qxx hS n f.type _ y (List.contains_iff_mem.1 (hall f hfm)) hy
    exact ⟨vs,q1,q2,q3⟩
   refine ⟨vs,by simpa using k1,k2,?_,hl⟩
   unfold qbr
   rw [ht]
   refine ⟨?_,fun f hfm=>by simpa using k3 [] rfl f hfm⟩
   have:=qap k1
   simpa [hl] using this
  ·cases hp
theorem qrx {H:Type} {enc:TypeId × Value→H} {P:Program} {W:World} {base b0:Nat} {spare:Nat→Bool} {held:Bool} {reach:Go.Reach} {t:TypeId} {v:Value} {d:DataW H} {ps:List MemPlace} {S:List TypeId} (hS:zdb P S=true) (hp:t ∈ S)
  (hv:Value.okWide P W reach b0 t v) (h:DataW.Trod enc P W base spare held t v d ps) :
  ∃ n,∃ x:V,rel (q2a W) x v∧((∃ vs,x=.agg vs∧qbr P n t vs)∨(qcw P t=false∧qbr P n t [x])):=by
 obtain ⟨n,hf⟩:=h
 refine ⟨n,?_⟩
 obtain ⟨vs,k1,k2,k3,k4⟩:=qxx hS n t v.cells.toList _ hp hf
 have one:qcw P t=false→v.cells=#[v]→∃ x:V,rel (q2a W) x v∧((∃ vs,x=.agg vs∧qbr P n t vs)∨(qcw P t=false∧qbr P n t [x])):=by
  intro ha hc
  rw [hc] at k1
  cases vs with
  | nil=>unfold qaf at k1; cases k1
  | cons x vs =>
   unfold qaf at k1
   obtain ⟨u,us,e,r1,r2⟩:=k1
   cases e
   cases vs with
   | nil=>exact ⟨x,r1,.inr ⟨ha,k3⟩⟩
   | cons y vs=>unfold qaf at r2; obtain ⟨_,_,e,_⟩:=r2; cases e
 have hp:=List.all_eq_true.1 hS t hp
 ·split at hp
  ·rename_i ht
   obtain ⟨b,rfl⟩:=Go.WideShapes.okWide_bool ht hv
   exact one (by simp [qcw,ht]) rfl
  ·rename_i k ht
   obtain ⟨b,rfl⟩:=Go.WideShapes.okWide_int ht hv
   exact one (by simp [qcw,ht]) rfl
  ·rename_i ht
   obtain ⟨b,rfl⟩:=Go.WideShapes.okWide_string ht hv
   exact one (by simp [qcw,ht]) rfl
  ·rename_i e ht
   obtain ⟨a,l,c,rfl⟩:=Go.WideShapes.okWide_slice ht hv
   exact one (by simp [qcw,ht]) rfl
  ·rename_i fs ht
   obtain ⟨cs,rfl,hc⟩:=Go.WideShapes.okWide_struct ht hv
   exact ⟨.agg vs,by unfold rel; exact ⟨cs,rfl,k1⟩,.inl ⟨vs,rfl,k3⟩⟩
  ·cases hp
end Go.Am
namespace Go.Proofs.YtlhciedghbmjjaaGreat
open Go Go.Am Go.Proofs
set_option maxRecDepth 100000
theorem q1a:Tryz.prog.cellsOf 3=1:=by kernel_rfl
theorem zkb:Tryz.prog.cellsOf 4=1:=by kernel_rfl
theorem zur:Tryz.prog.cellsOf 9=1:=by kernel_rfl
theorem zkl:Tryz.prog.cellsOf 22=1:=by kernel_rfl
theorem zpd:Tryz.prog.cellsOf 23=1:=by kernel_rfl
theorem zoy:Tryz.prog.cellsOf 24=1:=by kernel_rfl
theorem zbf:Tryz.prog.cellsOf 26=5:=by kernel_rfl
theorem zgx:Tryz.prog.cellsOf 102=1:=by kernel_rfl
theorem q5e:Tryz.prog.cellsOf 104=3:=by kernel_rfl
theorem zhb:Tryz.prog.cellsOf 106=10:=by kernel_rfl
theorem qdp {n:Nat} {vs:List V} (h:qbr Tryz.prog n 3 vs):∃ m,vs=[num m]:=by
 cases n with
 | zero=>unfold qbr at h; exact absurd h (by simp)
 | succ n =>
  unfold qbr at h
  rw [Tryz.underlying3] at h
  obtain ⟨m,rfl,hw⟩:=h
  exact ⟨m,rfl⟩
theorem qup {n:Nat} {vs:List V} (h:qbr Tryz.prog n 4 vs):∃ b,vs=[.bool b]:=by
 cases n with
 | zero=>unfold qbr at h; exact absurd h (by simp)
 | succ n =>
  unfold qbr at h
  rw [Tryz.underlying4] at h
  exact h
theorem q1s {n:Nat} {vs:List V} (h:qbr Tryz.prog n 9 vs):∃ s,vs=[.str s]∧s.length≤maxLen:=by
 cases n with
 | zero=>unfold qbr at h; exact absurd h (by simp)
 | succ n =>
  unfold qbr at h
  rw [Tryz.underlying9] at h
  exact h
theorem qon {n e:Nat} {α:Type} {row:α→List V} (hr:∀ vs,qbr Tryz.prog n e vs→∃ x,vs=row x):∀ {els:List (List V)},(∀ r ∈ els,qbr Tryz.prog n e r)→∃ l:List α,els=l.map row
 | [],_=>⟨[],rfl⟩
 | r :: els,h=>by
  obtain ⟨x,hx⟩:=hr r (h r (by simp))
  obtain ⟨l,hl⟩:=qon hr (els:=els) fun q hq=>h q (by simp [hq])
  exact ⟨x :: l,by rw [hx,hl]; rfl⟩
theorem qfn {n t e:Nat} {α:Type} {row:α→List V} (hu:Tryz.prog.underlying t=some (.slice e)) (hr:∀ n vs,qbr Tryz.prog n e vs→∃ x,vs=row x) {vs:List V} (h:qbr Tryz.prog n t vs):∃ l:List α,vs=[.imm (l.map row)]:=by
 cases n with
 | zero=>unfold qbr at h; exact absurd h (by simp)
 | succ n =>
  unfold qbr at h
  rw [hu] at h
  obtain ⟨els,he,_,hel⟩:=h
  obtain ⟨l,rfl⟩:=qon (n:=n) (e:=e) (row:=row) (fun vs h=>hr n vs h) fun r hr=>(hel r hr).2
  exact ⟨l,he⟩
theorem qxv:∀ {n:Nat} {vs:List V},qbr Tryz.prog n 104 vs→∃ x:Ex,vs=x.cells
 | 0,vs,h=>by unfold qbr at h; exact absurd h (by simp)
 | 1,vs,h=>by
  unfold qbr at h
  rw [Tryz.underlying104] at h
  obtain ⟨hl,hf⟩:=h
  have h1:=hf _ (by simp; exact .inl rfl)
  unfold qbr at h1
  exact absurd h1 (by simp)
 | n + 2,vs,h=>by
  unfold qbr at h
  rw [Tryz.underlying104] at h
  obtain ⟨hl,hf⟩:=h
  rw [q5e] at hl
  match vs,hl with
  | [a,b,d],_ =>
   have h1:=hf _ (by simp; exact .inl rfl)
   have h2:=hf _ (by simp; exact .inr (.inl rfl))
   have h3:=hf _ (by simp; exact .inr (.inr rfl))
   simp [q1a,zgx] at h1 h2 h3
   obtain ⟨o,h1⟩:=qdp h1
   obtain ⟨i,h2⟩:=qdp h2
   unfold qbr at h3
   rw [Tryz.underlying102] at h3
   obtain ⟨els,he,_,hel⟩:=h3
   obtain ⟨l,rfl⟩:=qon (n:=n) (e:=104) (row:=Ex.row) (fun vs h=>by obtain ⟨x,hx⟩:=qxv h; exact ⟨x,by rw [hx,ziv]⟩) fun r hr=>(hel r hr).2
   refine ⟨.mk o i l,?_⟩
   simp at h1 h2 he
   rw [h1,h2,he]
   rfl
theorem zih {n:Nat} {vs:List V} (h:qbr Tryz.prog n 106 vs):∃ x:Sg,vs=x.row:=by
 cases n with
 | zero=>unfold qbr at h; exact absurd h (by simp)
 | succ n =>
  unfold qbr at h
  rw [Tryz.underlying106] at h
  obtain ⟨hl,hf⟩:=h
  rw [zhb] at hl
  match vs,hl with
  | [a0,a1,a2,a3,a4,a5,a6,a7,a8,a9],_ =>
   have h0:=hf _ (by simp; exact .inl rfl)
   have h1:=hf _ (by simp; exact .inr (.inl rfl))
   have h2:=hf _ (by simp; exact .inr (.inr (.inl rfl)))
   have h3:=hf _ (by simp; exact .inr (.inr (.inr (.inl rfl))))
   have h4:=hf _ (by simp; exact .inr (.inr (.inr (.inr (.inl rfl)))))
   have h5:=hf _ (by simp; exact .inr (.inr (.inr (.inr (.inr rfl)))))
   simp [q1a,zkb,zur,q5e] at h0 h1 h2 h3 h4 h5
   obtain ⟨s,h0,_⟩:=q1s h0
   obtain ⟨k,h1⟩:=qdp h1
   obtain ⟨x,h2⟩:=qxv h2
   obtain ⟨y,h3⟩:=qxv h3
   obtain ⟨d,h4⟩:=qdp h4
   obtain ⟨b,h5⟩:=qup h5
   simp at h0 h1 h2 h3 h4 h5
   refine ⟨⟨s,k,x,y,d,b⟩,?_⟩
   simp [h0,h1,h2,h3,h4,h5]
theorem zgu {n:Nat} {vs:List V} (h:qbr Tryz.prog n 26 vs):∃ c:Ct,vs=c.cells:=by
 cases n with
 | zero=>unfold qbr at h; exact absurd h (by simp)
 | succ n =>
  unfold qbr at h
  rw [Tryz.underlying26] at h
  obtain ⟨hl,hf⟩:=h
  rw [zbf] at hl
  match vs,hl with
  | [a0,a1,a2,a3,a4],_ =>
   have h0:=hf _ (by simp; exact .inl rfl)
   have h1:=hf _ (by simp; exact .inr (.inl rfl))
   have h2:=hf _ (by simp; exact .inr (.inr (.inl rfl)))
   have h3:=hf _ (by simp; exact .inr (.inr (.inr (.inl rfl))))
   have h4:=hf _ (by simp; exact .inr (.inr (.inr (.inr rfl))))
   simp [q1a,zkl,zpd,zoy] at h0 h1 h2 h3 h4
   obtain ⟨a,h0⟩:=qdp h0
   obtain ⟨i,h1⟩:=qfn (row:=q6l) Tryz.underlying22 (fun n vs h=>by obtain ⟨s,h,_⟩:=q1s h; exact ⟨s,h⟩) h1
   obtain ⟨g,h2⟩:=qfn (row:=Sg.row) Tryz.underlying23 (fun n vs h=>zih h) h2
   obtain ⟨p,h3⟩:=qfn (row:=qee) Tryz.underlying24 (fun n vs h=>qdp h) h3
   obtain ⟨q,h4⟩:=qfn (row:=qee) Tryz.underlying24 (fun n vs h=>qdp h) h4
   simp at h0 h1 h2 h3 h4
   refine ⟨⟨a,i,g,p,q⟩,?_⟩
   simp [h0,h1,h2,h3,h4]
theorem zcu:Tryz.prog.cellsOf 27=1:=by kernel_rfl
theorem zoz:Tryz.prog.cellsOf 29=6:=by kernel_rfl
theorem zlv:Tryz.prog.cellsOf 71=2:=by kernel_rfl
theorem zrl:Tryz.prog.cellsOf 74=1:=by kernel_rfl
theorem zow:Tryz.prog.cellsOf 75=2:=by kernel_rfl
theorem zfp:Tryz.prog.cellsOf 108=3:=by kernel_rfl
theorem zog:Tryz.prog.bytesOf 71=16:=by kernel_rfl
theorem zia:Tryz.prog.bytesOf 108=24:=by kernel_rfl
theorem q0y:zdb Tryz.prog [29,26,27,71,30,108,22,23,24,106,104,102,9,3,4]=true:=by kernel_rfl
theorem ztz:qcw Tryz.prog 29=true:=by kernel_rfl
theorem q9u {n:Nat} {vs:List V} (h:qbr Tryz.prog n 108 vs):∃ x:Prs,vs=x.row:=by
 cases n with
 | zero=>unfold qbr at h; exact absurd h (by simp)
 | succ n =>
  unfold qbr at h
  rw [Tryz.underlying108] at h
  obtain ⟨hl,hf⟩:=h
  rw [zfp] at hl
  match vs,hl with
  | [a,b,d],_ =>
   have h1:=hf _ (by simp; exact .inl rfl)
   have h2:=hf _ (by simp; exact .inr (.inl rfl))
   have h3:=hf _ (by simp; exact .inr (.inr rfl))
   simp [q1a,zkb] at h1 h2 h3
   obtain ⟨k,h1⟩:=qdp h1
   obtain ⟨i,h2⟩:=qdp h2
   obtain ⟨v,h3⟩:=qup h3
   simp at h1 h2 h3
   exact ⟨⟨k,i,v⟩,by simp [h1,h2,h3]⟩
theorem q8n {n:Nat} {vs:List V} (h:qbr Tryz.prog n 71 vs):∃ x:Int × Int,vs=zwm x:=by
 cases n with
 | zero=>unfold qbr at h; exact absurd h (by simp)
 | succ n =>
  unfold qbr at h
  rw [Tryz.underlying71] at h
  obtain ⟨hl,hf⟩:=h
  rw [zlv] at hl
  match vs,hl with
  | [a,b],_ =>
   have h1:=hf _ (by simp; exact .inl rfl)
   have h2:=hf _ (by simp; exact .inr rfl)
   simp [q1a] at h1 h2
   obtain ⟨k,h1⟩:=qdp h1
   obtain ⟨i,h2⟩:=qdp h2
   simp at h1 h2
   exact ⟨(k,i),by simp [h1,h2]⟩
theorem q0v {n:Nat} {vs:List V} (h:qbr Tryz.prog n 29 vs):∃ m:Mch,vs=m.cells:=by
 cases n with
 | zero=>unfold qbr at h; exact absurd h (by simp)
 | succ n =>
  unfold qbr at h
  rw [Tryz.underlying29] at h
  obtain ⟨hl,hf⟩:=h
  rw [zoz] at hl
  match vs,hl with
  | [a0,a1,a2,a3,a4,a5],_ =>
   have h1:=hf _ (by simp; exact .inl rfl)
   have h2:=hf _ (by simp; exact .inr rfl)
   simp [zbf,zcu] at h1 h2
   obtain ⟨c,h1⟩:=zgu h1
   obtain ⟨ts,h2⟩:=qfn (row:=zwm) Tryz.underlying27 (fun n vs h=>q8n h) h2
   simp at h1 h2
   exact ⟨⟨c,ts⟩,by simp [h1,h2]⟩
theorem quz {n:Nat} {vs:List V} (h:qbr Tryz.prog n 30 vs):∃ l:List Prs,vs=[prs l]:=qfn (row:=Prs.row) Tryz.underlying30 (fun n vs h=>q9u h) h
section
variable {H:Type} {enc:TypeId × Value→H} {P:Program} {W:World} {base b0:Nat} {spare:Nat→Bool} {held:Bool}
theorem qrj {ts:List TypeId} {ds:List (DataW H)} (h:(DataW.weightsEach P ts ds).all (·≤reachBytes)=true) {j:Nat} {t:TypeId} {d:DataW H} (ht:ts[j]?=some t) (hd:ds[j]?=some d):(d.weights P t).all (·≤reachBytes)=true:=by
 rw [List.all_eq_true] at h ⊢
 exact fun n hn=>h n (DataW.weights_mem_each ht hd n hn)
theorem q0a {t e:TypeId} {fuel:Nat} {v:Value} {x:DataW H × List MemPlace} {els:List (List V)} {E:Env} (ht:P.underlying t=some (.slice e)) (h:DataW.trod enc P W base spare held fuel t [v]=some x) (hr:rel E (.imm els) v)
  (hz:(x.1.weights P t).all (·≤reachBytes)=true):els.length * P.bytesOf e≤reachBytes:=by
 unfold rel at hr
 obtain ⟨a,cap,rfl,-⟩:=hr
 rcases Go.Deep.open_slice ht h with ⟨hcs,rfl⟩ | ⟨a',len,cap',m,n,D,Pl,hcs,-,-,-,-,rfl,-⟩
 ·simp only [List.cons.injEq,Value.slice.injEq,and_true] at hcs
  rw [hcs.2.1,Nat.zero_mul]
  exact Nat.zero_le _
 ·simp only [List.cons.injEq,Value.slice.injEq,and_true] at hcs
  have:=List.all_eq_true.1 hz ((len + (m - len)) * P.bytesOf e) (by simp [DataW.weights,ht])
  simp only [decide_eq_true_eq] at this
  exact Nat.le_trans (Nat.mul_le_mul_right _ (by omega)) this
theorem q6j {v:Value} {d:DataW H} {ps:List MemPlace} {l:List Prs} {E:Env} (h:DataW.Trod enc Tryz.prog W base spare held 30 v d ps) (hv:∃ a n c,v=.slice a n c) (hr:rel E (prs l) v) (hz:(d.weights Tryz.prog 30).all (·≤reachBytes)=true):l.length * 24≤140737488355328:=by
 obtain ⟨fuel,hf⟩:=h
 have hc:v.cells.toList=[v]:=by
  obtain ⟨a,n,c,rfl⟩:=hv
  rfl
 rw [hc] at hf
 have:=q0a Tryz.underlying30 hf hr hz
 rw [zia,List.length_map] at this
 have hlt:=reachBytes_lt
 omega
theorem q9k {v:Value} {d:DataW H} {ps:List MemPlace} {m:Mch} {E:Env} (h:DataW.Trod enc Tryz.prog W base spare held 29 v d ps) (hr:rel E m.v v) (hz:(d.weights Tryz.prog 29).all (·≤reachBytes)=true):m.ts.length * 16≤140737488355328:=by
 obtain ⟨fuel,hf⟩:=h
 unfold rel at hr
 obtain ⟨us,rfl,hr⟩:=hr
 obtain ⟨y0,y1,n,hd,hl,h1,h2⟩:=Go.ChangeShapes.trod_struct2 Tryz.underlying29 hf
 have hu:(Value.agg us).cells.toList=us.toList:=rfl
 rw [hu] at h2
 unfold qaf at hr; obtain ⟨u0,r0,e0,-,hr⟩:=hr
 unfold qaf at hr; obtain ⟨u1,r1,rfl,-,hr⟩:=hr
 unfold qaf at hr; obtain ⟨u2,r2,rfl,-,hr⟩:=hr
 unfold qaf at hr; obtain ⟨u3,r3,rfl,-,hr⟩:=hr
 unfold qaf at hr; obtain ⟨u4,r4,rfl,-,hr⟩:=hr
 unfold qaf at hr; obtain ⟨u5,r5,rfl,g,hr⟩:=hr
 rw [e0,zcu] at h2
 simp only [List.drop_succ_cons,List.drop_zero,List.take_succ_cons,List.take_zero] at h2
 cases hd
 have hz1:(y1.1.weights Tryz.prog 27).all (·≤reachBytes)=true:=by
  rw [List.all_eq_true] at hz ⊢
  intro k hk
  refine hz k ?_
  unfold DataW.weights
  rw [Tryz.underlying29]
  simp [DataW.weightsEach,hk]
 have:=q0a Tryz.underlying27 h2 g hz1
 rw [zog,List.length_map] at this
 have hlt:=reachBytes_lt
 omega
theorem q9b {t e:TypeId} {k:IntKind} {reach:Go.Reach} {v:Value} {d:DataW H} {ps:List MemPlace} (ht:P.underlying t=some (.array 2 e)) (he:P.underlying e=some (.int k)) (hce:P.cellsOf e=1) (hct:P.cellsOf t=2)
  (hv:Value.okWide P W reach b0 t v) (h:DataW.Trod enc P W base spare held t v d ps):∃ a b,v=.agg #[.int k a,.int k b]∧(Lit.int k a).wf=true∧(Lit.int k b).wf=true:=by
 obtain ⟨cs,rfl⟩:∃ cs,v=.agg cs:=by
  simp only [Value.okWide,ht] at hv
  obtain ⟨cs,h1,-⟩:=hv
  exact ⟨cs,h1⟩
 obtain ⟨fuel,hf⟩:=h
 have hu:(Value.agg cs).cells.toList=cs.toList:=rfl
 rw [hu] at hf
 cases fuel with
 | zero=>simp [DataW.trod] at hf
 | succ fuel =>
  unfold DataW.trod at hf
  rw [ht] at hf
  simp only at hf
  split at hf
  ·rename_i hl
   rw [hct] at hl
   obtain ⟨l⟩:=cs
   simp only at hf hl
   match l,hl with
   | [x,y],_ =>
    rw [hce] at hf
    simp only [List.range_succ,List.range_zero,List.nil_append,List.cons_append,List.mapM_cons,List.mapM_nil] at hf
    simp only [Nat.zero_mul,Nat.one_mul,List.drop_zero,List.drop_succ_cons,List.take_succ_cons,List.take_zero] at hf
    cases h0:DataW.trod enc P W base spare held fuel e [x] with
    | none=>rw [h0] at hf; cases hf
    | some p =>
     cases h1:DataW.trod enc P W base spare held fuel e [y] with
     | none=>rw [h0,h1] at hf; cases hf
     | some q =>
      obtain ⟨a,g0,-,w0⟩:=DataW.trod_int he h0
      obtain ⟨b,g1,-,w1⟩:=DataW.trod_int he h1
      cases g0
      cases g1
      exact ⟨a,b,rfl,w0,w1⟩
  ·cases hf
end
theorem zfw {H:Type} {enc:TypeId × Value→H} {W:World} {base b0:Nat} {spare:Nat→Bool} {held:Bool} {reach:Go.Reach} {v:Value} {d:DataW H} {ps:List MemPlace} (hv:Value.okWide Tryz.prog W reach b0 75 v) (h:DataW.Trod enc Tryz.prog W base spare held 75 v d ps) :
  ∃ a b:Int,v=.agg #[.int .u16 a,.int .u16 b]∧(0≤a∧a≤65535)∧(0≤b∧b≤65535):=by
 obtain ⟨a,b,rfl,h1,h2⟩:=q9b Tryz.underlying75 Tryz.underlying74 zrl zow hv h
 refine ⟨a,b,rfl,?_,?_⟩
 ·simpa [Lit.wf,IntKind.bits,IntKind.signed,IntKind.wrap,IntKind.min,IntKind.max] using h1
 ·simpa [Lit.wf,IntKind.bits,IntKind.signed,IntKind.wrap,IntKind.min,IntKind.max] using h2
theorem zkn {E:Env} (a b:Int):rel E (.agg [.int .u16 a,.int .u16 b]) (.agg #[.int .u16 a,.int .u16 b]):=by
 unfold rel
 refine ⟨_,rfl,?_⟩
 unfold qaf
 refine ⟨_,_,rfl,by unfold rel; rfl,?_⟩
 unfold qaf
 exact ⟨_,_,rfl,by unfold rel; rfl,by unfold qaf; rfl⟩
end Go.Proofs.YtlhciedghbmjjaaGreat
