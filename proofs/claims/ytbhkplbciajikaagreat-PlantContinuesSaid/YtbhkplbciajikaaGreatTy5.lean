/- What comes in is a pure value of its type: types that may be parts of themselves. What the arguments of the laws of plant are: controls. What the arguments of the laws of plant are: states. A plant's check, by the program and by the reference. What the arguments of the laws of plant are: events, plants, small numbers. -/
import Derived.Test.YtbhkplbciajikaaGreatEn5
import Derived.Test.YtbhkplbciajikaaGreatCt2
import Derived.Test.YtbhkplbciajikaaGreatSa1
import Derived.Test.YtbhkplbciajikaaGreatLw1
import Derived.KernelRfl
import Derived.Test.YtbhkplbciajikaaGreatSt2
set_option linter.all false
namespace Go.Am
open Go (World Value Addr Obj Program TypeId TypeDesc DataW MemPlace maxLen Lit)
def plainS (P:Program) (S:List TypeId):Bool:=S.all fun t=>match P.underlying t with
 | some .bool | some (.int _) | some .string=>P.cellsOf t == 1
 | some (.slice e)=>P.cellsOf t == 1 && P.cellsOf e != 0 && S.contains e
 | some (.struct fs)=>tilesL P fs.toList 0 == some (P.cellsOf t) && fs.toList.all fun f=>S.contains f.type
 | _=>false
theorem read_okS {H:Type} {enc:TypeId × Value→H} {P:Program} {w:World} {base:Nat} {spare:Nat→Bool} {held:Bool} {S:List TypeId} (hS:plainS P S=true):∀ (n:Nat) (t:TypeId) (cs:List Value) (x:DataW H × List MemPlace),t ∈ S→DataW.trod enc P w base spare held n t cs=some x →
  ∃ vs,relL (oldE w) vs cs∧vs.all V.pcell=true∧Typed P n t vs∧cs.length=P.cellsOf t
 | 0,t,cs,x,_,h=>by simp [DataW.trod] at h
 | n + 1,t,cs,x,hm,h=>by
  have hp:=List.all_eq_true.1 hS t hm
  split at hp
  ·rename_i ht
   have hc:P.cellsOf t=1:=by simpa using hp
   unfold DataW.trod at h
   rw [ht] at h
   obtain ⟨b,rfl⟩:∃ b,cs=[.bool b]:=by
    rcases cs with _ | ⟨c,_ | ⟨c',cs⟩⟩
    ·simp at h
    ·cases c <;> simp at h
     exact ⟨_,rfl⟩
    ·cases c <;> simp at h
   refine ⟨[.bool b],?_,rfl,?_,by simp [hc]⟩
   ·unfold relL; exact ⟨_,_,rfl,by unfold rel; rfl,by unfold relL; rfl⟩
   ·unfold Typed; rw [ht]; exact ⟨b,rfl⟩
  ·rename_i k ht
   have hc:P.cellsOf t=1:=by simpa using hp
   unfold DataW.trod at h
   rw [ht] at h
   obtain ⟨m,rfl,hwf⟩:∃ m,cs=[.int k m]∧(Lit.int k m).wf=true:=by
    rcases cs with _ | ⟨c,_ | ⟨c',cs⟩⟩
    ·simp at h
    ·cases c <;> simp at h
     rename_i k' m
     obtain ⟨⟨rfl,h2⟩,_⟩:=h
     exact ⟨m,rfl,h2⟩
    ·cases c <;> simp at h
   refine ⟨[.int k m],?_,rfl,?_,by simp [hc]⟩
   ·unfold relL; exact ⟨_,_,rfl,by unfold rel; rfl,by unfold relL; rfl⟩
   ·unfold Typed; rw [ht]; exact ⟨m,rfl,hwf⟩
  ·rename_i ht
   have hc:P.cellsOf t=1:=by simpa using hp
   unfold DataW.trod at h
   rw [ht] at h
   obtain ⟨b,rfl,hb⟩:∃ b:ByteArray,cs=[.string b]∧b.size≤maxLen:=by
    rcases cs with _ | ⟨c,_ | ⟨c',cs⟩⟩
    ·simp at h
    ·cases c <;> simp at h
     exact ⟨_,rfl,h.1⟩
    ·cases c <;> simp at h
   refine ⟨[.str b.data.toList],?_,rfl,?_,by simp [hc]⟩
   ·unfold relL; exact ⟨_,_,rfl,by unfold rel; simp,by unfold relL; rfl⟩
   ·unfold Typed; rw [ht]; exact ⟨_,rfl,by rw [Array.length_toList]; exact hb⟩
  ·rename_i e ht
   simp only [Bool.and_eq_true,beq_iff_eq,bne_iff_ne] at hp
   obtain ⟨⟨hc,hce⟩,hpe⟩:=hp
   rcases DataW.trod_slice ht h with ⟨rfl,_⟩ | ⟨a,len,cap,elems,rest,n',hn',rfl,_,_,hlc,hcm,hlen',hel,_,_⟩
   ·refine ⟨[.imm []],?_,rfl,?_,by simp [hc]⟩
    ·unfold relL
     refine ⟨_,_,rfl,?_,by unfold relL; rfl⟩
     unfold rel
     exact ⟨none,0,rfl,Nat.le_refl _,rfl,.inl rfl⟩
    ·unfold Typed; rw [ht]; exact ⟨[],rfl,Nat.zero_le _,fun r hr=>by cases hr⟩
   ·obtain rfl:n=n':=by omega
    -- the elements
    have each:∀ i,i < len→∃ (vs:List V) (cs':List Value),w.cells? base (a.add (i * P.cellsOf e)) (P.cellsOf e)=some cs'∧relL (oldE w) vs cs'∧vs.all V.pcell=true∧Typed P n e vs∧cs'.length=P.cellsOf e:=by
     intro i hi
     have h1:=hel i hi
     rw [List.getElem?_eq_getElem (by omega),Option.bind_eq_some_iff] at h1
     obtain ⟨cs',g1,g2⟩:=h1
     obtain ⟨vs,k1,k2,k3,k4⟩:=read_okS hS n e cs' _ (List.contains_iff_mem.1 hpe) g2
     exact ⟨vs,cs',g1,k1,k2,k3,k4⟩
    have build:∀ k,k≤len→∃ els:List (List V),els.length=k∧pureR els=true∧(∀ r ∈ els,r.length=P.cellsOf e∧Typed P n e r)∧∀ (i:Nat) r,els[i]?=some r→∃ cs',w.cells? base (a.add (i * P.cellsOf e)) (P.cellsOf e)=some cs'∧relL (oldE w) r cs':=by
     intro k
     induction k with
     | zero=>intro _; exact ⟨[],rfl,rfl,(fun r hr=>by cases hr),(fun i r h=>by simp at h)⟩
     | succ k ih =>
      intro hk
      obtain ⟨els,e1,e2,e3,e4⟩:=ih (by omega)
      obtain ⟨vs,cs',g1,g2,g3,g4,g5⟩:=each k (by omega)
      refine ⟨els++[vs],by simp [e1],pureR_append e2 (by simp [pureR]; simpa using g3),fun r hr=>?_,fun i r hi=>?_⟩
      ·rcases List.mem_append.1 hr with hr | hr
       ·exact e3 r hr
       ·simp at hr; subst hr
        exact ⟨by rw [relL_length g2,g5],g4⟩
      ·by_cases hik:i < k
       ·rw [List.getElem?_append_left (by omega)] at hi
        exact e4 i r hi
       ·rw [List.getElem?_append_right (by omega)] at hi
        have h0:i - els.length=0:=by
         have:=(List.getElem?_eq_some_iff.1 hi).1
         simp at this; omega
        rw [h0] at hi
        simp at hi
        subst hi
        have:i=k:=by omega
        subst this
        exact ⟨cs',g1,g2⟩
    obtain ⟨els,e1,e2,e3,e4⟩:=build len (Nat.le_refl _)
    refine ⟨[.imm els],?_,rfl,?_,by simp [hc]⟩
    ·unfold relL
     refine ⟨_,_,rfl,?_,by unfold relL; rfl⟩
     unfold rel
     refine ⟨some a,cap,by rw [e1],by omega,e2,?_⟩
     by_cases h0:els=[]
     ·exact .inl h0
     ·right
      have hlen:0 < len:=by rw [← e1]; exact List.length_pos_iff.2 h0
      obtain ⟨vs,cs',g1,_⟩:=each 0 hlen
      have hblk:=Go.World.cells?_block g1 (by omega)
      have hspot:a.spot=none:=by
       obtain ⟨q1,q2,q3⟩:=Go.World.cells?_some g1
       have h0':=q3 0 (by omega)
       rw [List.getElem?_eq_getElem (by omega)] at h0'
       have:=Go.World.cell?_spot h0'
       simpa [Go.Addr.add] using this
      obtain ⟨b,o,sp⟩:=a
      simp only at hspot
      subst hspot
      refine ⟨b,o,P.cellsOf e,rfl,by omega,(by simpa [add_none] using hblk:b < w.heap.size),?_⟩
      rw [relRows_iff]
      intro i r hi
      refine ⟨(e3 r (List.mem_of_getElem? hi)).1,?_⟩
      obtain ⟨cs',g1,g2⟩:=e4 i r hi
      refine relAt_of_relL (us:=cs') (fun j u hj=>?_) g2
      obtain ⟨q1,q2,q3⟩:=Go.World.cells?_some g1
      have hjl:=(List.getElem?_eq_some_iff.1 hj).1
      have:=q3 j (by omega)
      rw [add_none,add_none,hj] at this
      exact this
    ·unfold Typed; rw [ht]; exact ⟨els,rfl,by omega,e3⟩
  ·rename_i fs ht
   simp only [Bool.and_eq_true,beq_iff_eq,List.all_eq_true] at hp
   obtain ⟨htl,hall⟩:=hp
   unfold DataW.trod at h
   rw [ht] at h
   have hs:cs.length=P.cellsOf t∧∃ xs,(fs.toList.mapM fun f=>DataW.trod enc P w base spare held n f.type ((cs.drop f.offset).take (P.cellsOf f.type)))=some xs:=by
    simp only at h
    split at h
    ·rename_i hl
     simp only [Option.map_eq_some_iff] at h
     obtain ⟨xs,h1,_⟩:=h
     exact ⟨hl,xs,h1⟩
    ·cases h
   obtain ⟨hl,xs,hxs⟩:=hs
   have hf:∀ f ∈ fs.toList,∃ y,DataW.trod enc P w base spare held n f.type ((cs.drop f.offset).take (P.cellsOf f.type))=some y:=by
    intro f hfm
    obtain ⟨i,hi⟩:=List.mem_iff_getElem?.1 hfm
    have h1:=Go.mapM_some_get hxs i f hi
    have h2:=Go.mapM_some_length hxs
    have h3:=(List.getElem?_eq_some_iff.1 hi).1
    rw [List.getElem?_eq_getElem (by omega)] at h1
    exact ⟨_,h1⟩
   obtain ⟨vs,k1,k2,k3⟩:=parts_rel (E:=oldE w) (n:=n) htl hl fun f hfm=>by
    obtain ⟨y,hy⟩:=hf f hfm
    obtain ⟨vs,q1,q2,q3,_⟩:=read_okS hS n f.type _ y (List.contains_iff_mem.1 (hall f hfm)) hy
    exact ⟨vs,q1,q2,q3⟩
   refine ⟨vs,by simpa using k1,k2,?_,hl⟩
   unfold Typed
   rw [ht]
   refine ⟨?_,fun f hfm=>by simpa using k3 [] rfl f hfm⟩
   have:=relL_length k1
   simpa [hl] using this
  ·cases hp
theorem arg_okS {H:Type} {enc:TypeId × Value→H} {P:Program} {W:World} {base b0:Nat} {spare:Nat→Bool} {held:Bool} {reach:Go.Reach} {t:TypeId} {v:Value} {d:DataW H} {ps:List MemPlace} {S:List TypeId} (hS:plainS P S=true) (hp:t ∈ S)
  (hv:Value.okWide P W reach b0 t v) (h:DataW.Trod enc P W base spare held t v d ps) :
  ∃ n,∃ x:V,rel (oldE W) x v∧((∃ vs,x=.agg vs∧Typed P n t vs)∨(isAggB P t=false∧Typed P n t [x])):=by
 obtain ⟨n,hf⟩:=h
 refine ⟨n,?_⟩
 obtain ⟨vs,k1,k2,k3,k4⟩:=read_okS hS n t v.cells.toList _ hp hf
 have one:isAggB P t=false→v.cells=#[v]→∃ x:V,rel (oldE W) x v∧((∃ vs,x=.agg vs∧Typed P n t vs)∨(isAggB P t=false∧Typed P n t [x])):=by
  intro ha hc
  rw [hc] at k1
  cases vs with
  | nil=>unfold relL at k1; cases k1
  | cons x vs =>
   unfold relL at k1
   obtain ⟨u,us,e,r1,r2⟩:=k1
   cases e
   cases vs with
   | nil=>exact ⟨x,r1,.inr ⟨ha,k3⟩⟩
   | cons y vs=>unfold relL at r2; obtain ⟨_,_,e,_⟩:=r2; cases e
 have hp:=List.all_eq_true.1 hS t hp
 ·split at hp
  ·rename_i ht
   obtain ⟨b,rfl⟩:=Go.WideShapes.okWide_bool ht hv
   exact one (by simp [isAggB,ht]) rfl
  ·rename_i k ht
   obtain ⟨b,rfl⟩:=Go.WideShapes.okWide_int ht hv
   exact one (by simp [isAggB,ht]) rfl
  ·rename_i ht
   obtain ⟨b,rfl⟩:=Go.WideShapes.okWide_string ht hv
   exact one (by simp [isAggB,ht]) rfl
  ·rename_i e ht
   obtain ⟨a,l,c,rfl⟩:=Go.WideShapes.okWide_slice ht hv
   exact one (by simp [isAggB,ht]) rfl
  ·rename_i fs ht
   obtain ⟨cs,rfl,hc⟩:=Go.WideShapes.okWide_struct ht hv
   exact ⟨.agg vs,by unfold rel; exact ⟨cs,rfl,k1⟩,.inl ⟨vs,rfl,k3⟩⟩
  ·cases hp
end Go.Am
namespace Go.Proofs.YtbhkplbciajikaaGreat
open Go Go.Am Go.Proofs
set_option maxRecDepth 100000
theorem cells3:Tryz.prog.cellsOf 3=1:=by kernel_rfl
theorem cells4:Tryz.prog.cellsOf 4=1:=by kernel_rfl
theorem cells9:Tryz.prog.cellsOf 9=1:=by kernel_rfl
theorem cells22:Tryz.prog.cellsOf 22=1:=by kernel_rfl
theorem cells23:Tryz.prog.cellsOf 23=1:=by kernel_rfl
theorem cells24:Tryz.prog.cellsOf 24=1:=by kernel_rfl
theorem cells26:Tryz.prog.cellsOf 26=5:=by kernel_rfl
theorem cells105:Tryz.prog.cellsOf 105=1:=by kernel_rfl
theorem cells107:Tryz.prog.cellsOf 107=3:=by kernel_rfl
theorem cells109:Tryz.prog.cellsOf 109=10:=by kernel_rfl
theorem typed_int {n:Nat} {vs:List V} (h:Typed Tryz.prog n 3 vs):∃ m,vs=[num m]:=by
 cases n with
 | zero=>unfold Typed at h; exact absurd h (by simp)
 | succ n =>
  unfold Typed at h
  rw [Tryz.underlying3] at h
  obtain ⟨m,rfl,hw⟩:=h
  exact ⟨m,rfl⟩
theorem typed_bool {n:Nat} {vs:List V} (h:Typed Tryz.prog n 4 vs):∃ b,vs=[.bool b]:=by
 cases n with
 | zero=>unfold Typed at h; exact absurd h (by simp)
 | succ n =>
  unfold Typed at h
  rw [Tryz.underlying4] at h
  exact h
theorem typed_str {n:Nat} {vs:List V} (h:Typed Tryz.prog n 9 vs):∃ s,vs=[.str s]∧s.length≤maxLen:=by
 cases n with
 | zero=>unfold Typed at h; exact absurd h (by simp)
 | succ n =>
  unfold Typed at h
  rw [Tryz.underlying9] at h
  exact h
theorem typed_rows {n e:Nat} {α:Type} {row:α→List V} (hr:∀ vs,Typed Tryz.prog n e vs→∃ x,vs=row x):∀ {els:List (List V)},(∀ r ∈ els,Typed Tryz.prog n e r)→∃ l:List α,els=l.map row
 | [],_=>⟨[],rfl⟩
 | r :: els,h=>by
  obtain ⟨x,hx⟩:=hr r (h r (by simp))
  obtain ⟨l,hl⟩:=typed_rows hr (els:=els) fun q hq=>h q (by simp [hq])
  exact ⟨x :: l,by rw [hx,hl]; rfl⟩
theorem typed_slice {n t e:Nat} {α:Type} {row:α→List V} (hu:Tryz.prog.underlying t=some (.slice e)) (hr:∀ n vs,Typed Tryz.prog n e vs→∃ x,vs=row x) {vs:List V} (h:Typed Tryz.prog n t vs):∃ l:List α,vs=[.imm (l.map row)]:=by
 cases n with
 | zero=>unfold Typed at h; exact absurd h (by simp)
 | succ n =>
  unfold Typed at h
  rw [hu] at h
  obtain ⟨els,he,_,hel⟩:=h
  obtain ⟨l,rfl⟩:=typed_rows (n:=n) (e:=e) (row:=row) (fun vs h=>hr n vs h) fun r hr=>(hel r hr).2
  exact ⟨l,he⟩
theorem typed_ex:∀ {n:Nat} {vs:List V},Typed Tryz.prog n 107 vs→∃ x:Ex,vs=x.cells
 | 0,vs,h=>by unfold Typed at h; exact absurd h (by simp)
 | 1,vs,h=>by
  unfold Typed at h
  rw [Tryz.underlying107] at h
  obtain ⟨hl,hf⟩:=h
  have h1:=hf _ (by simp; exact .inl rfl)
  unfold Typed at h1
  exact absurd h1 (by simp)
 | n + 2,vs,h=>by
  unfold Typed at h
  rw [Tryz.underlying107] at h
  obtain ⟨hl,hf⟩:=h
  rw [cells107] at hl
  match vs,hl with
  | [a,b,d],_ =>
   have h1:=hf _ (by simp; exact .inl rfl)
   have h2:=hf _ (by simp; exact .inr (.inl rfl))
   have h3:=hf _ (by simp; exact .inr (.inr rfl))
   simp [cells3,cells105] at h1 h2 h3
   obtain ⟨o,h1⟩:=typed_int h1
   obtain ⟨i,h2⟩:=typed_int h2
   unfold Typed at h3
   rw [Tryz.underlying105] at h3
   obtain ⟨els,he,_,hel⟩:=h3
   obtain ⟨l,rfl⟩:=typed_rows (n:=n) (e:=107) (row:=Ex.row) (fun vs h=>by obtain ⟨x,hx⟩:=typed_ex h; exact ⟨x,by rw [hx,row_eq]⟩) fun r hr=>(hel r hr).2
   refine ⟨.mk o i l,?_⟩
   simp at h1 h2 he
   rw [h1,h2,he]
   rfl
theorem typed_sg {n:Nat} {vs:List V} (h:Typed Tryz.prog n 109 vs):∃ x:Sg,vs=x.row:=by
 cases n with
 | zero=>unfold Typed at h; exact absurd h (by simp)
 | succ n =>
  unfold Typed at h
  rw [Tryz.underlying109] at h
  obtain ⟨hl,hf⟩:=h
  rw [cells109] at hl
  match vs,hl with
  | [a0,a1,a2,a3,a4,a5,a6,a7,a8,a9],_ =>
   have h0:=hf _ (by simp; exact .inl rfl)
   have h1:=hf _ (by simp; exact .inr (.inl rfl))
   have h2:=hf _ (by simp; exact .inr (.inr (.inl rfl)))
   have h3:=hf _ (by simp; exact .inr (.inr (.inr (.inl rfl))))
   have h4:=hf _ (by simp; exact .inr (.inr (.inr (.inr (.inl rfl)))))
   have h5:=hf _ (by simp; exact .inr (.inr (.inr (.inr (.inr rfl)))))
   simp [cells3,cells4,cells9,cells107] at h0 h1 h2 h3 h4 h5
   obtain ⟨s,h0,_⟩:=typed_str h0
   obtain ⟨k,h1⟩:=typed_int h1
   obtain ⟨x,h2⟩:=typed_ex h2
   obtain ⟨y,h3⟩:=typed_ex h3
   obtain ⟨d,h4⟩:=typed_int h4
   obtain ⟨b,h5⟩:=typed_bool h5
   simp at h0 h1 h2 h3 h4 h5
   refine ⟨⟨s,k,x,y,d,b⟩,?_⟩
   simp [h0,h1,h2,h3,h4,h5]
theorem typed_ct {n:Nat} {vs:List V} (h:Typed Tryz.prog n 26 vs):∃ c:Ct,vs=c.cells:=by
 cases n with
 | zero=>unfold Typed at h; exact absurd h (by simp)
 | succ n =>
  unfold Typed at h
  rw [Tryz.underlying26] at h
  obtain ⟨hl,hf⟩:=h
  rw [cells26] at hl
  match vs,hl with
  | [a0,a1,a2,a3,a4],_ =>
   have h0:=hf _ (by simp; exact .inl rfl)
   have h1:=hf _ (by simp; exact .inr (.inl rfl))
   have h2:=hf _ (by simp; exact .inr (.inr (.inl rfl)))
   have h3:=hf _ (by simp; exact .inr (.inr (.inr (.inl rfl))))
   have h4:=hf _ (by simp; exact .inr (.inr (.inr (.inr rfl))))
   simp [cells3,cells22,cells23,cells24] at h0 h1 h2 h3 h4
   obtain ⟨a,h0⟩:=typed_int h0
   obtain ⟨i,h1⟩:=typed_slice (row:=srow) Tryz.underlying22 (fun n vs h=>by obtain ⟨s,h,_⟩:=typed_str h; exact ⟨s,h⟩) h1
   obtain ⟨g,h2⟩:=typed_slice (row:=Sg.row) Tryz.underlying23 (fun n vs h=>typed_sg h) h2
   obtain ⟨p,h3⟩:=typed_slice (row:=nrow) Tryz.underlying24 (fun n vs h=>typed_int h) h3
   obtain ⟨q,h4⟩:=typed_slice (row:=nrow) Tryz.underlying24 (fun n vs h=>typed_int h) h4
   simp at h0 h1 h2 h3 h4
   refine ⟨⟨a,i,g,p,q⟩,?_⟩
   simp [h0,h1,h2,h3,h4]
theorem agg26:isAggB Tryz.prog 26=true:=by kernel_rfl
theorem cells27:Tryz.prog.cellsOf 27=1:=by kernel_rfl
theorem cells29:Tryz.prog.cellsOf 29=5:=by kernel_rfl
theorem typed_ste {n:Nat} {vs:List V} (h:Typed Tryz.prog n 29 vs):∃ s:Ste,vs=s.cells:=by
 cases n with
 | zero=>unfold Typed at h; exact absurd h (by simp)
 | succ n =>
  unfold Typed at h
  rw [Tryz.underlying29] at h
  obtain ⟨hl,hf⟩:=h
  rw [cells29] at hl
  match vs,hl with
  | [a0,a1,a2,a3,a4],_ =>
   have h0:=hf _ (by simp; exact .inl rfl)
   have h1:=hf _ (by simp; exact .inr (.inl rfl))
   have h2:=hf _ (by simp; exact .inr (.inr (.inl rfl)))
   have h3:=hf _ (by simp; exact .inr (.inr (.inr (.inl rfl))))
   have h4:=hf _ (by simp; exact .inr (.inr (.inr (.inr rfl))))
   simp [cells24,cells27] at h0 h1 h2 h3 h4
   obtain ⟨e,h0⟩:=typed_slice (row:=nrow) Tryz.underlying24 (fun n vs h=>typed_int h) h0
   obtain ⟨w,h1⟩:=typed_slice (row:=brow) Tryz.underlying27 (fun n vs h=>typed_bool h) h1
   obtain ⟨i,h2⟩:=typed_slice (row:=brow) Tryz.underlying27 (fun n vs h=>typed_bool h) h2
   obtain ⟨v,h3⟩:=typed_slice (row:=brow) Tryz.underlying27 (fun n vs h=>typed_bool h) h3
   obtain ⟨t,h4⟩:=typed_slice (row:=nrow) Tryz.underlying24 (fun n vs h=>typed_int h) h4
   simp at h0 h1 h2 h3 h4
   refine ⟨⟨e,w,i,v,t⟩,?_⟩
   simp [h0,h1,h2,h3,h4]
theorem agg29:isAggB Tryz.prog 29=true:=by kernel_rfl
structure Trv where
 a:Int
 b:Int
 c:Int
 d:Int
abbrev Trv.row (x:Trv):List V:=[num x.a,num x.b,num x.c,num x.d]
abbrev trvs (l:List Trv):V:=.imm (l.map Trv.row)
def timeB (n:Int):Bool:=decide (0≤n) && decide (n≤1000000)
def spanE (a b:Int):Int:=if (timeB a && timeB b)=true then (if b < a then 9 else 0) else 2
def halfE (a b:Int):Int:=if spanE a b=0 then (if a < 1 then 2 else 0) else spanE a b
def Trv.bad (x:Trv):Int:=if halfE x.a x.b=0 then halfE x.c x.d else halfE x.a x.b
def travE:List Trv→Int
 | []=>0
 | x :: l=>if x.bad=0 then travE l else x.bad
def plantE (l:List Trv):Int:=if l.length < 1∨6 < l.length then 2 else travE l
theorem ev116 (n:Int):ev pg (.call (.fn 116 [] []) [num n] [])=some { v:=.bool (timeB n),st:=⟨[],[]⟩ }:=by
 rw [ev_call,pg116]
 unfold timeB
 by_cases h:0≤n <;> simp [ir116,h]
theorem ev117 (n:Int):ev pg (.call (.fn 117 [] []) [num n] [])=some { v:=.bool (timeB n),st:=⟨[],[]⟩ }:=by
 rw [ev_call,pg117]
 unfold timeB
 by_cases h:0≤n <;> simp [ir117,h]
theorem ev76 (a b:Int):ev pg (.call (.fn 76 [] []) [.agg [num a,num b]] [])=some { v:=num (spanE a b),st:=⟨[],[]⟩ }:=by
 have h1:=ev116 a
 have h2:=ev116 b
 rw [ev_call,pg76]
 unfold spanE
 cases ha:timeB a <;> rw [ha] at h1
 ·simp [ir76,h1]
 ·cases hb:timeB b <;> rw [hb] at h2
  ·simp [ir76,h1,h2]
  ·by_cases h:b < a <;> simp [ir76,h1,h2,h]
theorem ev77 (a b:Int):ev pg (.call (.fn 77 [] []) [.agg [num a,num b]] [])=some { v:=num (spanE a b),st:=⟨[],[]⟩ }:=by
 have h1:=ev117 a
 have h2:=ev117 b
 rw [ev_call,pg77]
 unfold spanE
 cases ha:timeB a <;> rw [ha] at h1
 ·simp [ir77,h1]
 ·cases hb:timeB b <;> rw [hb] at h2
  ·simp [ir77,h1,h2]
  ·by_cases h:b < a <;> simp [ir77,h1,h2,h]
inductive Res (x0:X) (T:Tm) (h:H) (Tr:Int→Tm) (e:Int) (r:R):Prop
 | no (he:e=0) (h1:EndsAs x0 T h r)
 | yes (he:e ≠ 0) (h':H) (h1:EndsAs .ret (Tr e) h' r)
abbrev pbox (l:List Trv):H:=[⟨0,.box [trvs l]⟩]
def T40i (l:List Trv) (k:Nat) (x:Trv) (i:Nat):Tm:=[none,some (.bptr 0 0),some (num 0)]++List.replicate 16 none++[some (trvs l),some (num l.length),some (num k)]++List.replicate 7 none++[some (.agg x.row),some (num i)]++List.replicate 12 none
def T40r (e:Int):Tm:=[none,none,some (num e)]++List.replicate 40 none
abbrev h40 (l:List Trv) (x:Trv):H:=[⟨0,.box [trvs l]⟩,⟨0,.box x.row⟩]
theorem lp40i (l:List Trv) (k:Nat) (x:Trv) {st:St} (h0:At (T40i l k x 0) (h40 l x) st):∃ r,ev pg (.code (.going 2 L40_0) st)=some r∧Res (.exit 2) (T40i l k x 2) (h40 l x) T40r x.bad r:=by
 refine loop_at (α:=Unit) 2 (fun i _=>T40i l k x i) (fun _ _=>h40 l x) (fun i _=>(i=1→halfE x.a x.b=0)∧(i=2→x.bad=0)) _ ?_ ?_ () ⟨by simp,by simp⟩ h0
 ·rintro i - f hf hi ⟨hG,-⟩
  have w1:IntKind.i64.wrap 1=1:=by decide
  have w2:IntKind.i64.wrap 2=2:=by decide
  have hi2:i=0∨i=1:=by omega
  rcases hi2 with rfl | rfl
  ·have e76:=ev76 x.a x.b
   have hh:halfE x.a x.b=if spanE x.a x.b=0 then (if x.a < 1 then 2 else 0) else spanE x.a x.b:=rfl
   unfold Trv.bad
   generalize spanE x.a x.b=e at *
   generalize halfE x.a x.b=g at *
   generalize halfE x.c x.d=m at *
   by_cases he:e=0
   ·rw [if_pos he] at hh
    subst he
    by_cases h1:x.a < 1
    ·rw [if_pos h1] at hh
     subst hh
     simp [T40i,L40_0,e76,h1,hf.ne]
     exact .yes (by omega) _ (by simp [T40r,hf.ne]; rfl)
    ·rw [if_neg h1] at hh
     subst hh
     simp [T40i,L40_0,e76,h1,w1,hf.ne]
   ·rw [if_neg he] at hh
    subst hh
    have hb:(g == 0)=false:=by simpa using he
    simp [T40i,L40_0,e76,he,hb,hf.ne]
    exact .yes he _ (by simp [T40r,hf.ne]; rfl)
  ·have e76:=ev76 x.c x.d
   have hh:halfE x.c x.d=if spanE x.c x.d=0 then (if x.c < 1 then 2 else 0) else spanE x.c x.d:=rfl
   have hG:=hG rfl
   unfold Trv.bad
   rw [if_pos hG]
   generalize spanE x.c x.d=e at *
   generalize halfE x.a x.b=g at *
   generalize halfE x.c x.d=m at *
   by_cases he:e=0
   ·rw [if_pos he] at hh
    subst he
    by_cases h1:x.c < 1
    ·rw [if_pos h1] at hh
     subst hh
     simp [T40i,L40_0,e76,h1,hf.ne]
     exact .yes (by omega) _ (by simp [T40r,hf.ne]; rfl)
    ·rw [if_neg h1] at hh
     subst hh
     simp [T40i,L40_0,e76,h1,w2,hf.ne]
   ·rw [if_neg he] at hh
    subst hh
    have hb:(m == 0)=false:=by simpa using he
    simp [T40i,L40_0,e76,he,hb,hf.ne]
    exact .yes he _ (by simp [T40r,hf.ne]; rfl)
 ·rintro - f hf ⟨-,hG⟩
  have hG:=hG rfl
  simp [T40i,L40_0,hf.ne]
  exact .no hG (by simp [T40i,hf.ne])
theorem cells44:Tryz.prog.cellsOf 44=3:=by kernel_rfl
theorem cells76:Tryz.prog.cellsOf 76=1:=by kernel_rfl
theorem cells78:Tryz.prog.cellsOf 78=1:=by kernel_rfl
theorem cells121:Tryz.prog.cellsOf 121=2:=by kernel_rfl
theorem cells123:Tryz.prog.cellsOf 123=4:=by kernel_rfl
theorem typed_u8 {n:Nat} {vs:List V} (h:Typed Tryz.prog n 5 vs):∃ m:Int,vs=[.int .u8 m]∧0≤m∧m≤255:=by
 cases n with
 | zero=>unfold Typed at h; exact absurd h (by simp)
 | succ n =>
  unfold Typed at h
  rw [Tryz.underlying5] at h
  obtain ⟨m,rfl,hw⟩:=h
  refine ⟨m,rfl,?_⟩
  simpa [Lit.wf,IntKind.bits,IntKind.signed,IntKind.wrap,IntKind.min,IntKind.max] using hw
theorem typed_evn {n:Nat} {vs:List V} (h:Typed Tryz.prog n 44 vs):∃ x:Evn,vs=x.row:=by
 cases n with
 | zero=>unfold Typed at h; exact absurd h (by simp)
 | succ n =>
  unfold Typed at h
  rw [Tryz.underlying44] at h
  obtain ⟨hl,hf⟩:=h
  rw [cells44] at hl
  match vs,hl with
  | [a,b,d],_ =>
   have h1:=hf _ (by simp; exact .inl rfl)
   have h2:=hf _ (by simp; exact .inr (.inl rfl))
   have h3:=hf _ (by simp; exact .inr (.inr rfl))
   simp [cells3,cells4] at h1 h2 h3
   obtain ⟨k,h1⟩:=typed_int h1
   obtain ⟨i,h2⟩:=typed_int h2
   obtain ⟨v,h3⟩:=typed_bool h3
   simp at h1 h2 h3
   exact ⟨⟨k,i,v⟩,by simp [h1,h2,h3]⟩
theorem typed_evs {n:Nat} {vs:List V} (h:Typed Tryz.prog n 37 vs):∃ l:List Evn,vs=[evs l]:=typed_slice (row:=Evn.row) Tryz.underlying37 (fun n vs h=>typed_evn h) h
theorem typed_span {n:Nat} {vs:List V} (h:Typed Tryz.prog n 121 vs):∃ a b:Int,vs=[num a,num b]:=by
 cases n with
 | zero=>unfold Typed at h; exact absurd h (by simp)
 | succ n =>
  unfold Typed at h
  rw [Tryz.underlying121] at h
  obtain ⟨hl,hf⟩:=h
  rw [cells121] at hl
  match vs,hl with
  | [a,b],_ =>
   have h1:=hf _ (by simp; exact .inl rfl)
   have h2:=hf _ (by simp; exact .inr rfl)
   simp [cells3] at h1 h2
   obtain ⟨k,h1⟩:=typed_int h1
   obtain ⟨i,h2⟩:=typed_int h2
   simp at h1 h2
   exact ⟨k,i,by rw [h1,h2]⟩
theorem typed_trv {n:Nat} {vs:List V} (h:Typed Tryz.prog n 123 vs):∃ x:Trv,vs=x.row:=by
 cases n with
 | zero=>unfold Typed at h; exact absurd h (by simp)
 | succ n =>
  unfold Typed at h
  rw [Tryz.underlying123] at h
  obtain ⟨hl,hf⟩:=h
  rw [cells123] at hl
  match vs,hl with
  | [a,b,c,d],_ =>
   have h1:=hf _ (by simp; exact .inl rfl)
   have h2:=hf _ (by simp; exact .inr rfl)
   simp [cells121] at h1 h2
   obtain ⟨k,i,h1⟩:=typed_span h1
   obtain ⟨m,j,h2⟩:=typed_span h2
   simp at h1 h2
   exact ⟨⟨k,i,m,j⟩,by simp [h1,h2]⟩
theorem typed_plant {n:Nat} {vs:List V} (h:Typed Tryz.prog n 78 vs):∃ l:List Trv,vs=[trvs l]:=by
 cases n with
 | zero=>unfold Typed at h; exact absurd h (by simp)
 | succ n =>
  unfold Typed at h
  rw [Tryz.underlying78] at h
  obtain ⟨hl,hf⟩:=h
  rw [cells78] at hl
  match vs,hl with
  | [a],_ =>
   have h1:=hf _ (by simp; rfl)
   simp [cells76] at h1
   exact typed_slice (row:=Trv.row) Tryz.underlying76 (fun n vs h=>typed_trv h) h1
theorem plainP:plainS Tryz.prog [26,29,78,3,4,5,9,22,23,24,27,37,44,76,105,107,109,121,123]=true:=by kernel_rfl
theorem agg78:isAggB Tryz.prog 78=true:=by kernel_rfl
end Go.Proofs.YtbhkplbciajikaaGreat
