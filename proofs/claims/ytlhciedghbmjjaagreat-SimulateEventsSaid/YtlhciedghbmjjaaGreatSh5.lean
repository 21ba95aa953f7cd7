/- What comes in is a pure value of its type: types that may be parts of themselves. What the arguments of the laws of plant are: controls. What the arguments of the laws of plant are: states. What the arguments of the laws of machines in time are: logs. The law SimulateEvents returns true for every input, and leaves what came in as it was. It holds with no further condition. -/
import Derived.Test.YtlhciedghbmjjaaGreatEn5
import Derived.Test.YtlhciedghbmjjaaGreatCt4
import Derived.Test.YtlhciedghbmjjaaGreatSa1
import Derived.Test.YtlhciedghbmjjaaGreatSi13
import Derived.KernelRfl
import Derived.Test.YtlhciedghbmjjaaGreatRows
import Derived.Test.YtlhciedghbmjjaaGreatSi18
import Derived.ProofKit
import Derived.WalkKit
import Derived.OpenShut
import Derived.ShutString
import Derived.ChangeOld
import Derived.Below
set_option linter.all false
namespace Go.Am
open Go (World Value Addr Obj Program TypeId TypeDesc DataW MemPlace maxLen Lit)
def plainS (P:Program) (S:List TypeId):Bool:=S.all fun t=>match P.underlying t with
 | some .bool | some (.int _) | some .string=>P.cellsOf t == 1
 | some (.slice e)=>P.cellsOf t == 1 && P.cellsOf e != 0 && S.contains e
 | some (.struct fs)=>tilesL P fs.toList 0 == some (P.cellsOf t) && fs.toList.all fun f=>S.contains f.type
 | _=>false
theorem read_okS {H:Type} {enc:TypeId × Value→H} {P:Program} {w:World} {base:Nat} {spare:Nat→Bool} {held:Bool} {S:List TypeId} (hS:plainS P S=true):∀ (n:Nat) (t:TypeId) (cs:List Value) (x:DataW H × List MemPlace),t ∈ S→DataW.trod enc P w base spare held n t cs=some x →
  ∃ vs,relL (oldE w) vs cs∧vs.all V.pcell=true∧Typed P n t vs∧cs.length=P.cellsOf t
 | 0,t,cs,x,_,h=>by simp [DataW.trod] at h
 | n + 1,t,cs,x,hm,h=>by
  have hp:=List.all_eq_true.1 hS t hm
  split at hp
  ·rename_i ht
   have hc:P.cellsOf t=1:=by simpa using hp
   unfold DataW.trod at h
   rw [ht] at h
   obtain ⟨b,rfl⟩:∃ b,cs=[.bool b]:=by
    rcases cs with _ | ⟨c,_ | ⟨c',cs⟩⟩
    ·simp at h
    ·cases c <;> simp at h
     exact ⟨_,rfl⟩
    ·cases c <;> simp at h
   refine ⟨[.bool b],?_,rfl,?_,by simp [hc]⟩
   ·unfold relL; exact ⟨_,_,rfl,by unfold rel; rfl,by unfold relL; rfl⟩
   ·unfold Typed; rw [ht]; exact ⟨b,rfl⟩
  ·rename_i k ht
   have hc:P.cellsOf t=1:=by simpa using hp
   unfold DataW.trod at h
   rw [ht] at h
   obtain ⟨m,rfl,hwf⟩:∃ m,cs=[.int k m]∧(Lit.int k m).wf=true:=by
    rcases cs with _ | ⟨c,_ | ⟨c',cs⟩⟩
    ·simp at h
    ·cases c <;> simp at h
     rename_i k' m
     obtain ⟨⟨rfl,h2⟩,_⟩:=h
     exact ⟨m,rfl,h2⟩
    ·cases c <;> simp at h
   refine ⟨[.int k m],?_,rfl,?_,by simp [hc]⟩
   ·unfold relL; exact ⟨_,_,rfl,by unfold rel; rfl,by unfold relL; rfl⟩
   ·unfold Typed; rw [ht]; exact ⟨m,rfl,hwf⟩
  ·rename_i ht
   have hc:P.cellsOf t=1:=by simpa using hp
   unfold DataW.trod at h
   rw [ht] at h
   obtain ⟨b,rfl,hb⟩:∃ b:ByteArray,cs=[.string b]∧b.size≤maxLen:=by
    rcases cs with _ | ⟨c,_ | ⟨c',cs⟩⟩
    ·simp at h
    ·cases c <;> simp at h
     exact ⟨_,rfl,h.1⟩
    ·cases c <;> simp at h
   refine ⟨[.str b.data.toList],?_,rfl,?_,by simp [hc]⟩
   ·unfold relL; exact ⟨_,_,rfl,by unfold rel; simp,by unfold relL; rfl⟩
   ·unfold Typed; rw [ht]; exact ⟨_,rfl,by rw [Array.length_toList]; exact hb⟩
  ·rename_i e ht
   simp only [Bool.and_eq_true,beq_iff_eq,bne_iff_ne] at hp
   obtain ⟨⟨hc,hce⟩,hpe⟩:=hp
   rcases DataW.trod_slice ht h with ⟨rfl,_⟩ | ⟨a,len,cap,elems,rest,n',hn',rfl,_,_,hlc,hcm,hlen',hel,_,_⟩
   ·refine ⟨[.imm []],?_,rfl,?_,by simp [hc]⟩
    ·unfold relL
     refine ⟨_,_,rfl,?_,by unfold relL; rfl⟩
     unfold rel
     exact ⟨none,0,rfl,Nat.le_refl _,rfl,.inl rfl⟩
    ·unfold Typed; rw [ht]; exact ⟨[],rfl,Nat.zero_le _,fun r hr=>by cases hr⟩
   ·obtain rfl:n=n':=by omega
    -- the elements
    have each:∀ i,i < len→∃ (vs:List V) (cs':List Value),w.cells? base (a.add (i * P.cellsOf e)) (P.cellsOf e)=some cs'∧relL (oldE w) vs cs'∧vs.all V.pcell=true∧Typed P n e vs∧cs'.length=P.cellsOf e:=by
     intro i hi
     have h1:=hel i hi
     rw [List.getElem?_eq_getElem (by omega),Option.bind_eq_some_iff] at h1
     obtain ⟨cs',g1,g2⟩:=h1
     obtain ⟨vs,k1,k2,k3,k4⟩:=read_okS hS n e cs' _ (List.contains_iff_mem.1 hpe) g2
     exact ⟨vs,cs',g1,k1,k2,k3,k4⟩
    have build:∀ k,k≤len→∃ els:List (List V),els.length=k∧pureR els=true∧(∀ r ∈ els,r.length=P.cellsOf e∧Typed P n e r)∧∀ (i:Nat) r,els[i]?=some r→∃ cs',w.cells? base (a.add (i * P.cellsOf e)) (P.cellsOf e)=some cs'∧relL (oldE w) r cs':=by
     intro k
     induction k with
     | zero=>intro _; exact ⟨[],rfl,rfl,(fun r hr=>by cases hr),(fun i r h=>by simp at h)⟩
     | succ k ih =>
      intro hk
      obtain ⟨els,e1,e2,e3,e4⟩:=ih (by omega)
      obtain ⟨vs,cs',g1,g2,g3,g4,g5⟩:=each k (by omega)
      refine ⟨els++[vs],by simp [e1],pureR_append e2 (by simp [pureR]; simpa using g3),fun r hr=>?_,fun i r hi=>?_⟩
      ·rcases List.mem_append.1 hr with hr | hr
       ·exact e3 r hr
       ·simp at hr; subst hr
        exact ⟨by rw [relL_length g2,g5],g4⟩
      ·by_cases hik:i < k
       ·rw [List.getElem?_append_left (by omega)] at hi
        exact e4 i r hi
       ·rw [List.getElem?_append_right (by omega)] at hi
        have h0:i - els.length=0:=by
         have:=(List.getElem?_eq_some_iff.1 hi).1
         simp at this; omega
        rw [h0] at hi
        simp at hi
        subst hi
        have:i=k:=by omega
        subst this
        exact ⟨cs',g1,g2⟩
    obtain ⟨els,e1,e2,e3,e4⟩:=build len (Nat.le_refl _)
    refine ⟨[.imm els],?_,rfl,?_,by simp [hc]⟩
    ·unfold relL
     refine ⟨_,_,rfl,?_,by unfold relL; rfl⟩
     unfold rel
     refine ⟨some a,cap,by rw [e1],by omega,e2,?_⟩
     by_cases h0:els=[]
     ·exact .inl h0
     ·right
      have hlen:0 < len:=by rw [← e1]; exact List.length_pos_iff.2 h0
      obtain ⟨vs,cs',g1,_⟩:=each 0 hlen
      have hblk:=Go.World.cells?_block g1 (by omega)
      have hspot:a.spot=none:=by
       obtain ⟨q1,q2,q3⟩:=Go.World.cells?_some g1
       have h0':=q3 0 (by omega)
       rw [List.getElem?_eq_getElem (by omega)] at h0'
       have:=Go.World.cell?_spot h0'
       simpa [Go.Addr.add] using this
      obtain ⟨b,o,sp⟩:=a
      simp only at hspot
      subst hspot
      refine ⟨b,o,P.cellsOf e,rfl,by omega,(by simpa [add_none] using hblk:b < w.heap.size),?_⟩
      rw [relRows_iff]
      intro i r hi
      refine ⟨(e3 r (List.mem_of_getElem? hi)).1,?_⟩
      obtain ⟨cs',g1,g2⟩:=e4 i r hi
      refine relAt_of_relL (us:=cs') (fun j u hj=>?_) g2
      obtain ⟨q1,q2,q3⟩:=Go.World.cells?_some g1
      have hjl:=(List.getElem?_eq_some_iff.1 hj).1
      have:=q3 j (by omega)
      rw [add_none,add_none,hj] at this
      exact this
    ·unfold Typed; rw [ht]; exact ⟨els,rfl,by omega,e3⟩
  ·rename_i fs ht
   simp only [Bool.and_eq_true,beq_iff_eq,List.all_eq_true] at hp
   obtain ⟨htl,hall⟩:=hp
   unfold DataW.trod at h
   rw [ht] at h
   have hs:cs.length=P.cellsOf t∧∃ xs,(fs.toList.mapM fun f=>DataW.trod enc P w base spare held n f.type ((cs.drop f.offset).take (P.cellsOf f.type)))=some xs:=by
    simp only at h
    split at h
    ·rename_i hl
     simp only [Option.map_eq_some_iff] at h
     obtain ⟨xs,h1,_⟩:=h
     exact ⟨hl,xs,h1⟩
    ·cases h
   obtain ⟨hl,xs,hxs⟩:=hs
   have hf:∀ f ∈ fs.toList,∃ y,DataW.trod enc P w base spare held n f.type ((cs.drop f.offset).take (P.cellsOf f.type))=some y:=by
    intro f hfm
    obtain ⟨i,hi⟩:=List.mem_iff_getElem?.1 hfm
    have h1:=Go.mapM_some_get hxs i f hi
    have h2:=Go.mapM_some_length hxs
    have h3:=(List.getElem?_eq_some_iff.1 hi).1
    rw [List.getElem?_eq_getElem (by omega)] at h1
    exact ⟨_,h1⟩
   obtain ⟨vs,k1,k2,k3⟩:=parts_rel (E:=oldE w) (n:=n) htl hl fun f hfm=>by
    obtain ⟨y,hy⟩:=hf f hfm
    obtain ⟨vs,q1,q2,q3,_⟩:=read_okS hS n f.type _ y (List.contains_iff_mem.1 (hall f hfm)) hy
    exact ⟨vs,q1,q2,q3⟩
   refine ⟨vs,by simpa using k1,k2,?_,hl⟩
   unfold Typed
   rw [ht]
   refine ⟨?_,fun f hfm=>by simpa using k3 [] rfl f hfm⟩
   have:=relL_length k1
   simpa [hl] using this
  ·cases hp
theorem arg_okS {H:Type} {enc:TypeId × Value→H} {P:Program} {W:World} {base b0:Nat} {spare:Nat→Bool} {held:Bool} {reach:Go.Reach} {t:TypeId} {v:Value} {d:DataW H} {ps:List MemPlace} {S:List TypeId} (hS:plainS P S=true) (hp:t ∈ S)
  (hv:Value.okWide P W reach b0 t v) (h:DataW.Trod enc P W base spare held t v d ps) :
  ∃ n,∃ x:V,rel (oldE W) x v∧((∃ vs,x=.agg vs∧Typed P n t vs)∨(isAggB P t=false∧Typed P n t [x])):=by
 obtain ⟨n,hf⟩:=h
 refine ⟨n,?_⟩
 obtain ⟨vs,k1,k2,k3,k4⟩:=read_okS hS n t v.cells.toList _ hp hf
 have one:isAggB P t=false→v.cells=#[v]→∃ x:V,rel (oldE W) x v∧((∃ vs,x=.agg vs∧Typed P n t vs)∨(isAggB P t=false∧Typed P n t [x])):=by
  intro ha hc
  rw [hc] at k1
  cases vs with
  | nil=>unfold relL at k1; cases k1
  | cons x vs =>
   unfold relL at k1
   obtain ⟨u,us,e,r1,r2⟩:=k1
   cases e
   cases vs with
   | nil=>exact ⟨x,r1,.inr ⟨ha,k3⟩⟩
   | cons y vs=>unfold relL at r2; obtain ⟨_,_,e,_⟩:=r2; cases e
 have hp:=List.all_eq_true.1 hS t hp
 ·split at hp
  ·rename_i ht
   obtain ⟨b,rfl⟩:=Go.WideShapes.okWide_bool ht hv
   exact one (by simp [isAggB,ht]) rfl
  ·rename_i k ht
   obtain ⟨b,rfl⟩:=Go.WideShapes.okWide_int ht hv
   exact one (by simp [isAggB,ht]) rfl
  ·rename_i ht
   obtain ⟨b,rfl⟩:=Go.WideShapes.okWide_string ht hv
   exact one (by simp [isAggB,ht]) rfl
  ·rename_i e ht
   obtain ⟨a,l,c,rfl⟩:=Go.WideShapes.okWide_slice ht hv
   exact one (by simp [isAggB,ht]) rfl
  ·rename_i fs ht
   obtain ⟨cs,rfl,hc⟩:=Go.WideShapes.okWide_struct ht hv
   exact ⟨.agg vs,by unfold rel; exact ⟨cs,rfl,k1⟩,.inl ⟨vs,rfl,k3⟩⟩
  ·cases hp
end Go.Am
namespace Go.Proofs.YtlhciedghbmjjaaGreat
open Go Go.Am Go.Proofs
set_option maxRecDepth 100000
theorem cells3:Tryz.prog.cellsOf 3=1:=by kernel_rfl
theorem cells4:Tryz.prog.cellsOf 4=1:=by kernel_rfl
theorem cells24:Tryz.prog.cellsOf 24=1:=by kernel_rfl
theorem typed_int {n:Nat} {vs:List V} (h:Typed Tryz.prog n 3 vs):∃ m,vs=[num m]:=by
 cases n with
 | zero=>unfold Typed at h; exact absurd h (by simp)
 | succ n =>
  unfold Typed at h
  rw [Tryz.underlying3] at h
  obtain ⟨m,rfl,hw⟩:=h
  exact ⟨m,rfl⟩
theorem typed_bool {n:Nat} {vs:List V} (h:Typed Tryz.prog n 4 vs):∃ b,vs=[.bool b]:=by
 cases n with
 | zero=>unfold Typed at h; exact absurd h (by simp)
 | succ n =>
  unfold Typed at h
  rw [Tryz.underlying4] at h
  exact h
theorem typed_rows {n e:Nat} {α:Type} {row:α→List V} (hr:∀ vs,Typed Tryz.prog n e vs→∃ x,vs=row x):∀ {els:List (List V)},(∀ r ∈ els,Typed Tryz.prog n e r)→∃ l:List α,els=l.map row
 | [],_=>⟨[],rfl⟩
 | r :: els,h=>by
  obtain ⟨x,hx⟩:=hr r (h r (by simp))
  obtain ⟨l,hl⟩:=typed_rows hr (els:=els) fun q hq=>h q (by simp [hq])
  exact ⟨x :: l,by rw [hx,hl]; rfl⟩
theorem typed_slice {n t e:Nat} {α:Type} {row:α→List V} (hu:Tryz.prog.underlying t=some (.slice e)) (hr:∀ n vs,Typed Tryz.prog n e vs→∃ x,vs=row x) {vs:List V} (h:Typed Tryz.prog n t vs):∃ l:List α,vs=[.imm (l.map row)]:=by
 cases n with
 | zero=>unfold Typed at h; exact absurd h (by simp)
 | succ n =>
  unfold Typed at h
  rw [hu] at h
  obtain ⟨els,he,_,hel⟩:=h
  obtain ⟨l,rfl⟩:=typed_rows (n:=n) (e:=e) (row:=row) (fun vs h=>hr n vs h) fun r hr=>(hel r hr).2
  exact ⟨l,he⟩
theorem cells40:Tryz.prog.cellsOf 40=1:=by kernel_rfl
theorem cells42:Tryz.prog.cellsOf 42=5:=by kernel_rfl
theorem typed_ste {n:Nat} {vs:List V} (h:Typed Tryz.prog n 42 vs):∃ s:Ste,vs=s.cells:=by
 cases n with
 | zero=>unfold Typed at h; exact absurd h (by simp)
 | succ n =>
  unfold Typed at h
  rw [Tryz.underlying42] at h
  obtain ⟨hl,hf⟩:=h
  rw [cells42] at hl
  match vs,hl with
  | [a0,a1,a2,a3,a4],_ =>
   have h0:=hf _ (by simp; exact .inl rfl)
   have h1:=hf _ (by simp; exact .inr (.inl rfl))
   have h2:=hf _ (by simp; exact .inr (.inr (.inl rfl)))
   have h3:=hf _ (by simp; exact .inr (.inr (.inr (.inl rfl))))
   have h4:=hf _ (by simp; exact .inr (.inr (.inr (.inr rfl))))
   simp [cells24,cells40] at h0 h1 h2 h3 h4
   obtain ⟨e,h0⟩:=typed_slice (row:=nrow) Tryz.underlying24 (fun n vs h=>typed_int h) h0
   obtain ⟨w,h1⟩:=typed_slice (row:=brow) Tryz.underlying40 (fun n vs h=>typed_bool h) h1
   obtain ⟨i,h2⟩:=typed_slice (row:=brow) Tryz.underlying40 (fun n vs h=>typed_bool h) h2
   obtain ⟨v,h3⟩:=typed_slice (row:=brow) Tryz.underlying40 (fun n vs h=>typed_bool h) h3
   obtain ⟨t,h4⟩:=typed_slice (row:=nrow) Tryz.underlying24 (fun n vs h=>typed_int h) h4
   simp at h0 h1 h2 h3 h4
   refine ⟨⟨e,w,i,v,t⟩,?_⟩
   simp [h0,h1,h2,h3,h4]
theorem cells39:Tryz.prog.cellsOf 39=1:=by kernel_rfl
theorem cells44:Tryz.prog.cellsOf 44=7:=by kernel_rfl
theorem cells67:Tryz.prog.cellsOf 67=2:=by kernel_rfl
theorem cells78:Tryz.prog.cellsOf 78=3:=by kernel_rfl
theorem cells79:Tryz.prog.cellsOf 79=1:=by kernel_rfl
theorem cells81:Tryz.prog.cellsOf 81=5:=by kernel_rfl
theorem typed_evn {n:Nat} {vs:List V} (h:Typed Tryz.prog n 78 vs):∃ x:Evn,vs=x.row:=by
 cases n with
 | zero=>unfold Typed at h; exact absurd h (by simp)
 | succ n =>
  unfold Typed at h
  rw [Tryz.underlying78] at h
  obtain ⟨hl,hf⟩:=h
  rw [cells78] at hl
  match vs,hl with
  | [a,b,d],_ =>
   have h1:=hf _ (by simp; exact .inl rfl)
   have h2:=hf _ (by simp; exact .inr (.inl rfl))
   have h3:=hf _ (by simp; exact .inr (.inr rfl))
   simp [cells3,cells4] at h1 h2 h3
   obtain ⟨k,h1⟩:=typed_int h1
   obtain ⟨i,h2⟩:=typed_int h2
   obtain ⟨v,h3⟩:=typed_bool h3
   simp at h1 h2 h3
   exact ⟨⟨k,i,v⟩,by simp [h1,h2,h3]⟩
theorem typed_stro {n:Nat} {vs:List V} (h:Typed Tryz.prog n 67 vs):∃ x:Int × Bool,vs=strow x:=by
 cases n with
 | zero=>unfold Typed at h; exact absurd h (by simp)
 | succ n =>
  unfold Typed at h
  rw [Tryz.underlying67] at h
  obtain ⟨hl,hf⟩:=h
  rw [cells67] at hl
  match vs,hl with
  | [a,b],_ =>
   have h1:=hf _ (by simp; exact .inl rfl)
   have h2:=hf _ (by simp; exact .inr rfl)
   simp [cells3,cells4] at h1 h2
   obtain ⟨k,h1⟩:=typed_int h1
   obtain ⟨v,h2⟩:=typed_bool h2
   simp at h1 h2
   exact ⟨(k,v),by simp [h1,h2]⟩
theorem typed_ent {n:Nat} {vs:List V} (h:Typed Tryz.prog n 81 vs):∃ x:Ent,vs=x.row:=by
 cases n with
 | zero=>unfold Typed at h; exact absurd h (by simp)
 | succ n =>
  unfold Typed at h
  rw [Tryz.underlying81] at h
  obtain ⟨hl,hf⟩:=h
  rw [cells81] at hl
  match vs,hl with
  | [a,b,d,e,g],_ =>
   have h1:=hf _ (by simp; exact .inl rfl)
   have h2:=hf _ (by simp; exact .inr (.inl rfl))
   have h3:=hf _ (by simp; exact .inr (.inr rfl))
   simp [cells3,cells78,cells79] at h1 h2 h3
   obtain ⟨t,h1⟩:=typed_int h1
   obtain ⟨x,h2⟩:=typed_evn h2
   obtain ⟨l,h3⟩:=typed_slice (row:=strow) Tryz.underlying79 (fun n vs h=>typed_stro h) h3
   simp at h1 h2 h3
   exact ⟨⟨t,x,l⟩,by simp [h1,h2,h3]⟩
theorem typed_log {n:Nat} {vs:List V} (h:Typed Tryz.prog n 44 vs):∃ x:Lg,vs=x.cells:=by
 cases n with
 | zero=>unfold Typed at h; exact absurd h (by simp)
 | succ n =>
  unfold Typed at h
  rw [Tryz.underlying44] at h
  obtain ⟨hl,hf⟩:=h
  rw [cells44] at hl
  match vs,hl with
  | [a,b,c2,c3,c4,c5,c6],_ =>
   have h1:=hf _ (by simp; exact .inl rfl)
   have h2:=hf _ (by simp; exact .inr (.inl rfl))
   have h3:=hf _ (by simp; exact .inr (.inr rfl))
   simp [cells39,cells24,cells42] at h1 h2 h3
   obtain ⟨en,h1⟩:=typed_slice (row:=Ent.row) Tryz.underlying39 (fun n vs h=>typed_ent h) h1
   obtain ⟨cf,h2⟩:=typed_slice (row:=nrow) Tryz.underlying24 (fun n vs h=>typed_int h) h2
   obtain ⟨s,h3⟩:=typed_ste h3
   simp at h1 h2 h3
   exact ⟨⟨en,cf,s⟩,by simp [h1,h2,h3]⟩
theorem plainP:plainS Tryz.prog [44,39,81,78,79,67,42,40,24,3,4]=true:=by kernel_rfl
theorem agg44:isAggB Tryz.prog 44=true:=by kernel_rfl
end Go.Proofs.YtlhciedghbmjjaaGreat
namespace Go.Proofs.YtlhciedghbmjjaaGreat.simulateEventsDone
open Go Go.Am Go.Proofs Go.Proofs.YtlhciedghbmjjaaGreat
open Go.ChangeShapes Go.WideShapes Go.ChangeAt Go.RowKit
set_option linter.unusedVariables false
theorem own:ownKnob Tryz.prog.godebug=none:=by kernel_rfl
theorem laidOut:laidOutB Tryz.prog=true:=by kernel_rfl
set_option maxRecDepth 100000 in
theorem lifted (os:Os) (started:os.Started) (H:Type) (enc:TypeId × Value→H) :
  ReturnsInHanded {} Tryz.checked os 7 .any (Rows.simulateEventsSpec.pre6 enc Tryz.prog Tryz.f7 Rows.simulateEventsRow.domain false) (Rows.simulateEventsSpec.post enc Tryz.prog Tryz.f7 false true false false):=by
 refine returnsInHanded_of_change (C:=Tryz.checked) own started (by kernel_rfl) Tryz.func7
  (ChangeSpec.witness6 (enc:=enc) (C:=Tryz.checked) false ⟨#[],#[.agg #[.slice none 0 0,.slice none 0 0,.slice none 0 0,.slice none 0 0,.slice none 0 0,.slice none 0 0,.slice none 0 0]],[]⟩ 8 (by kernel_rfl) (by kernel_rfl) (by kernel_rfl) (by kernel_rfl)) ?_
 intro W base args ds gs before hval0 hW hcnd _
 have hval:∀ (j:Nat) t v,Tryz.f7.params[j]?=some t→args[j]?=some v→Value.okWide Tryz.prog W .any base t v:=hval0
 have hW':=hW
 obtain ⟨p,q,hA0,hV,rfl,hfz,hnd⟩:=hW
 have hA:DataW.TrodAll enc Tryz.prog W 0 (fun _=>true) true Tryz.f7.params.toList args.toList ds p:=hA0
 rw [Tryz.params7] at hA hval
 obtain ⟨v0,vs0,d0,ds0,p0,q0,hargs,rfl,rfl,h0,r0⟩:=trodAll_cons hA
 obtain ⟨rfl,rfl,rfl⟩:=trodAll_nil r0
 obtain rfl:args=#[v0]:=by cases args; simp_all
 obtain ⟨rfl,rfl⟩:=trodVars_none hV
 have k0:=h0
 have lt0:∀ x ∈ p0,x.block < W.heap.size:=by obtain ⟨m,hm⟩:=k0; exact DataW.trod_lt m _ _ _ hm
 obtain ⟨n0,x0,a0,b0⟩:=arg_okS plainP (by decide:44 ∈ _) (hval 0 44 v0 rfl rfl) h0
 obtain ⟨y0,rfl⟩:∃ x:Lg,x0=x.v:=by
  rcases b0 with ⟨vs,rfl,ht⟩ | ⟨ha,_⟩
  ·obtain ⟨l,rfl⟩:=typed_log ht
   exact ⟨l,rfl⟩
  ·rw [agg44] at ha
   cases ha
 clear hA0 hval0
 have hr:=ev7 y0
 refine (law_ok (us:=#[v0]) made (by unfold relL; exact ⟨_,_,rfl,a0,by unfold relL; rfl⟩) hr rfl).mono fun e W' ⟨he,old⟩=>?_
 subst he
 exact ⟨_,rfl,_,_,_,[],_,[],hW',trodAll_mk1 (shut_bool Tryz.underlying4 _),(trodAll_cons_mk (Old.trod laidOut (by kernel_rfl) (of_decide_eq_true (by kernel_rfl)) k0 old lt0) trodAll_mk0),rfl,old.frame _,fun h=>by cases h⟩
theorem over:Rows.simulateEventsRow.holds Tryz.pinned (OpenSpec.ofChange Rows.simulateEventsSpec) :=
 OpenClaim.holds_of_wide 7 Tryz.f7 rfl rfl rfl rfl rfl rfl rfl ⟨rfl,rfl,rfl,rfl,rfl⟩ rfl rfl rfl rfl rfl (by kernel_rfl) Tryz.func7 (by kernel_rfl)
  (of_decide_eq_true (by kernel_rfl)) (by unfold Func.isWrapper; first | (rw [if_pos (by decide +kernel)]; kernel_rfl) | (rw [if_neg (by decide +kernel)]; exact ⟨rfl,rfl⟩))
  (fun os started H enc _=>lifted os started H enc)
theorem proved:Rows.SimulateEventsSaid:=over
#print axioms proved
end Go.Proofs.YtlhciedghbmjjaaGreat.simulateEventsDone
