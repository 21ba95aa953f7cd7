/- The text. -/
import Derived.Test.YtggbaapfbgjaeaaGreatDoorFEn5
import Derived.Test.YtggbaapfbgjaeaaGreatDoorProg
import Derived.Test.YtggbaapfbgjaeaaGreatDoorFCt2
import Derived.Deep.Slices
import Derived.WideShapes
import Derived.ChangeSame
import Derived.Test.YtggbaapfbgjaeaaGreatDoorFEn4
import Derived.Shelf.Sort.Plain
import Derived.Shelf.Slices.In.SortNone
import Derived.Shelf.Strings.BuilderK
import Derived.Shelf.Strconv.Itoa3
import Derived.Shelf.Small.Wraps
import Derived.WalkKit
set_option linter.all false
namespace Go.Am
open Go (World Value Addr Obj Program TypeId TypeDesc DataW MemPlace maxLen Lit)
def zjv(P:Program)(S:List TypeId):Bool:=S.all fun t=>match P.underlying t with
 | some .bool | some (.int _) | some .string=>P.cellsOf t==1
 | some (.slice e)=>P.cellsOf t==1&&P.cellsOf e != 0&&S.contains e
 | some (.struct fs)=>qsf P fs.toList 0==some (P.cellsOf t)&&fs.toList.all fun f=>S.contains f.type
 | _=>false
theorem q2z{H:Type}{enc:TypeId×Value->H}{P:Program}{w:World}{base:Nat}{spare:Nat->Bool}{held:Bool}{S:List TypeId}(hS:zjv P S=true):∀(n:Nat) (t:TypeId) (cs:List Value) (x:DataW H×List MemPlace),t∈S->DataW.trod enc P w base spare held n t cs=some x ->
  ∃vs,qaj (zlg w) vs cs/\vs.all V.pcell=true/\qdx P n t vs/\cs.length=P.cellsOf t
 | 0,t,cs,x,_,h=>by simp[DataW.trod]at h
 | n+1,t,cs,x,hm,h=>by
  have hp:=jP.1 hS t hm;split at hp
  .rename_i ht;have hc:P.cellsOf t=1:=by simpa using hp
   unfold DataW.trod at h;rw[ht]at h;obtain⟨b,rfl⟩:∃b,cs=[.bool b]:=by
    rcases cs with _ | ⟨c,_ | ⟨c',cs⟩⟩
    .simp at h
    .cases c<;>simp at h;exact⟨_,rfl⟩
    .cases c<;>simp at h
   refine⟨[.bool b],?_,rfl,?_,by simp[hc]⟩
   .unfold qaj;exact⟨_,_,rfl,by unfold rel;rfl,by unfold qaj;rfl⟩
   .unfold qdx;rw[ht];exact⟨b,rfl⟩
  .rename_i k ht;have hc:P.cellsOf t=1:=by simpa using hp
   unfold DataW.trod at h;rw[ht]at h;obtain⟨m,rfl,hwf⟩:∃m,cs=[.int k m]/\(Lit.int k m).wf=true:=by
    rcases cs with _ | ⟨c,_ | ⟨c',cs⟩⟩
    .simp at h
    .cases c<;>simp at h;rename_i k' m;obtain⟨⟨rfl,h2⟩,_⟩:=h;exact⟨m,rfl,h2⟩
    .cases c<;>simp at h
   refine⟨[.int k m],?_,rfl,?_,by simp[hc]⟩
   .unfold qaj;exact⟨_,_,rfl,by unfold rel;rfl,by unfold qaj;rfl⟩
   .unfold qdx;rw[ht];exact⟨m,rfl,hwf⟩
  .rename_i ht;have hc:P.cellsOf t=1:=by simpa using hp
   unfold DataW.trod at h;rw[ht]at h;obtain⟨b,rfl,hb⟩:∃b:ByteArray,cs=[.string b]/\b.size<=maxLen:=by
    rcases cs with _ | ⟨c,_ | ⟨c',cs⟩⟩
    .simp at h
    .cases c<;>simp at h;exact⟨_,rfl,h.1⟩
    .cases c<;>simp at h
   refine⟨[.str b.data.toList],?_,rfl,?_,by simp[hc]⟩
   .unfold qaj;exact⟨_,_,rfl,by unfold rel;simp,by unfold qaj;rfl⟩
   .unfold qdx;rw[ht];exact⟨_,rfl,by rw[Array.length_toList];exact hb⟩
  .rename_i e ht;simp only[jE,beq_iff_eq,bne_iff_ne]at hp;obtain⟨⟨hc,hce⟩,hpe⟩:=hp;rcases DataW.trod_slice ht h with⟨rfl,_⟩ | ⟨a,len,cap,elems,rest,n',hn',rfl,_,_,hlc,hcm,hlen',hel,_,_⟩
   .refine⟨[.imm []],?_,rfl,?_,by simp[hc]⟩
    .unfold qaj;refine⟨_,_,rfl,?_,by unfold qaj;rfl⟩;unfold rel;exact⟨none,0,rfl,jD _,rfl,.inl rfl⟩
    .unfold qdx;rw[ht];exact⟨[],rfl,Nat.zero_le _,fun r hr=>by cases hr⟩
   .obtain rfl:n=n':=by omega
    -- the elements
    have each:∀i,i<len->∃(vs:List V) (cs':List Value),w.cells? base (a.add (i*P.cellsOf e)) (P.cellsOf e)=some cs'/\qaj (zlg w) vs cs'/\vs.all V.pcell=true/\qdx P n e vs/\cs'.length=P.cellsOf e:=by intro i hi;have h1:=hel i hi;rw[jA (by omega),jB]at h1;obtain⟨cs',g1,g2⟩:=h1;obtain⟨vs,k1,k2,k3,k4⟩:=q2z hS n e cs' _ (List.contains_iff_mem.1 hpe) g2;exact⟨vs,cs',g1,k1,k2,k3,k4⟩
    have build:∀k,k<=len->∃els:List (List V),els.length=k/\qce els=true/\(∀r∈els,r.length=P.cellsOf e/\qdx P n e r)/\∀(i:Nat) r,els[i]?=some r->∃cs',w.cells? base (a.add (i*P.cellsOf e)) (P.cellsOf e)=some cs'/\qaj (zlg w) r cs':=by
     intro k;induction k with
     | zero=>intro _;exact⟨[],rfl,rfl,(fun r hr=>by cases hr),(fun i r h=>by simp at h)⟩
     | succ k ih =>
      intro hk;obtain⟨els,e1,e2,e3,e4⟩:=ih (by omega);obtain⟨vs,cs',g1,g2,g3,g4,g5⟩:=each k (by omega);refine⟨els++[vs],by simp[e1],qjv e2 (by simp[qce];simpa using g3),fun r hr=>?_,fun i r hi=>?_⟩
      .rcases jQ.1 hr with hr | hr
       .exact e3 r hr
       .simp at hr;subst hr;exact⟨by rw[qau g2,g5],g4⟩
      .by_cases hik:i<k
       .rw[jI (by omega)]at hi;exact e4 i r hi
       .rw[jJ (by omega)]at hi;have h0:i-els.length=0:=by
         have:=(jG.1 hi).1;simp at this;omega
        rw[h0]at hi;simp at hi;subst hi;have:i=k:=by omega
        subst this;exact⟨cs',g1,g2⟩
    obtain⟨els,e1,e2,e3,e4⟩:=build len (jD _);refine⟨[.imm els],?_,rfl,?_,by simp[hc]⟩
    .unfold qaj;refine⟨_,_,rfl,?_,by unfold qaj;rfl⟩;unfold rel;refine⟨some a,cap,by rw[e1],by omega,e2,?_⟩;by_cases h0:els=[]
     .exact .inl h0
     .right;have hlen:0<len:=by rw[<-e1];exact kA.2 h0
      obtain⟨vs,cs',g1,_⟩:=each 0 hlen;have hblk:=Go.World.cells?_block g1 (by omega);have hspot:a.spot=none:=by obtain⟨q1,q2,q3⟩:=Go.World.cells?_some g1;have h0':=q3 0 (by omega);rw[jA (by omega)]at h0';have:=Go.World.cell?_spot h0';simpa[Go.Addr.add]using this
      obtain⟨b,o,sp⟩:=a;simp only at hspot;subst hspot;refine⟨b,o,P.cellsOf e,rfl,by omega,(by simpa[qcp]using hblk:b<w.heap.size),?_⟩;rw[qge];intro i r hi;refine⟨(e3 r (jR hi)).1,?_⟩;obtain⟨cs',g1,g2⟩:=e4 i r hi;refine qgp (us:=cs') (fun j u hj=>?_) g2;obtain⟨q1,q2,q3⟩:=Go.World.cells?_some g1;have hjl:=(jG.1 hj).1;have:=q3 j (by omega);rw[qcp,qcp,hj]at this;exact this
    .unfold qdx;rw[ht];exact⟨els,rfl,by omega,e3⟩
  .rename_i fs ht;simp only[jE,beq_iff_eq,jP]at hp;obtain⟨htl,hall⟩:=hp;unfold DataW.trod at h;rw[ht]at h;have hs:cs.length=P.cellsOf t/\∃xs,(fs.toList.mapM fun f=>DataW.trod enc P w base spare held n f.type ((cs.drop f.offset).take (P.cellsOf f.type)))=some xs:=by
    simp only at h;split at h
    .rename_i hl;simp only[jM]at h;obtain⟨xs,h1,_⟩:=h;exact⟨hl,xs,h1⟩
    .cases h
   obtain⟨hl,xs,hxs⟩:=hs;have hf:∀f∈fs.toList,∃y,DataW.trod enc P w base spare held n f.type ((cs.drop f.offset).take (P.cellsOf f.type))=some y:=by intro f hfm;obtain⟨i,hi⟩:=List.mem_iff_getElem?.1 hfm;have h1:=Go.mapM_some_get hxs i f hi;have h2:=Go.mapM_some_length hxs;have h3:=(jG.1 hi).1;rw[jA (by omega)]at h1;exact⟨_,h1⟩
   obtain⟨vs,k1,k2,k3⟩:=q6a (E:=zlg w) (n:=n) htl hl fun f hfm=>by obtain⟨y,hy⟩:=hf f hfm;obtain⟨vs,q1,q2,q3,_⟩:=q2z hS n f.type _ y (List.contains_iff_mem.1 (hall f hfm)) hy;exact⟨vs,q1,q2,q3⟩
   refine⟨vs,by simpa using k1,k2,?_,hl⟩;unfold qdx;rw[ht];refine⟨?_,fun f hfm=>by simpa using k3 [] rfl f hfm⟩;have:=qau k1;simpa[hl]using this
  .cases hp
theorem zfp{H:Type}{enc:TypeId×Value->H}{P:Program}{W:World}{base b0:Nat}{spare:Nat->Bool}{held:Bool}{reach:Go.Reach}{t:TypeId}{v:Value}{d:DataW H}{ps:List MemPlace}{S:List TypeId}(hS:zjv P S=true)(hp:t∈S)
  (hv:Value.okWide P W reach b0 t v) (h:DataW.Trod enc P W base spare held t v d ps) :
  ∃n,∃x:V,rel (zlg W) x v/\((∃vs,x=.agg vs/\qdx P n t vs)\/(qff P t=false/\qdx P n t [x])):=by
 obtain⟨n,hf⟩:=h;refine⟨n,?_⟩;obtain⟨vs,k1,k2,k3,k4⟩:=q2z hS n t v.cells.toList _ hp hf;have one:qff P t=false->v.cells=#[v]->∃x:V,rel (zlg W) x v/\((∃vs,x=.agg vs/\qdx P n t vs)\/(qff P t=false/\qdx P n t [x])):=by
  intro ha hc;rw[hc]at k1;cases vs with
  | nil=>unfold qaj at k1;cases k1
  | cons x vs =>
   unfold qaj at k1;obtain⟨u,us,e,r1,r2⟩:=k1;cases e;cases vs with
   | nil=>exact⟨x,r1,.inr ⟨ha,k3⟩⟩
   | cons y vs=>unfold qaj at r2;obtain⟨_,_,e,_⟩:=r2;cases e
 have hp:=jP.1 hS t hp
 .split at hp
  .rename_i ht;obtain⟨b,rfl⟩:=Go.WideShapes.okWide_bool ht hv;exact one (by simp[qff,ht]) rfl
  .rename_i k ht;obtain⟨b,rfl⟩:=Go.WideShapes.okWide_int ht hv;exact one (by simp[qff,ht]) rfl
  .rename_i ht;obtain⟨b,rfl⟩:=Go.WideShapes.okWide_string ht hv;exact one (by simp[qff,ht]) rfl
  .rename_i e ht;obtain⟨a,l,c,rfl⟩:=Go.WideShapes.okWide_slice ht hv;exact one (by simp[qff,ht]) rfl
  .rename_i fs ht;obtain⟨cs,rfl,hc⟩:=Go.WideShapes.okWide_struct ht hv;exact⟨.agg vs,by unfold rel;exact⟨cs,rfl,k1⟩,.inl ⟨vs,rfl,k3⟩⟩
  .cases hp
end Go.Am
namespace Go.Proofs.YtggbaapfbgjaeaaGreatDoor
open Go Go.Am Go.Proofs
set_option maxRecDepth 100000
theorem q9w:Tryz.prog.cellsOf 3=1:=by kernel_rfl
theorem zxp:Tryz.prog.cellsOf 4=1:=by kernel_rfl
theorem zxq:Tryz.prog.cellsOf 9=1:=by kernel_rfl
theorem zrx:Tryz.prog.cellsOf 22=1:=by kernel_rfl
theorem zry:Tryz.prog.cellsOf 23=1:=by kernel_rfl
theorem zrz:Tryz.prog.cellsOf 24=1:=by kernel_rfl
theorem zsa:Tryz.prog.cellsOf 26=5:=by kernel_rfl
theorem zsb:Tryz.prog.cellsOf 28=2:=by kernel_rfl
theorem zmf:Tryz.prog.cellsOf 101=1:=by kernel_rfl
theorem q9v:Tryz.prog.cellsOf 103=3:=by kernel_rfl
theorem zmg:Tryz.prog.cellsOf 105=10:=by kernel_rfl
theorem qhx{n:Nat}{vs:List V}(h:qdx Tryz.prog n 3 vs):∃m,vs=[num m]:=by
 cases n with
 | zero=>unfold qdx at h;exact absurd h (by simp)
 | succ n =>unfold qdx at h;rw[Tryz.underlying3]at h;obtain⟨m,rfl,hw⟩:=h;exact⟨m,rfl⟩
theorem zeo{n:Nat}{vs:List V}(h:qdx Tryz.prog n 4 vs):∃b,vs=[.bool b]:=by
 cases n with
 | zero=>unfold qdx at h;exact absurd h (by simp)
 | succ n =>unfold qdx at h;rw[Tryz.underlying4]at h;exact h
theorem q6w{n:Nat}{vs:List V}(h:qdx Tryz.prog n 9 vs):∃s,vs=[.str s]/\s.length<=maxLen:=by
 cases n with
 | zero=>unfold qdx at h;exact absurd h (by simp)
 | succ n =>unfold qdx at h;rw[Tryz.underlying9]at h;exact h
theorem qtx{n e:Nat}{α:Type}{row:α->List V}(hr:∀vs,qdx Tryz.prog n e vs->∃x,vs=row x):∀{els:List (List V)},(∀r∈els,qdx Tryz.prog n e r)->∃l:List α,els=l.map row
 | [],_=>⟨[],rfl⟩
 | r :: els,h=>by obtain⟨x,hx⟩:=hr r (h r (by simp));obtain⟨l,hl⟩:=qtx hr (els:=els) fun q hq=>h q (by simp[hq]);exact⟨x :: l,by rw[hx,hl];rfl⟩
theorem qmb{n t e:Nat}{α:Type}{row:α->List V}(hu:Tryz.prog.underlying t=some (.slice e))(hr:∀n vs,qdx Tryz.prog n e vs->∃x,vs=row x){vs:List V}(h:qdx Tryz.prog n t vs):∃l:List α,vs=[.imm (l.map row)]:=by
 cases n with
 | zero=>unfold qdx at h;exact absurd h (by simp)
 | succ n =>unfold qdx at h;rw[hu]at h;obtain⟨els,he,_,hel⟩:=h;obtain⟨l,rfl⟩:=qtx (n:=n) (e:=e) (row:=row) (fun vs h=>hr n vs h) fun r hr=>(hel r hr).2;exact⟨l,he⟩
theorem q3l:∀{n:Nat} {vs:List V},qdx Tryz.prog n 103 vs->∃x:Ex,vs=x.cells
 | 0,vs,h=>by unfold qdx at h;exact absurd h (by simp)
 | 1,vs,h=>by unfold qdx at h;rw[Tryz.underlying103]at h;obtain⟨hl,hf⟩:=h;have h1:=hf _ (by simp;exact .inl rfl);unfold qdx at h1;exact absurd h1 (by simp)
 | n+2,vs,h=>by
  unfold qdx at h;rw[Tryz.underlying103]at h;obtain⟨hl,hf⟩:=h;rw[q9v]at hl
  match vs,hl with
  | [a,b,d],_ =>have h1:=hf _ (by simp;exact .inl rfl);have h2:=hf _ (by simp;exact .inr (.inl rfl));have h3:=hf _ (by simp;exact .inr (.inr rfl));simp[q9w,zmf]at h1 h2 h3;obtain⟨o,h1⟩:=qhx h1;obtain⟨i,h2⟩:=qhx h2;unfold qdx at h3;rw[Tryz.underlying101]at h3;obtain⟨els,he,_,hel⟩:=h3;obtain⟨l,rfl⟩:=qtx (n:=n) (e:=103) (row:=Ex.row) (fun vs h=>by obtain⟨x,hx⟩:=q3l h;exact⟨x,by rw[hx,q0v]⟩) fun r hr=>(hel r hr).2;refine⟨.mk o i l,?_⟩;simp at h1 h2 he;rw[h1,h2,he];rfl
theorem zpf{n:Nat}{vs:List V}(h:qdx Tryz.prog n 105 vs):∃x:Sg,vs=x.row:=by
 cases n with
 | zero=>unfold qdx at h;exact absurd h (by simp)
 | succ n =>
  unfold qdx at h;rw[Tryz.underlying105]at h;obtain⟨hl,hf⟩:=h;rw[zmg]at hl
  match vs,hl with
  | [a0,a1,a2,a3,a4,a5,a6,a7,a8,a9],_ =>have h0:=hf _ (by simp;exact .inl rfl);have h1:=hf _ (by simp;exact .inr (.inl rfl));have h2:=hf _ (by simp;exact .inr (.inr (.inl rfl)));have h3:=hf _ (by simp;exact .inr (.inr (.inr (.inl rfl))));have h4:=hf _ (by simp;exact .inr (.inr (.inr (.inr (.inl rfl)))));have h5:=hf _ (by simp;exact .inr (.inr (.inr (.inr (.inr rfl)))));simp[q9w,zxp,zxq,q9v]at h0 h1 h2 h3 h4 h5;obtain⟨s,h0,_⟩:=q6w h0;obtain⟨k,h1⟩:=qhx h1;obtain⟨x,h2⟩:=q3l h2;obtain⟨y,h3⟩:=q3l h3;obtain⟨d,h4⟩:=qhx h4;obtain⟨b,h5⟩:=zeo h5;simp at h0 h1 h2 h3 h4 h5;refine⟨⟨s,k,x,y,d,b⟩,?_⟩;simp[h0,h1,h2,h3,h4,h5]
theorem zpe{n:Nat}{vs:List V}(h:qdx Tryz.prog n 26 vs):∃c:Ct,vs=c.cells:=by
 cases n with
 | zero=>unfold qdx at h;exact absurd h (by simp)
 | succ n =>
  unfold qdx at h;rw[Tryz.underlying26]at h;obtain⟨hl,hf⟩:=h;rw[zsa]at hl
  match vs,hl with
  | [a0,a1,a2,a3,a4],_ =>have h0:=hf _ (by simp;exact .inl rfl);have h1:=hf _ (by simp;exact .inr (.inl rfl));have h2:=hf _ (by simp;exact .inr (.inr (.inl rfl)));have h3:=hf _ (by simp;exact .inr (.inr (.inr (.inl rfl))));have h4:=hf _ (by simp;exact .inr (.inr (.inr (.inr rfl))));simp[q9w,zrx,zry,zrz]at h0 h1 h2 h3 h4;obtain⟨a,h0⟩:=qhx h0;obtain⟨i,h1⟩:=qmb (row:=qpq) Tryz.underlying22 (fun n vs h=>by obtain⟨s,h,_⟩:=q6w h;exact⟨s,h⟩) h1;obtain⟨g,h2⟩:=qmb (row:=Sg.row) Tryz.underlying23 (fun n vs h=>zpf h) h2;obtain⟨p,h3⟩:=qmb (row:=qbk) Tryz.underlying24 (fun n vs h=>qhx h) h3;obtain⟨q,h4⟩:=qmb (row:=qbk) Tryz.underlying24 (fun n vs h=>qhx h) h4;simp at h0 h1 h2 h3 h4;refine⟨⟨a,i,g,p,q⟩,?_⟩;simp[h0,h1,h2,h3,h4]
theorem zsc:Tryz.prog.cellsOf 29=4:=by kernel_rfl
theorem zqh:zjv Tryz.prog [26,28,9,3,4,22,23,24,101,103,105,31]=true:=by kernel_rfl
theorem z2p:qff Tryz.prog 26=true:=by kernel_rfl
section
variable{H:Type}{enc:TypeId×Value->H}{W:World}{base b0:Nat}{spare:Nat->Bool}{held:Bool}
theorem zkq{fuel:Nat}{x y:Value}{d:DataW H×List MemPlace}(h:DataW.trod enc Tryz.prog W base spare held fuel 28 [x,y]=some d):∃a b:Int,x=.int .i64 a/\y=.int .i64 b:=by obtain⟨y0,y1,n,-,-,h1,h2⟩:=Go.ChangeShapes.trod_struct2 Tryz.underlying28 h;simp only[q9w,List.drop_zero,List.drop_succ_cons,List.take_succ_cons,List.take_zero]at h1 h2;obtain⟨a,g0,-,w0⟩:=DataW.trod_int Tryz.underlying3 h1;obtain⟨b,g1,-,w1⟩:=DataW.trod_int Tryz.underlying3 h2;cases g0;cases g1;exact⟨a,b,rfl,rfl⟩
theorem zjp{reach:Go.Reach}{v:Value}{d:DataW H}{ps:List MemPlace}(hv:Value.okWide Tryz.prog W reach b0 29 v)(h:DataW.Trod enc Tryz.prog W base spare held 29 v d ps) :
  ∃a b c e:Int,v=.agg #[.int .i64 a,.int .i64 b,.int .i64 c,.int .i64 e]:=by
 have ht:=Tryz.underlying29;obtain⟨cs,rfl⟩:∃cs,v=.agg cs:=by simp only[Value.okWide,ht]at hv;obtain⟨cs,h1,-⟩:=hv;exact⟨cs,h1⟩
 obtain⟨fuel,hf⟩:=h;have hu:(Value.agg cs).cells.toList=cs.toList:=rfl;rw[hu]at hf;cases fuel with
 | zero=>simp[DataW.trod]at hf
 | succ fuel =>
  unfold DataW.trod at hf;rw[ht]at hf;simp only at hf;split at hf
  .rename_i hl;rw[zsc]at hl;obtain⟨l⟩:=cs;simp only at hf hl
   match l,hl with
   | [x,y,z,u],_ =>
    rw[zsb]at hf;simp only[List.range_succ,List.range_zero,List.nil_append,List.cons_append,List.mapM_cons,List.mapM_nil]at hf;simp only[Nat.zero_mul,Nat.one_mul,List.drop_zero,List.drop_succ_cons,List.take_succ_cons,List.take_zero]at hf;cases h0:DataW.trod enc Tryz.prog W base spare held fuel 28 [x,y]with
    | none=>rw[h0]at hf;cases hf
    | some p =>
     cases h1:DataW.trod enc Tryz.prog W base spare held fuel 28 [z,u]with
     | none=>rw[h0,h1]at hf;cases hf
     | some q =>obtain⟨a,b,rfl,rfl⟩:=zkq h0;obtain⟨c,e,rfl,rfl⟩:=zkq h1;exact⟨a,b,c,e,rfl⟩
  .cases hf
end
theorem zow{E:Env}(a b c e:Int):rel E (.agg [num a,num b,num c,num e]) (.agg #[.int .i64 a,.int .i64 b,.int .i64 c,.int .i64 e]):=by unfold rel;refine⟨_,rfl,?_⟩;unfold qaj;refine⟨_,_,rfl,by unfold rel;rfl,?_⟩;unfold qaj;refine⟨_,_,rfl,by unfold rel;rfl,?_⟩;unfold qaj;refine⟨_,_,rfl,by unfold rel;rfl,?_⟩;unfold qaj;exact⟨_,_,rfl,by unfold rel;rfl,by unfold qaj;rfl⟩
end Go.Proofs.YtggbaapfbgjaeaaGreatDoor
namespace Go.Proofs.YtggbaapfbgjaeaaGreatDoor
open Go Go.Am Go.Proofs Go.Shelf
set_option maxRecDepth 100000
def z7g:Go.Shelf.Ren:=⟨fun | 189=>213 | 125=>239 | 257=>238 | 128=>263 | 129=>246 | 294=>254 | 295=>255 | 296=>256 | 297=>257 | 298=>258 | 299=>259 | 216=>260 | 300=>261 | 301=>262 | 328=>272 | 329=>273 | 330=>274 | 331=>275 | 332=>276 | 215=>277 | 343=>286 | n=>n,fun | 28=>24 | 3=>3 | 46=>232 | 0=>0 | 51=>331 | 53=>118 | 4=>4 | 183=>339 | 182=>338 | 131=>126 | 5=>5 | 9=>9 | 218=>355 | 222=>325 | 228=>364 | 229=>365 | n=>n,fun | n=>n⟩
theorem fnS{o:Option Go.Func}{f g:Go.Func}(h:o=some f)(e:f=g):o=some g:=e ▸ h
theorem lyS:Go.Proofs.Lays.n189 Tryz.prog z7g:=⟨by kernel_rfl,fnS Tryz.func239 (by kernel_rfl),fnS Tryz.func263 (by kernel_rfl),fnS Tryz.func246 (by kernel_rfl),fnS Tryz.func213 (by kernel_rfl),fnS Tryz.func277 (by kernel_rfl),fnS Tryz.func260 (by kernel_rfl),fnS Tryz.func238 (by kernel_rfl),fnS Tryz.func254 (by kernel_rfl),fnS Tryz.func255 (by kernel_rfl),fnS Tryz.func256 (by kernel_rfl),fnS Tryz.func257 (by kernel_rfl),fnS Tryz.func258 (by kernel_rfl),fnS Tryz.func259 (by kernel_rfl),fnS Tryz.func261 (by kernel_rfl),fnS Tryz.func262 (by kernel_rfl),fnS Tryz.func272 (by kernel_rfl),fnS Tryz.func273 (by kernel_rfl),fnS Tryz.func274 (by kernel_rfl),fnS Tryz.func275 (by kernel_rfl),fnS Tryz.func276 (by kernel_rfl),fnS Tryz.func286 (by kernel_rfl),Tryz.underlying0,Tryz.isAgg0,Tryz.sizeOf0,Tryz.zeroValue0,Tryz.underlying3,Tryz.isAgg3,Tryz.sizeOf3,Tryz.zeroValue3,Tryz.underlying4,Tryz.isAgg4,Tryz.sizeOf4,Tryz.zeroValue4,Tryz.underlying5,Tryz.isAgg5,Tryz.sizeOf5,Tryz.zeroValue5,Tryz.underlying9,Tryz.isAgg9,Tryz.sizeOf9,Tryz.zeroValue9,Tryz.underlying24,Tryz.isAgg24,Tryz.sizeOf24,Tryz.zeroValue24,Tryz.underlying232,Tryz.isAgg232,Tryz.sizeOf232,Tryz.zeroValue232,Tryz.underlying331,Tryz.isAgg331,Tryz.sizeOf331,Tryz.zeroValue331,Tryz.underlying118,Tryz.isAgg118,Tryz.sizeOf118,Tryz.zeroValue118,Tryz.underlying126,Tryz.isAgg126,Tryz.sizeOf126,Tryz.zeroValue126,Tryz.underlying338,Tryz.isAgg338,Tryz.sizeOf338,Tryz.zeroValue338,Tryz.underlying339,Tryz.isAgg339,Tryz.sizeOf339,Tryz.zeroValue339,Tryz.underlying355,Tryz.isAgg355,Tryz.sizeOf355,Tryz.zeroValue355,Tryz.underlying325,Tryz.isAgg325,Tryz.sizeOf325,Tryz.zeroValue325,Tryz.underlying364,Tryz.isAgg364,Tryz.sizeOf364,Tryz.zeroValue364,Tryz.underlying365,Tryz.isAgg365,Tryz.sizeOf365,Tryz.zeroValue365⟩
theorem z4z:qvb Tryz.prog 213 :=
 ⟨⟨_,Tryz.func213,by decide,by kernel_rfl⟩,fun blk off cap zs w h1 h2 h3=>Any.slices_Sort_int lyS blk off cap zs w h1 h2 h3,fun p cap w=>calls_of_every_depth fun D=>AnyS.slices_Sort_int_none_alone lyS D p cap w⟩
end Go.Proofs.YtggbaapfbgjaeaaGreatDoor
namespace Go.Proofs.YtggbaapfbgjaeaaGreatDoor
open Go Go.Am Go.Proofs Go.Shelf
set_option maxRecDepth 100000
def lyB:Go.Shelf.Ren:=⟨fun | 166=>102 | 167=>105 | 169=>106 | 240=>146 | 276=>196 | n=>n,fun | 0=>0 | 3=>3 | 4=>4 | 5=>5 | 9=>9 | 37=>181 | 70=>180 | 72=>183 | 75=>185 | 127=>233 | 164=>279 | 20=>20 | 80=>191 | n=>n,fun | n=>n⟩
def lyI:Go.Shelf.Ren:=⟨fun | 171=>103 | 243=>147 | 246=>197 | 283=>225 | 284=>226 | 285=>227 | 286=>228 | 129=>246 | 317=>245 | 318=>247 | 319=>248 | 320=>249 | 337=>265 | 338=>266 | n=>n,fun | 3=>3 | 9=>9 | 2=>2 | 4=>4 | 171=>302 | 0=>0 | 53=>118 | 37=>181 | 5=>5 | 173=>304 | 212=>330 | 51=>331 | 20=>20 | 213=>332 | 46=>232 | 232=>360 | 233=>361 | n=>n,fun | 17=>0 | 18=>1 | 19=>2 | n=>n⟩
def lyF:Go.Shelf.Ren:=⟨fun | 121=>104 | 214=>148 | n=>n,fun | 4=>4 | 9=>9 | n=>n,fun | n=>n⟩
theorem fnT{o:Option Go.Func}{f g:Go.Func}(h:o=some f)(e:f=g):o=some g:=e ▸ h
theorem z5m:Go.Proofs.Lays.n166 Tryz.prog lyB:=⟨by kernel_rfl,fnT Tryz.func102 (by kernel_rfl),fnT Tryz.func146 (by kernel_rfl),fnT Tryz.func196 (by kernel_rfl),Tryz.underlying0,Tryz.isAgg0,Tryz.sizeOf0,Tryz.zeroValue0,Tryz.underlying3,Tryz.isAgg3,Tryz.sizeOf3,Tryz.zeroValue3,Tryz.underlying4,Tryz.isAgg4,Tryz.sizeOf4,Tryz.zeroValue4,Tryz.underlying9,Tryz.isAgg9,Tryz.sizeOf9,Tryz.zeroValue9,Tryz.underlying20,Tryz.isAgg20,Tryz.sizeOf20,Tryz.zeroValue20,Tryz.underlying181,Tryz.isAgg181,Tryz.sizeOf181,Tryz.zeroValue181,Tryz.underlying180,Tryz.isAgg180,Tryz.sizeOf180,Tryz.zeroValue180,Tryz.underlying183,Tryz.isAgg183,Tryz.sizeOf183,Tryz.zeroValue183,Tryz.underlying185,Tryz.isAgg185,Tryz.sizeOf185,Tryz.zeroValue185,Tryz.underlying279,Tryz.isAgg279,Tryz.sizeOf279,Tryz.zeroValue279⟩
theorem z7c:Go.Proofs.Lays.n167 Tryz.prog lyB:=⟨by kernel_rfl,fnT Tryz.func105 (by kernel_rfl),fnT Tryz.func146 (by kernel_rfl),fnT Tryz.func196 (by kernel_rfl),Tryz.underlying0,Tryz.isAgg0,Tryz.sizeOf0,Tryz.zeroValue0,Tryz.underlying4,Tryz.isAgg4,Tryz.sizeOf4,Tryz.zeroValue4,Tryz.underlying5,Tryz.isAgg5,Tryz.sizeOf5,Tryz.zeroValue5,Tryz.underlying9,Tryz.isAgg9,Tryz.sizeOf9,Tryz.zeroValue9,Tryz.underlying20,Tryz.isAgg20,Tryz.sizeOf20,Tryz.zeroValue20,Tryz.underlying181,Tryz.isAgg181,Tryz.sizeOf181,Tryz.zeroValue181,Tryz.underlying180,Tryz.isAgg180,Tryz.sizeOf180,Tryz.zeroValue180,Tryz.underlying183,Tryz.isAgg183,Tryz.sizeOf183,Tryz.zeroValue183,Tryz.underlying185,Tryz.isAgg185,Tryz.sizeOf185,Tryz.zeroValue185,Tryz.underlying279,Tryz.isAgg279,Tryz.sizeOf279,Tryz.zeroValue279⟩
theorem z7d:Go.Proofs.Lays.n169 Tryz.prog lyB:=⟨by kernel_rfl,fnT Tryz.func106 (by kernel_rfl),Tryz.underlying0,Tryz.isAgg0,Tryz.sizeOf0,Tryz.zeroValue0,Tryz.underlying3,Tryz.isAgg3,Tryz.sizeOf3,Tryz.zeroValue3,Tryz.underlying9,Tryz.isAgg9,Tryz.sizeOf9,Tryz.zeroValue9,Tryz.underlying181,Tryz.isAgg181,Tryz.sizeOf181,Tryz.zeroValue181,Tryz.underlying180,Tryz.isAgg180,Tryz.sizeOf180,Tryz.zeroValue180,Tryz.underlying183,Tryz.isAgg183,Tryz.sizeOf183,Tryz.zeroValue183,Tryz.underlying233,Tryz.isAgg233,Tryz.sizeOf233,Tryz.zeroValue233⟩
theorem z7f:Go.Proofs.Lays.n171 Tryz.prog lyI:=⟨by kernel_rfl,fnT Tryz.func246 (by kernel_rfl),fnT Tryz.func103 (by kernel_rfl),fnT Tryz.func147 (by kernel_rfl),fnT Tryz.func197 (by kernel_rfl),fnT Tryz.func225 (by kernel_rfl),fnT Tryz.func226 (by kernel_rfl),fnT Tryz.func227 (by kernel_rfl),fnT Tryz.func228 (by kernel_rfl),fnT Tryz.func245 (by kernel_rfl),fnT Tryz.func247 (by kernel_rfl),fnT Tryz.func248 (by kernel_rfl),fnT Tryz.func249 (by kernel_rfl),fnT Tryz.func265 (by kernel_rfl),fnT Tryz.func266 (by kernel_rfl),Tryz.underlying0,Tryz.isAgg0,Tryz.sizeOf0,Tryz.zeroValue0,Tryz.underlying2,Tryz.isAgg2,Tryz.sizeOf2,Tryz.zeroValue2,Tryz.underlying3,Tryz.isAgg3,Tryz.sizeOf3,Tryz.zeroValue3,Tryz.underlying4,Tryz.isAgg4,Tryz.sizeOf4,Tryz.zeroValue4,Tryz.underlying5,Tryz.isAgg5,Tryz.sizeOf5,Tryz.zeroValue5,Tryz.underlying9,Tryz.isAgg9,Tryz.sizeOf9,Tryz.zeroValue9,Tryz.underlying20,Tryz.isAgg20,Tryz.sizeOf20,Tryz.zeroValue20,Tryz.underlying181,Tryz.isAgg181,Tryz.sizeOf181,Tryz.zeroValue181,Tryz.underlying232,Tryz.isAgg232,Tryz.sizeOf232,Tryz.zeroValue232,Tryz.underlying331,Tryz.isAgg331,Tryz.sizeOf331,Tryz.zeroValue331,Tryz.underlying118,Tryz.isAgg118,Tryz.sizeOf118,Tryz.zeroValue118,Tryz.underlying302,Tryz.isAgg302,Tryz.sizeOf302,Tryz.zeroValue302,Tryz.underlying304,Tryz.isAgg304,Tryz.sizeOf304,Tryz.zeroValue304,Tryz.underlying330,Tryz.isAgg330,Tryz.sizeOf330,Tryz.zeroValue330,Tryz.underlying332,Tryz.isAgg332,Tryz.sizeOf332,Tryz.underlying360,Tryz.isAgg360,Tryz.sizeOf360,Tryz.zeroValue360,Tryz.underlying361,Tryz.isAgg361,Tryz.sizeOf361,Tryz.zeroValue361,by kernel_rfl,by kernel_rfl,by kernel_rfl⟩
theorem z7e:Go.Proofs.Lays.n121 Tryz.prog lyF:=⟨by kernel_rfl,fnT Tryz.func104 (by kernel_rfl),fnT Tryz.func148 (by kernel_rfl),Tryz.underlying4,Tryz.isAgg4,Tryz.sizeOf4,Tryz.zeroValue4,Tryz.underlying9,Tryz.isAgg9,Tryz.sizeOf9,Tryz.zeroValue9⟩
theorem z1s:Builder.Extra Tryz.prog lyB where
 sizeBuilder:=by kernel_rfl
 liesBuilder:=by kernel_rfl
 t5:=Tryz.underlying5
 a5:=Tryz.isAgg5
 z5:=Tryz.sizeOf5
 v5:=Tryz.zeroValue5
 infoByte:=by kernel_rfl
 cellsByte:=by kernel_rfl
 sizeByte:=by kernel_rfl
 neB5:=by decide
end Go.Proofs.YtggbaapfbgjaeaaGreatDoor
