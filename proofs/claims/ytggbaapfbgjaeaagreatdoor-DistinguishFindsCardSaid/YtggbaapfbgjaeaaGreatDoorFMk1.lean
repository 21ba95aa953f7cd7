/- The key. -/
import Derived.Test.YtggbaapfbgjaeaaGreatDoorFKw1
import Derived.Test.YtggbaapfbgjaeaaGreatDoorFEn4
import Derived.WalkKit
import Derived.Deep.RegionWith
import Derived.Test.YtggbaapfbgjaeaaGreatDoorFPg8
set_option linter.all false
namespace Go.Proofs.YtggbaapfbgjaeaaGreatDoor
open Go Go.Am Go.Proofs Go.Shelf Go.RowKit
set_option maxRecDepth 100000
set_option maxHeartbeats 4000000
def KwI(w:World)(u:Value)(b:Bool)(t:List UInt8)(wr:World):Prop :=
 Lib.IsBuilderF 183 5 (w.heap.size+1) (w.heap.size+1) (Lib.byteCells t) wr/\Below (w.heap.size+1) (w.alloc (.cells #[u,.bool b] 49)) wr
theorem KwI.cell{w:World}{u:Value}{b:Bool}{t:List UInt8}{wr:World}(h:KwI w u b t wr){p:Addr}{v:Value}(hc:w.cell? p=some v):wr.cell? p=some v:=by
 have hp:p.block<w.heap.size:=by
  rcases Nat.lt_or_ge p.block w.heap.size with h' | h'
  .exact h'
  .simp[World.cell?,Array.getElem?_eq_none h']at hc
 rw[h.2.cell (by omega),World.cell?_alloc_lt _ _ p hp];exact hc
theorem KwI.box0{w:World}{u:Value}{b:Bool}{t:List UInt8}{wr:World}(h:KwI w u b t wr):wr.cell? ⟨w.heap.size,0,none⟩=some u:=by rw[h.2.cell (by simp)];simp
theorem KwI.box1{w:World}{u:Value}{b:Bool}{t:List UInt8}{wr:World}(h:KwI w u b t wr):wr.cell? ⟨w.heap.size,1,none⟩=some (.bool b):=by rw[h.2.cell (by simp)];simp
def stB(x:Nat×Bool):List UInt8:=qyz x.1++[if x.2 then 116 else 102]
theorem q6z(x:List (Nat×Bool)):qea x=x.flatMap stB++[59]:=rfl
theorem zvk(x:Nat×Bool):(stB x).length<=3:=by unfold stB qyz;split<;>simp
theorem qvt:∀x:List (Nat×Bool),(x.flatMap stB).length<=3*x.length
 | []=>by simp
 | y :: x=>by have:=qvt x;have:=zvk y;simp only[List.flatMap_cons,jF,List.length_cons];omega
theorem qpf:∀l:List (List (Nat×Bool)),(∀x∈l,x.length<1000)->(l.flatMap qea).length<=3001*l.length
 | [],_=>by simp
 | x :: l,h=>by have:=qpf l fun y hy=>h y (List.mem_cons_of_mem _ hy);have:=qvt x;have:=h x List.mem_cons_self;simp only[List.flatMap_cons,q6z,jF,List.length_cons,List.length_nil];omega
theorem qwf{n:Nat}(h:n<100):Lib.decDigits n=qyz n:=by
 unfold qyz Lib.decDigits;by_cases h1:n<10
 .simp[h1,Nat.toUInt8]
 .rw[dif_neg h1,if_neg h1];unfold Lib.decDigits;rw[dif_pos (by omega)];rfl
theorem KwI.lt{w:World}{u:Value}{b:Bool}{t:List UInt8}{wr:World}(h:KwI w u b t wr):w.heap.size+1<wr.heap.size:=by rcases h.1 with h | h<;>exact h.lt
theorem KwI.alloc{w:World}{u:Value}{b:Bool}{t:List UInt8}{wr:World}(h:KwI w u b t wr)(o:Obj):KwI w u b t (wr.alloc o):=⟨h.1.alloc o,h.2.alloc (by have:=h.lt;omega) o⟩
theorem KwI.put{w:World}{u:Value}{b:Bool}{t:List UInt8}{wr:World}(h:KwI w u b t wr){w':World}{s:List UInt8}(h1:Lib.BuilderAtF 183 5 (w.heap.size+1) (w.heap.size+1) (.pointer (some ⟨w.heap.size+1,0,none⟩)) (Lib.byteCells t++Lib.byteCells s) w')(h2:Below (w.heap.size+1) wr w'):KwI w u b (t++s) w' :=
 ⟨by rw[Lib.byteCells_append];exact .inr h1,h.2.trans h2⟩
theorem KwI.drew{w:World}{u:Value}{b:Bool}{t:List UInt8}{wr:World}(h:KwI w u b t wr):KwI w u b t wr.drew:=⟨h.1,h.2.drew⟩
theorem zya(x:Bool):(⟨(Lib.formatBool x).toArray⟩:ByteArray).extract 0 1=⟨#[if x then 116 else 102]⟩:=by cases x<;>kernel_rfl
theorem zyb(x:Bool):1<=(Lib.formatBool x).length:=by cases x<;>decide +kernel
theorem zep{l:List (List (Nat×Bool))}{k:Nat}(h:k<l.length):(l.take (k+1)).flatMap qea=(l.take k).flatMap qea++l[k].flatMap stB++[59]:=by rw[jK h,List.flatMap_append];simp[q6z]
theorem zpd{x:List (Nat×Bool)}{j:Nat}(h:j<x.length):(x.take (j+1)).flatMap stB=(x.take j).flatMap stB++(qyz x[j].1++[if x[j].2 then 116 else 102]):=by rw[jK h,List.flatMap_append];simp[stB]
theorem KwI.word{w:World}{u:Value}{b:Bool}{t:List UInt8}{wr:World}(h:KwI w u b t wr){y:Nat}{dA:ByteArray}(hd:dA=⟨(Lib.decDigits y).toArray⟩)(hy:y<100)(hl:t.length<1000000)(Q:Ending->World->Prop)(hQ:∀W1,KwI w u b (t++qyz y) W1->Lib.OthersKept 5 (some (w.heap.size+1)) wr W1->Q (.returned (.tuple #[.int .i64 dA.size,.nilIface])) W1) :
  Calls Tryz.prog 102 #[.pointer (some ⟨w.heap.size+1,0,none⟩),.string dA] wr Q:=by
 refine(Any.Builder_WriteString_k z5m z1s (w.heap.size+1) (w.heap.size+1) _ _ _ h.1 ?_ (by have:=h.lt;omega)).mono ?_
 .rw[Lib.byteCells_length,hd,qwf hy];have:(qyz y).length<=2:=by unfold qyz;split<;>simp
  have:(⟨(qyz y).toArray⟩:ByteArray).size=(qyz y).length:=by simp[ByteArray.size]
  omega
 rintro e W1 ⟨rfl,h1,b1,k1⟩;rw[hd,show Lib.strCells ⟨(Lib.decDigits y).toArray⟩=Lib.byteCells (Lib.decDigits y)from rfl,qwf hy]at h1;exact hQ W1 (h.put h1 b1) k1
theorem KwI.text1{w:World}{u:Value}{b:Bool}{t:List UInt8}{wr:World}(h:KwI w u b t wr){cA:ByteArray}{c:UInt8}(hc:cA=⟨#[c]⟩)(hl:t.length<1000000)(Q:Ending->World->Prop)(hQ:∀W1,KwI w u b (t++[c]) W1->Q (.returned (.tuple #[.int .i64 cA.size,.nilIface])) W1) :
  Calls Tryz.prog 102 #[.pointer (some ⟨w.heap.size+1,0,none⟩),.string cA] wr Q:=by
 subst hc;refine(Any.Builder_WriteString_k z5m z1s (w.heap.size+1) (w.heap.size+1) _ _ _ h.1 ?_ (by have:=h.lt;omega)).mono ?_
 .rw[Lib.byteCells_length];have:(⟨#[c]⟩:ByteArray).size=1:=rfl;omega
 rintro e W1 ⟨rfl,h1,b1,k1⟩;exact hQ W1 (h.put (s:=[c]) h1 b1)
theorem KwI.semi{w:World}{u:Value}{b:Bool}{t:List UInt8}{wr:World}(h:KwI w u b t wr)(hl:t.length<1000000)(Q:Ending->World->Prop)(hQ:∀W1,KwI w u b (t++[59]) W1->Q (.returned .nilIface) W1) :
  Calls Tryz.prog 105 #[.pointer (some ⟨w.heap.size+1,0,none⟩),.int .u8 59] wr Q:=by
 refine(Any.Builder_WriteByte_k z7c z1s (w.heap.size+1) (w.heap.size+1) _ 59 _ h.1 ?_ (by have:=h.lt;omega)).mono ?_
 .rw[Lib.byteCells_length];omega
 rintro e W1 ⟨rfl,h1,b1,k1⟩;exact hQ W1 (h.put (s:=[59]) h1 b1)
theorem KwI.text{w:World}{u:Value}{b:Bool}{t:List UInt8}{wr:World}(h:KwI w u b t wr)(Q:Ending->World->Prop)(hQ:∀W1,KwI w u b t W1->Q (.returned (.string ⟨t.toArray⟩)) W1) :
  Calls Tryz.prog 106 #[.pointer (some ⟨w.heap.size+1,0,none⟩)] wr Q:=by
 refine(Any.Builder_String_any_k z7d z1s (w.heap.size+1) (w.heap.size+1) _ _ h.1 (by have:=h.lt;omega)).mono ?_;rintro e W1 ⟨rfl,h1,b1,-⟩;exact hQ W1 ⟨h1,h.2.trans b1⟩
theorem zhh(x:Bool)(w:World):Calls Tryz.prog 104 #[.bool x] w fun e w'=>e=.returned (.string ⟨(Lib.formatBool x).toArray⟩)/\w'=w:=Any.strconv_FormatBool z7e x w
theorem zij(y:Nat)(hy:y<100)(w:World):Calls Tryz.prog 103 #[.int .i64 y] w fun e w'=>e=.returned (.string ⟨(Lib.decDigits y).toArray⟩)/\w'=w:=Any.strconv_Itoa_small z7f y hy w
theorem zso(b:Bool):Lib.formatBool b=zrv b:=by cases b<;>kernel_rfl
theorem znu(l:List (List (Nat×Bool)))(b:Bool)(u:Value)(w:World)(hu:AtW w l u)(hl:l.length<100)(hx:∀x∈l,x.length<1000/\∀y∈x,y.1<100) :
  Calls Tryz.prog 69 #[.agg #[u,.bool b]] w fun e w'=>e=.returned (.string ⟨(q8h l b).toArray⟩)/\Below w.heap.size w w':=by
 obtain⟨a,cap,rfl,ha⟩:=hu
 go_enter Tryz.func69,Tryz.ntmps69
 go_wp2
 go_loopw [11] (fun i wr=>∃k:Nat,k<=l.length/\i=.int .i64 k/\KwI w (.slice a l.length cap) b ((l.take k).flatMap qea) wr) (fun i _=>l.length-(intOf i).toNat)
 case atStart =>
  refine⟨0,Nat.zero_le _,rfl,?_,?_⟩
  .have:=Lib.fresh_isBuilder 183 5 (w.alloc (.cells #[.slice a l.length cap,.bool b] 49));simp only[World.size_alloc]at this;exact Lib.IsBuilderF.of this
  .exact(Below.refl _ _).alloc (by simp) _
 case round =>
  obtain⟨k,hk,rfl,hI⟩:=hrel;by_cases hlt:k<l.length
  .obtain⟨blk,off,rfl,hc⟩:=ha (by intro h;rw[h]at hlt;cases hlt);obtain⟨v,hv,x0,xc,rfl,hxc⟩:=hc k l[k] (jA hlt);have hv':=hI.cell hv;have hlti:(k:Int)<l.length:=by omega
   have hxk:=hx l[k] (jH hlt);have HI:Hid (KwI w (.slice (some ⟨blk,off,none⟩) l.length cap) b ((l.take k).flatMap qea) wr):=hI;have HX:Hid (∀x∈l,x.length<1000/\∀y∈x,y.1<100):=hx;have HXK:Hid (l[k].length<1000/\∀y∈l[k],y.1<100):=hxk;have HXC:Hid (l[k]≠[]->∃blk off,x0=some ⟨blk,off,none⟩/\∀(j:Nat) (x:Nat×Bool),l[k][j]?=some x->w.cell? ⟨blk,off+2*j,none⟩=some (.int .i64 x.1)/\w.cell? ⟨blk,off+2*j+1,none⟩=some (.bool x.2)):=hxc;clear hxc hc ha hI hx hxk hv
   go_wp2
   obtain⟨wo,rfl⟩:∃wo:World,wo=wr:=⟨_,rfl⟩
   go_loopw [17] (fun i wq=>∃j:Nat,j<=l[k].length/\i=.int .i64 j/\KwI w (.slice (some ⟨blk,off,none⟩) l.length cap) b ((l.take k).flatMap qea++(l[k].take j).flatMap stB) wq) (fun i _=>l[k].length-(intOf i).toNat)
   case atStart=>exact⟨0,Nat.zero_le _,rfl,by simpa using HI.out⟩
   case round =>
    obtain⟨j,hj,rfl,hJ⟩:=hrel;by_cases hjt:j<l[k].length
    .as_aux_lemma =>
     obtain⟨b2,o2,rfl,hc2⟩:=HXC.out (by intro h;rw[h]at hjt;cases hjt);obtain⟨c0,c1⟩:=hc2 j l[k][j] (jA hjt);have c0':wr.cell? ⟨b2,o2+j*2,none⟩=some (.int .i64 l[k][j].1):=by rw[Nat.mul_comm];exact hJ.cell c0
     have c1':wr.cell? ⟨b2,o2+j*2+1,none⟩=some (.bool l[k][j].2):=by rw[Nat.mul_comm];exact hJ.cell c1
     have hjti:(j:Int)<l[k].length:=by omega
     have hy:l[k][j].1<100:=HXK.out.2 _ (jH hjt);have HJ:Hid (KwI w (.slice (some ⟨blk,off,none⟩) l.length cap) b ((l.take k).flatMap qea++(l[k].take j).flatMap stB) wr):=hJ;clear hJ hc2 c0 c1;obtain⟨dA,hdA⟩:∃x:ByteArray,x=⟨(Lib.decDigits l[k][j].1).toArray⟩:=⟨_,rfl⟩
     have hI:∀w:World,Calls Tryz.prog 103 #[.int .i64 l[k][j].1] w fun e w'=>e=.returned (.string dA)/\w'=w:=by rw[hdA];exact zij _ hy
     have HDA:Hid (dA=⟨(Lib.decDigits l[k][j].1).toArray⟩):=hdA;clear hdA
     go_wp2_with (go_at_call 103;refine(hI _).mono ?_;rintro e w' ⟨rfl,rfl⟩)
     have hB1:=HJ.out.alloc (.cells #[.int .i64 l[k][j].1,.bool l[k][j].2] 69);have hsz:((l.take k).flatMap qea++(l[k].take j).flatMap stB).length<=310000:=by have q1:=qpf (l.take k) fun x hx=>(HX.out x (List.mem_of_mem_take hx)).1;have q2:=qvt (l[k].take j);have q3:=HXK.out.1;rw[List.length_take]at q1 q2;rw[jF];omega
     refine hB1.word HDA.out hy (by omega) _ ?_;intro W1 hB2 k1;have g1:W1.heap[wr.heap.size]?=some (.cells #[.int .i64 l[k][j].1,.bool l[k][j].2] 69):=k1 _ _ (heap_alloc_new wr _) (by have:=HJ.out.lt;simp;omega) (by intro c fz h;injection h with _ h _;exact absurd h (by decide));have g2:W1.cell? ⟨wr.heap.size,1,none⟩=some (.bool l[k][j].2):=by rw[Lib.cell_of_heap g1];rfl
     have HB2:Hid (KwI w (.slice (some ⟨blk,off,none⟩) l.length cap) b ((l.take k).flatMap qea++(l[k].take j).flatMap stB++qyz l[k][j].1) W1):=hB2;clear hB2 k1 hB1 g1;have hst:=zpd hjt;obtain⟨cB,hcB⟩:∃c:UInt8,c=if l[k][j].2 then 116 else 102:=⟨_,rfl⟩
     obtain⟨fA,hfA⟩:∃x:ByteArray,x=⟨(Lib.formatBool l[k][j].2).toArray⟩:=⟨_,rfl⟩
     obtain⟨cA,hcA⟩:∃x:ByteArray,x=⟨#[cB]⟩:=⟨_,rfl⟩
     have hfx:fA.extract 0 1=cA:=by rw[hfA,hcA,hcB];exact zya _
     have hgx:1<=fA.size:=by rw[hfA];simpa[ByteArray.size]using zyb l[k][j].2
     have hF:∀w:World,Calls Tryz.prog 104 #[.bool l[k][j].2] w fun e w'=>e=.returned (.string fA)/\w'=w:=by rw[hfA];exact zhh _
     rw[<-hcB]at hst;have HST:Hid ((l[k].take (j+1)).flatMap stB=(l[k].take j).flatMap stB++(qyz l[k][j].1++[cB])):=hst;have HCA:Hid (cA=⟨#[cB]⟩):=hcA;clear hst hcB hfA hcA
     go_wp2_with (go_at_call 104;refine(hF _).mono ?_;rintro e w' ⟨rfl,hw'⟩;rw[hw'];clear hw')
     refine HB2.out.text1 HCA.out (by have:(qyz l[k][j].1).length<=2:=(by unfold qyz;split<;>simp);rw[jF];omega) _ ?_;intro W2 hB3;rw[List.append_assoc,List.append_assoc,<-HST.out]at hB3;have HB3:Hid (KwI w (.slice (some ⟨blk,off,none⟩) l.length cap) b ((l.take k).flatMap qea++(l[k].take (j+1)).flatMap stB) W2):=hB3;clear hB3;have wj:wrap64 ((j:Int)+1)=(j:Int)+1:=by have:=HXK.out.1;unfold wrap64;omega
     go_wp2
     go_roundw
     case rel=>exact⟨j+1,by omega,by simp[wj],HB3.out⟩
     case measure =>
      show l[k].length-(intOf (.int .i64 (wrap64 ((j:Int)+1)))).toNat<l[k].length-(intOf (.int .i64 (j:Int))).toNat
      rw[wj];simp only[intOf];omega
    .as_aux_lemma =>
     have hje:j=l[k].length:=by omega
     subst hje;rw[List.take_length]at hJ;have hjti:¬(l[k].length:Int)<l[k].length:=by omega
     have HJ:Hid (KwI w (.slice (some ⟨blk,off,none⟩) l.length cap) b ((l.take k).flatMap qea++l[k].flatMap stB) wr):=hJ;clear hJ;have hsz:((l.take k).flatMap qea++l[k].flatMap stB).length<1000000:=by have q1:=qpf (l.take k) fun x hx=>(HX.out x (List.mem_of_mem_take hx)).1;have q2:=qvt l[k];have q3:=HXK.out.1;rw[List.length_take]at q1;rw[jF];omega
     have hst:=zep hlt;rw[List.append_assoc]at hst;have HST:Hid ((l.take (k+1)).flatMap qea=(l.take k).flatMap qea++(l[k].flatMap stB++[59])):=hst;clear hst
     go_wp2_with (go_at_call 105;refine HJ.out.semi hsz _ ?_)
     intro W2 hB3;rw[<-HST.out]at hB3;have HB3:Hid (KwI w (.slice (some ⟨blk,off,none⟩) l.length cap) b ((l.take (k+1)).flatMap qea) W2):=hB3;clear hB3;have wk:wrap64 ((k:Int)+1)=(k:Int)+1:=by unfold wrap64;omega
     go_wp2
     go_roundw
     case rel=>exact⟨k+1,by omega,by simp[wk],HB3.out⟩
     case measure =>
      show l.length-(intOf (.int .i64 ((k:Int)+1))).toNat<l.length-(intOf (.int .i64 (k:Int))).toNat
      simp only[intOf];omega
  .as_aux_lemma =>
   have hke:k=l.length:=by omega
   subst hke;rw[List.take_length]at hI;have hjti:¬(l.length:Int)<l.length:=by omega
   have HI:Hid (KwI w (.slice a l.length cap) b (l.flatMap qea) wr):=hI;have g0:=hI.box0;have g1:=hI.box1;clear hI;have HX:Hid (∀x∈l,x.length<1000/\∀y∈x,y.1<100):=hx;clear hx ha
   go_wp2
   obtain⟨tB,htB⟩:∃x:ByteArray,x=⟨(l.flatMap qea).toArray⟩:=⟨_,rfl⟩
   obtain⟨fB,hfB⟩:∃x:ByteArray,x=⟨(Lib.formatBool b).toArray⟩:=⟨_,rfl⟩
   have hF:∀w:World,Calls Tryz.prog 104 #[.bool b] w fun e w'=>e=.returned (.string fB)/\w'=w:=by rw[hfB];exact zhh b
   have hT:∀Q:Ending->World->Prop,(∀W1,KwI w (.slice a l.length cap) b (l.flatMap qea) W1->Q (.returned (.string tB)) W1)->Calls Tryz.prog 106 #[.pointer (some ⟨w.heap.size+1,0,none⟩)] wr.drew Q:=by rw[htB];exact HI.out.drew.text
   have hsum:(tB.size:Int)+fB.size<=9223372036854775807:=by
    have q1:=qpf l fun x hx=>(HX.out x hx).1;have q2:tB.size=(l.flatMap qea).length:=by rw[htB];simp[ByteArray.size]
    have q3:fB.size<=5:=by rw[hfB];cases b<;>decide +kernel
    omega
   have hsum2:¬9223372036854775807<(tB.size:Int)+fB.size:=by omega
   have HTB:Hid (tB=⟨(l.flatMap qea).toArray⟩):=htB;have HFB:Hid (fB=⟨(Lib.formatBool b).toArray⟩):=hfB;clear htB hfB
   go_region_with (first | (go_at_call 106;refine hT _ ?_;intro W2 hB3;have g2:=hB3.box1;have HB3:Hid (KwI w (.slice a l.length cap) b (l.flatMap qea) W2):=hB3;clear hB3) | (go_at_call 104;refine(hF _).mono ?_;rintro e w' ⟨rfl,hw'⟩;rw[hw'];clear hw'))
   all_goals go_wp2
   all_goals go_ret
   all_goals
    refine⟨?_,?_⟩
    .show Ending.returned (.string (tB++fB))=_;rw[HTB.out,HFB.out,zso];congr 2
    .have h:=HB3.out.2.mono (show w.heap.size<=w.heap.size+1 by omega);exact((Below.refl w.heap.size w).alloc (jD _) _).trans h
theorem z3d:zqx Tryz.prog 69:=⟨⟨_,Tryz.func69,by decide,by kernel_rfl⟩,fun l b u w h1 h2 h3=>znu l b u w h1 h2 h3⟩
theorem z4r:∀f g,pg0 f=some g->∃fn fresh raw md,Tryz.prog.funcs[qls f]?=some fn/\zwg Tryz.prog fresh raw fn md=some g:=by
 intro f g h;have h2:cF f=some g:=by
  unfold pg0 at h;split at h
  .rename_i e;rw[<-h];exact zhk z0a e
  .exact h
 unfold cF at h2;change (Tryz.prog.funcs[qls f]?).bind _=_ at h2;cases e:Tryz.prog.funcs[qls f]? with
 | none=>rw[e]at h2;cases h2
 | some fn=>rw[e]at h2;exact⟨fn,_,_,_,rfl,h2⟩
theorem made:Made Tryz.prog pg:=by
 intro f g h;unfold pg at h;split at h
 .rename_i e;cases Nat.eq_of_beq_eq_true e;cases h;exact .inr (.inl ⟨rfl,by decide,z4z⟩)
 split at h
 .rename_i e;cases Nat.eq_of_beq_eq_true e;cases h;exact .inr (.inr ⟨rfl,by decide,z3d⟩)
 exact .inl (z4r f g h)
end Go.Proofs.YtggbaapfbgjaeaaGreatDoor
