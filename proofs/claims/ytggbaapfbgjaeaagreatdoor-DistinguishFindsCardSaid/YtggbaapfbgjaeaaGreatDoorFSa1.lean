/- States: how. -/
import Derived.Test.YtggbaapfbgjaeaaGreatDoorFFy5
import Derived.Test.YtggbaapfbgjaeaaGreatDoorFEn6
set_option linter.all false
namespace Go.Proofs.YtggbaapfbgjaeaaGreatDoor
open Go Go.Am Go.Proofs
set_option maxRecDepth 100000
theorem zih{c:Ct}(hfew:c.small=true)(k i:Int):(q8f c k i).small=true:=by
 unfold q8f qwz;by_cases h1:q2c c k i=0
 .rw[if_pos h1];by_cases h2:(qcz c k i).d.check=0
  .rw[if_pos h2,if_pos rfl];exact qmv hfew (qkp h1).1 k i
  .rw[if_neg h2,if_neg (by omega)];rfl
 .rw[if_neg h1,if_neg h1];rfl
mutual
theorem qrw(n v:Int):∀x:Ex,x.repl n v=x<->x.had n=false
 | .mk o i l=>by
  rw[Ex.repl,Ex.had];by_cases h:o=1/\i=n
  .rw[if_pos h,if_pos h,Ex.mk.injEq];exact⟨fun e=>by have:=e.1;omega,fun e=>by cases e⟩
  .rw[if_neg h,if_neg h,Ex.mk.injEq,q0r n v l];simp
theorem q0r(n v:Int):∀l:List Ex,qtl n v l=l<->qzt n l=false
 | []=>by rw[qtl,qzt];simp
 | x :: l=>by rw[qtl,qzt,List.cons.injEq,qrw n v x,q0r n v l,Bool.or_eq_false_iff]
end
theorem ev119(b:Bool):ev pg (.call (fnq 119) [.bool b] [])=some (rvq ((Ex.mk 0 (if b=true then 1 else 0) []).v)):=by rw[qaa,pg119.1];cases b<;>simp[ir119,Ex.op,Ex.idx,Ex.args]
mutual
def Ex.put(l:List Ex):Ex->Ex
 | .mk o i a=>if o=1 then(l[i.toNat]?).getD (.mk 0 0 [])else .mk o i (q6c l a)
def q6c(l:List Ex):List Ex->List Ex
 | []=>[]
 | x :: a=>x.put l :: q6c l a
end
theorem zqj(l:List Ex)(x:Ex):x.put l=if x.op=1 then(l[x.idx.toNat]?).getD (.mk 0 0 [])else .mk x.op x.idx (q6c l x.args):=by cases x;rw[Ex.put];rfl
theorem qtg(l:List Ex):∀a:List Ex,q6c l a=a.map (Ex.put l)
 | []=>rfl
 | x :: a=>by rw[q6c,qtg l a];rfl
abbrev zuk(x:Ex)(g m len:Nat)(rows:List (List V)):H:=[⟨0,.box x.cells⟩,⟨0,.arr 0 []⟩,⟨0,.box [num 0,num 0,.sl 1 0 0 0 0]⟩,⟨0,.arr 0 []⟩,⟨0,.box [num x.op,num x.idx,.sl 5 g m 0 len]⟩,⟨g,.arr m rows⟩]
structure Keep97(l:List Ex)(k:Nat)(st:List V):Prop where
 nn:qaq st
 len:st.length=40
 t1:qah st 1=.imm (l.map Ex.row)
 t2:qah st 2=.bptr 0 0
 t4:qah st 4=.bptr 2 0
 t5:qah st 5=.bptr 4 0
 t6:qah st 6=num k
def I97(l:List Ex)(x:Ex)(k:Nat)(st:St):Prop:=∃g m,st.h=zuk x g m k ((x.args.take k).map fun y=>(y.put l).row)/\(m=3\/m=0)/\Keep97 l k st.s
def Q97(l:List Ex)(x:Ex)(q:Am.R):Prop:=q.x=.exit 0/\∃g m,q.st.h=zuk x g m x.args.length (x.args.map fun y=>(y.put l).row)/\(m=3\/m=0)/\Keep97 l x.args.length q.st.s
theorem zzc(l:List Ex)(x:Ex)(hx:x.nodes<=256)(ih:∀y∈x.args,ev pg (.call (fnq 157) [y.v,.imm (l.map Ex.row)] [])=some (rvq ((y.put l).v)))(st:St)(h0:I97 l x 0 st):∃q,ev pg (.code (.going 6 L157_0) st)=some q/\Q97 l x q:=by
 have hfew:=qfk hx;refine qat (I97 l x) x.args.length (Q97 l x) h0 ?_ ?_
 .rintro k ⟨s,hh⟩ hk ⟨g,m,rfl,hm,⟨hnn,hl,e1,e2,e4,e5,e6⟩⟩;simp only at hl e1 e2 e4 e5 e6;have hnl:∀j,qah s j ≠ .nils:=qap hnn;have hk':(k:Int)<x.args.length:=by omega
  have wk:=qbc k;have hi:=ih x.args[k] (jH hk);have hsn:(x.args.take (k+1)).map (fun y=>(y.put l).row)=(x.args.take k).map (fun y=>(y.put l).row)++[(x.args[k].put l).row]:=by rw[jK hk,List.map_append];rfl
  have hln:((x.args.take k).map fun y=>(y.put l).row).length=k:=by rw[List.length_map,List.length_take];omega
  have hb:(k+1)*40<=140737488355328:=by omega
  unfold I97;rw[hsn];generalize (x.args.take k).map (fun y=>(y.put l).row)=W at *;generalize x.args[k].put l=z at *;rw[qac hl];rcases hm with rfl | rfl
  .simp[qab,exT,qag,L157_0,List.range,List.range.loop,e1,e2,e4,e5,e6,hk,hk',hi,hln,hb,wk];exact⟨_,_,⟨rfl,rfl⟩,.inl rfl,by simp[qaq,hnl],rfl,rfl,rfl,rfl,rfl,rfl⟩
  .simp[qab,exT,qag,L157_0,List.range,List.range.loop,e1,e2,e4,e5,e6,hk,hk',hi,hln,hb,wk];exact⟨_,_,⟨rfl,rfl⟩,.inl rfl,by simp[qaq,hnl],rfl,rfl,rfl,rfl,rfl,rfl⟩
 .rintro⟨s,hh⟩ ⟨g,m,rfl,hm,⟨hnn,hl,e1,e2,e4,e5,e6⟩⟩;simp only at hl e1 e2 e4 e5 e6;have hnl:∀j,qah s j ≠ .nils:=qap hnn;rw[List.take_length];unfold Q97;generalize x.args.map (fun y=>(y.put l).row)=W at *;rw[qac hl];simp[L157_0,List.range,List.range.loop,e1,e2,e4,e5,e6];exact⟨_,_,⟨rfl,rfl⟩,hm,by simp[qaq,hnl],rfl,rfl,rfl,rfl,rfl,rfl⟩
theorem ev157(l:List Ex):∀x:Ex,x.nodes<=256->x.err l.length=0->ev pg (.call (fnq 157) [x.v,.imm (l.map Ex.row)] [])=some (rvq ((x.put l).v)):=by
 refine Ex.ind fun x ih hx he=>?_;obtain⟨hn,hargs⟩:=qhk he;rw[zqj];rw[qaa,pg157.1];by_cases ho:x.op=1
 .obtain⟨hi0,hi1⟩:=qju hn ho;have hb:(x.op==1)=true:=by simpa using ho
  have hin:x.idx.toNat<l.length:=by omega
  rw[if_pos ho];have hget:l[x.idx.toNat]?=some l[x.idx.toNat]:=jA hin;rw[hget,Option.getD_some];simp[ir157,hb,hi0,hin]
 .have hb:(x.op==1)=false:=by simpa using ho
  rw[if_neg ho,qtg];have hloop:=zzc l x hx (fun y hy=>ih y hy (by have:=qey hx hy;omega) (hargs y hy));have hI:∀st:St,(st.h=zuk x 0 0 0 []/\Keep97 l 0 st.s)->I97 l x 0 st:=fun st h=>⟨0,0,h.1,.inr rfl,h.2⟩
  unfold Q97 at hloop;have hmm:(x.args.map (Ex.put l)).map Ex.row=x.args.map fun y=>(y.put l).row:=by rw[List.map_map];rfl
  have hmn:(x.args.map fun y=>(y.put l).row).length=x.args.length:=by simp
  simp[ir157,hb,qai];generalize hr:ev pg (.code (.going _ L157_0) _)=o;obtain⟨q,rfl,hq,g,m,hh,hm,hk⟩:∃q,o=some q/\_:=by rw[<-hr];exact hloop _ (hI _ ⟨by simp,by simp[qaq],by simp,by simp,by simp,by simp,by simp,by simp⟩)
  have k4:=hk.t4;have k5:=hk.t5;have kl:=hk.len;have hrow:(x.args.map fun y=>(y.put l).cells)=(x.args.map (Ex.put l)).map Ex.row:=by rw[List.map_map];exact List.map_congr_left fun y _=>(q0v _).symm
  rcases hm with rfl | rfl
  .simp[hq,hh,k4,k5,kl];exact⟨rfl,rfl,hrow⟩
  .simp[hq,hh,k4,k5,kl];exact⟨rfl,rfl,hrow⟩
def q3o(n:Nat):List Ex:=(List.range n).map fun(i:Nat)=>.mk 1 i []
def zvm(n:Nat)(line:Nat)(v:Int):List Ex:=(q3o n).set line (.mk 0 v [])
theorem zks(n:Nat):q3o (n+1)=q3o n++[.mk 1 n []]:=by unfold q3o;rw[List.range_succ,List.map_append];rfl
theorem qvu(n:Nat):(q3o n).length=n:=by simp[q3o]
theorem zpg(n line:Nat)(v:Int):(zvm n line v).length=n:=by unfold zvm;rw[jU,qvu]
theorem zot(n:Nat)(line:Nat)(v:Int)(hline:line<n):∀x:Ex,x.err n=0->x.put (zvm n line v)=x.repl line v:=by
 refine Ex.ind fun x ih he=>?_;obtain⟨hn,hargs⟩:=qhk he;rw[zqj,zkb];by_cases ho:x.op=1
 .obtain⟨hi0,hi1⟩:=qju hn ho;have hin:x.idx.toNat<n:=by omega
  rw[if_pos ho];unfold zvm;by_cases hi:x.idx=line
  .have e:line=x.idx.toNat:=by omega
   rw[if_pos ⟨ho,hi⟩,e,jN (by rw[qvu];exact hin)];rfl
  .rw[if_neg (fun h=>hi h.2),jO (by omega)];unfold q3o;rw[List.getElem?_map,List.getElem?_range hin];have ha:x.args=[]:=List.length_eq_zero_iff.1 (q2t hn ho);rw[ha,ho,qtl];simp only[Option.map_some,Option.getD_some];rw[Int.toNat_of_nonneg hi0]
 .rw[if_neg ho,if_neg (fun h=>ho h.1),qtg,qyb];congr 1;exact List.map_congr_left fun y hy=>ih y hy (hargs y hy)
abbrev h66(x:Ex)(g m:Nat)(rows:List (List V)):H:=[⟨0,.box x.cells⟩,⟨0,.arr 0 []⟩,⟨0,.box [num 0,num 0,.sl 1 0 0 0 0]⟩,⟨g,.arr m rows⟩]
structure Keep66(x:Ex)(line n:Int)(b:Bool)(st:List V):Prop where
 nn:qaq st
 len:st.length=29
 t1:qah st 1=num line
 t2:qah st 2=.bool b
 t3:qah st 3=num n
 t4:qah st 4=.bptr 0 0
 t8:qah st 8=.bptr 2 0
def I66(x:Ex)(line:Int)(n:Nat)(b:Bool)(k:Nat)(st:St):Prop:=∃g m,st.h=h66 x g m ((q3o k).map Ex.row)/\(m=3\/(m=0/\k=0))/\Keep66 x line n b st.s/\qah st.s 9=.sl 3 g m 0 k/\qah st.s 10=num k
def Q66(x:Ex)(line:Int)(n:Nat)(b:Bool)(r:Am.R):Prop:=r.x=.exit 0/\∃g m,r.st.h=h66 x g m ((q3o n).map Ex.row)/\(m=3\/(m=0/\n=0))/\Keep66 x line n b r.st.s/\qah r.st.s 9=.sl 3 g m 0 n
theorem zyx(x:Ex)(line:Int)(n:Nat)(hn9:n<=256)(b:Bool)(st:St)(h0:I66 x line n b 0 st):∃r,ev pg (.code (.going 4 L115_0) st)=some r/\Q66 x line n b r:=by
 refine qat (I66 x line n b) n (Q66 x line n b) h0 ?_ ?_
 .rintro k ⟨s,hh⟩ hk ⟨g,m,rfl,hm,⟨hnn,hl,e1,e2,e3,e4,e8⟩,e9,e10⟩;simp only at hl e1 e2 e3 e4 e8 e9 e10;have hnl:∀j,qah s j ≠ .nils:=qap hnn;have wk:=qbc k;have hk':(k:Int)<n:=by omega
  have hsn:(q3o (k+1)).map Ex.row=(q3o k).map Ex.row++[(Ex.mk 1 k []).row]:=by rw[zks,List.map_append];rfl
  have hln:((q3o k).map Ex.row).length=k:=by rw[List.length_map,qvu]
  have hb:(k+1)*40<=140737488355328:=by omega
  unfold I66;rw[hsn];generalize (q3o k).map Ex.row=W at *;rw[qac hl];rcases hm with rfl | ⟨rfl,hk0⟩
  .simp[L115_0,List.range,List.range.loop,e1,e2,e3,e4,e8,e9,e10,hk',hln,hb,wk];exact⟨_,_,⟨rfl,rfl,rfl,rfl,rfl⟩,rfl,⟨by simp[qaq,hnl],rfl,rfl,rfl,rfl,rfl,rfl⟩,rfl,rfl⟩
  .simp[L115_0,List.range,List.range.loop,e1,e2,e3,e4,e8,e9,e10,hk',hln,hb,wk];exact⟨_,_,⟨rfl,rfl,rfl,rfl,rfl⟩,rfl,⟨by simp[qaq,hnl],rfl,rfl,rfl,rfl,rfl,rfl⟩,rfl,rfl⟩
 .rintro⟨s,hh⟩ ⟨g,m,rfl,hm,⟨hnn,hl,e1,e2,e3,e4,e8⟩,e9,e10⟩;simp only at hl e1 e2 e3 e4 e8 e9 e10;have hnl:∀j,qah s j ≠ .nils:=qap hnn;unfold Q66;generalize (q3o n).map Ex.row=W at *;rw[qac hl];simp[L115_0,List.range,List.range.loop,e1,e2,e3,e4,e8,e9,e10];exact⟨_,_,⟨rfl,rfl⟩,hm,⟨by simp[qaq,hnl],rfl,rfl,rfl,rfl,rfl,rfl⟩,rfl,rfl⟩
theorem ev115(x:Ex)(line n:Nat)(hline:line<n)(hn9:n<=256)(b:Bool)(hx:x.nodes<=256)(he:x.err n=0):ev pg (.call (fnq 115) [x.v,num line,.bool b,num n] [])=some (rvq ((x.repl line (if b=true then 1 else 0)).v)):=by
 have hloop:=zyx x line n hn9 b;have h70:=ev119 b;have h97:=ev157 (zvm n line (if b=true then 1 else 0)) x hx (by rw[zpg];exact he);rw[zot n line _ hline x he]at h97;have hI:∀st:St,(st.h=h66 x 0 0 []/\Keep66 x line n b st.s/\qah st.s 9=.sl 3 0 0 0 0/\qah st.s 10=num 0)->I66 x line n b 0 st:=fun st h=>⟨0,0,h.1,.inr ⟨rfl,rfl⟩,h.2.1,h.2.2.1,h.2.2.2⟩
 have hvar:(zvm n line (if b=true then 1 else 0)).map Ex.row=((q3o n).map Ex.row).set line [num 0,num (if b=true then 1 else 0),.imm []]:=by unfold zvm;rw[List.map_set];rfl
 have hget:((q3o n).map Ex.row)[line]?=some [num 1,num line,.imm []]:=by unfold q3o;rw[List.getElem?_map,List.getElem?_map,List.getElem?_range hline];rfl
 have hln:((q3o n).map Ex.row).length=n:=by rw[List.length_map,qvu]
 rw[hvar]at h97;unfold Q66 at hloop;generalize (q3o n).map Ex.row=W at *;generalize (if b=true then(1:Int)else 0)=bv at *;generalize x.repl line bv=z at *;rw[qaa,pg115.1];simp[ir115,qai];generalize hr:ev pg (.code (.going _ L115_0) _)=o;obtain⟨r,rfl,hq,g,m,hh,hm,hk,h9⟩:∃r,o=some r/\_:=by rw[<-hr];exact hloop _ (hI _ ⟨by simp,⟨by simp[qaq],by simp,by simp,by simp,by simp,by simp,by simp⟩,by simp,by simp⟩)
 have k1:=hk.t1;have k2:=hk.t2;have k4:=hk.t4;have k8:=hk.t8;have kl:=hk.len;have hgE:∀h:line<W.length,W[line]'h=[num 1,num line,.imm []]:=fun h=>by rw[jA h,jC]at hget;exact hget
 have e1:(Ex.mk 0 bv []).op=0:=rfl;have e2:(Ex.mk 0 bv []).idx=bv:=rfl;have e3:(Ex.mk 0 bv []).args=[]:=rfl;rcases hm with rfl | ⟨_,h0⟩
 .simp[hq,hh,k1,k2,k4,k8,kl,h9,h70,hline,hgE,hln,h97,e1,e2,e3]
 .omega
def I39(a b:List Int)(k:Nat)(st:St):Prop:=st.h=[]/\st.s.length=26/\qah st.s 0=.imm (a.map qbk)/\qah st.s 1=.imm (b.map qbk)/\qah st.s 5=num k/\decide (a=b)=decide (a.drop k=b.drop k)
def Q39(a b:List Int)(r:R):Prop:=r.st.s.length=26/\r.st.h=[]/\((r.x=.exit 0/\decide (a=b)=true)\/(r.x=.ret/\qah r.st.s 4=.bool false/\decide (a=b)=false))
theorem zyv(a b:List Int)(hab:b.length=a.length)(ha:a.length<=4096)(st:St)(h0:I39 a b 0 st):∃r,ev pg (.code (.going 0 L243_0) st)=some r/\Q39 a b r:=by
 refine qat (I39 a b) a.length (Q39 a b) h0 ?_ ?_
 .rintro k ⟨s,hh⟩ hk ⟨rfl,hl,e0,e1,e5,he⟩;simp only at hl e0 e1 e5;have hk':(k:Int)<a.length:=by omega
  have hkb:k<b.length:=by omega
  have wk:=qbc k;rw[jL hk,jL hkb]at he;rw[qac hl];by_cases hb:a[k]=b[k]
  .have he':decide (a=b)=decide (a.drop (k+1)=b.drop (k+1)):=by rw[he];simp only[List.cons.injEq,hb,true_and]
   simp[L243_0,I39,List.range,List.range.loop,e0,e1,e5,hk,hk',hkb,hb,wk];simpa using he'
  .have he':decide (a=b)=false:=by rw[he];simp only[List.cons.injEq,hb,false_and,decide_false]
   simp[L243_0,Q39,List.range,List.range.loop,e0,e1,e5,hk,hk',hkb,hb];simpa using he'
 .rintro⟨s,hh⟩ ⟨rfl,hl,e0,e1,e5,he⟩;simp only[List.drop_length]at hl e0 e1 e5 he;rw[show List.drop a.length b=[]by rw[<-hab];exact List.drop_length]at he;have he':decide (a=b)=true:=by rw[he];rfl
  rw[qac hl];simp[L243_0,Q39,List.range,List.range.loop,e0,e1,e5];simpa using he'
theorem ev243(a b:List Int)(ha:a.length<=4096):ev pg (.call (fnq 243) [.imm (a.map qbk),.imm (b.map qbk)] [])=some (rvq (.bool (decide (a=b)))):=by
 by_cases hab:b.length=a.length
 .have hloop:=zyv a b hab ha;have hab':(b.length:Int)=a.length:=by omega
  unfold Q39 at hloop;have hI:∀st:St,I39 a b 0 st<->(st.h=[]/\st.s.length=26/\qah st.s 0=.imm (a.map qbk)/\qah st.s 1=.imm (b.map qbk)/\qah st.s 5=num 0):=fun st=>by unfold I39;exact⟨fun h=>⟨h.1,h.2.1,h.2.2.1,h.2.2.2.1,h.2.2.2.2.1⟩,fun h=>⟨h.1,h.2.1,h.2.2.1,h.2.2.2.1,h.2.2.2.2,rfl⟩⟩
  generalize decide (a=b)=B at *;rw[qaa,pg243.1];simp[ir243,qai,hab'];generalize hr:ev pg (.code (.going _ L243_0) _)=o;obtain⟨r,rfl,hl,hh,hQ⟩:∃r,o=some r/\_:=by rw[<-hr];exact hloop _ ((hI _).2 ⟨by simp,by simp,by simp,by simp,by simp⟩)
  rcases hQ with⟨hx,rfl⟩ | ⟨hx,h4,rfl⟩
  .simp[hx,hh,hl]
  .simp[hx,h4]
 .have hd:decide (a=b)=false:=by
   rw[decide_eq_false_iff_not];intro e;exact hab (by rw[e])
  have hne:((a.length:Int) != (b.length:Int))=true:=by rw[bne_iff_ne];omega
  rw[hd,qaa,pg243.1];simp[ir243,hne]
end Go.Proofs.YtggbaapfbgjaeaaGreatDoor
namespace Go.Am
abbrev Tm:=List (Option V)
abbrev zN(n:Nat):Tm:=List.replicate n none
abbrev bN(n:Nat):Option V:=some (.bptr n 0)
abbrev nN(n:Int):Option V:=some (.int .i64 n)
attribute [simp] zN bN nN
def fill(f:Nat->V):Nat->Tm->List V
 | _,[]=>[]
 | i,some v :: t=>v :: fill f (i+1) t
 | i,none :: t=>f i :: fill f (i+1) t
def qft:Tm->List V->Prop
 | [],[]=>True
 | some v :: t,x :: s=>x=v/\qft t s
 | none :: t,x :: s=>x ≠ .nils/\qft t s
 | _,_=>False
def Junk(f:Nat->V):Prop:=∀i,f i ≠ .nils
theorem qra:∀{t:Tm} {s:List V} (n:Nat),qft t s->∃f,Junk f/\s=fill f n t
 | [],[],_,_=>⟨fun _=>.undef,fun _=>by simp,rfl⟩
 | [],_ :: _,_,h=>by simp[qft]at h
 | some _ :: _,[],_,h=>by simp[qft]at h
 | none :: _,[],_,h=>by simp[qft]at h
 | some v :: t,x :: s,n,h=>by obtain⟨rfl,h2⟩:=h;obtain⟨f,hf,rfl⟩:=qra (n+1) h2;exact⟨f,hf,rfl⟩
 | none :: t,x :: s,n,h=>by
  obtain⟨hx,h2⟩:=h;obtain⟨f,hf,rfl⟩:=qra (n+1) h2;refine⟨fun i=>if i=n then x else f i,fun i=>?_,?_⟩
  .simp only;split
   .exact hx
   .exact hf i
  .have:∀(t:Tm) (m:Nat),n<m->fill (fun i=>if i=n then x else f i) m t=fill f m t:=by
    intro t;induction t with
    | nil=>intro m _;rfl
    | cons o t ih =>
     intro m hm;cases o with
     | none=>simp only[fill,ih (m+1) (by omega)];rw[if_neg (by omega)]
     | some v=>simp only[fill,ih (m+1) (by omega)]
   simp only[fill,if_true];rw[this t (n+1) (by omega)]
structure At(T:Tm)(h:H)(st:St):Prop where
 s:qft T st.s
 h:st.h=h
theorem At.eq{T:Tm}{h:H}{st:St}(a:At T h st):∃f,Junk f/\st=⟨fill f 0 T,h⟩:=by obtain⟨f,hf,e⟩:=qra 0 a.s;refine⟨f,hf,?_⟩;obtain⟨s,h'⟩:=st;obtain rfl:h'=h:=a.h;obtain rfl:s=fill f 0 T:=e;rfl
theorem qcg{P:Prg}{nx:Nat}{c:C}{α:Type}(N:Nat)(T:Nat->α->Tm)(Hp:Nat->α->H)(G:Nat->α->Prop)(Q:R->Prop)
  (step:∀k a f,Junk f->k<N->G k a->∃r,ev P (.code c ⟨fill f 0 (T k a),Hp k a⟩)=some r/\((r.x=.normal/\∃a',G (k+1) a'/\At (T (k+1) a') (Hp (k+1) a') (qvg nx r.st))\/(r.x ≠ .normal/\Q r)))
  (last:∀a f,Junk f->G N a->∃r,ev P (.code c ⟨fill f 0 (T N a),Hp N a⟩)=some r/\r.x ≠ .normal/\Q r)
  {st:St} (a0:α) (g0:G 0 a0) (h0:At (T 0 a0) (Hp 0 a0) st):∃r,ev P (.code (.going nx c) st)=some r/\Q r:=by
 refine qat (fun k st=>∃a,G k a/\At (T k a) (Hp k a) st) N Q ⟨a0,g0,h0⟩ ?_ ?_
 .rintro k st hk ⟨a,g,h⟩;obtain⟨f,hf,rfl⟩:=h.eq;exact step k a f hf hk g
 .rintro st ⟨a,g,h⟩;obtain⟨f,hf,rfl⟩:=h.eq;exact last a f hf g
theorem qfn{P:Prg}{nx:Nat}{c:C}(N:Nat)(T:Nat->Tm)(Hp:Nat->H)(Q:R->Prop)
  (step:∀k f,Junk f->k<N->∃r,ev P (.code c ⟨fill f 0 (T k),Hp k⟩)=some r/\((r.x=.normal/\At (T (k+1)) (Hp (k+1)) (qvg nx r.st))\/(r.x ≠ .normal/\Q r)))
  (last:∀f,Junk f->∃r,ev P (.code c ⟨fill f 0 (T N),Hp N⟩)=some r/\r.x ≠ .normal/\Q r)
  {st:St} (h0:At (T 0) (Hp 0) st):∃r,ev P (.code (.going nx c) st)=some r/\Q r :=
 qcg (α:=Unit) N (fun k _=>T k) (fun k _=>Hp k) (fun _ _=>True) Q
  (fun k _ f hf hk _=>by
   obtain⟨r,e,h⟩:=step k f hf hk;refine⟨r,e,?_⟩;rcases h with⟨hx,h⟩ | h
   .exact .inl ⟨hx,(),trivial,h⟩
   .exact .inr h)
  (fun _ f hf _=>last f hf) () trivial h0
def qph(N:Nat)(p:Nat->Bool)(X:Nat->R->Prop)(Y:R->Prop)(r:R):Prop:=(∃k,k<N/\p k=true/\(∀j,j<k->p j=false)/\X k r)\/((∀j,j<N->p j=false)/\Y r)
theorem qdw{P:Prg}{nx:Nat}{c:C}(N:Nat)(p:Nat->Bool)(T:Nat->Tm)(h:H)(X:Nat->R->Prop)(Y:R->Prop)
  (go:∀k f,Junk f->k<N->p k=false->∃st,ev P (.code c ⟨fill f 0 (T k),h⟩)=some { st:=st }/\At (T (k+1)) h (qvg nx st))
  (hit:∀k f,Junk f->k<N->p k=true->∃r,ev P (.code c ⟨fill f 0 (T k),h⟩)=some r/\r.x ≠ .normal/\X k r)
  (last:∀f,Junk f->∃r,ev P (.code c ⟨fill f 0 (T N),h⟩)=some r/\r.x ≠ .normal/\Y r)
  {st:St} (h0:At (T 0) h st):∃r,ev P (.code (.going nx c) st)=some r/\qph N p X Y r:=by
 refine qcg (α:=Unit) N (fun k _=>T k) (fun _ _=>h) (fun k _=>∀j,j<k->p j=false) _ ?_ ?_ () (fun j hj=>absurd hj (Nat.not_lt_zero j)) h0
 .intro k _ f hf hk hp;cases hb:p k with
  | false =>
   obtain⟨st,e,ha⟩:=go k f hf hk hb;refine⟨_,e,.inl ⟨rfl,(),fun j hj=>?_,ha⟩⟩;by_cases hjk:j=k
   .rw[hjk];exact hb
   .exact hp j (by omega)
  | true =>obtain⟨r,e,hx,hX⟩:=hit k f hf hk hb;exact⟨r,e,.inr ⟨hx,.inl ⟨k,hk,hb,hp,hX⟩⟩⟩
 .intro _ f hf hp;obtain⟨r,e,hx,hY⟩:=last f hf;exact⟨r,e,hx,.inr ⟨hp,hY⟩⟩
def qar(x:X)(T:Tm)(h:H)(r:R):Prop:=∃f,Junk f/\r={ x:=x,st:=⟨fill f 0 T,h⟩ }
@[simp] theorem qbo{x x':X}{T:Tm}{h:H}{st:St}:qar x T h { x:=x',v:=.undef,st:=st }<->x'=x/\At T h st:=by
 constructor
 .rintro⟨f,hf,e⟩;injection e with e1 _ e3;subst e3;refine⟨e1,?_,rfl⟩;have:∀(t:Tm) (n:Nat),qft t (fill f n t):=by
   intro t;induction t with
   | nil=>intro n;trivial
   | cons o t ih =>
    intro n;cases o with
    | none=>exact⟨hf n,ih (n+1)⟩
    | some v=>exact⟨rfl,ih (n+1)⟩
  exact this T 0
 .rintro⟨rfl,h⟩;obtain⟨f,hf,rfl⟩:=h.eq;exact⟨f,hf,rfl⟩
theorem zxl{T:Tm}{h h':H}{s:List V}:At T h ⟨s,h'⟩<->qft T s/\h'=h:=⟨fun a=>⟨a.s,a.h⟩,fun a=>⟨a.1,a.2⟩⟩
attribute [simp] fill qft zxl
@[simp] theorem Junk.ne{f:Nat->V}(hf:Junk f)(i:Nat):(f i=.nils)=False:=by simp[hf i]
end Go.Am
namespace Go.Proofs.YtggbaapfbgjaeaaGreatDoor
open Go Go.Am Go.Proofs
set_option maxRecDepth 100000
abbrev qdc(l:List Bool):V:=.imm (l.map qfj)
structure Ste where
 ends:List Int
 valves:List Bool
 inputs:List Bool
 values:List Bool
 timers:List Int
abbrev Ste.cells(s:Ste):List V:=[qcr s.ends,qdc s.valves,qdc s.inputs,qdc s.values,qcr s.timers]
abbrev Ste.v(s:Ste):V:=.agg s.cells
def qfa:Ste:=⟨[],[],[],[],[]⟩
@[simp] theorem zxm(l:List Bool):qyw (l.map qfj) (l.map qfj)=true:=qjo (fun x=>by simp) l
def T48(a b:List Bool)(k:Nat):Tm:=[some (qdc a),some (qdc b),none,none,none,nN k]++zN 20
def z2l(a b:List Bool):Tm:=[some (qdc a),some (qdc b),none,none,some (.bool false)]++zN 21
theorem zyw(a b:List Bool)(hab:b.length=a.length)(ha:a.length<=4096){st:St}(h0:At (T48 a b 0) [] st):∃r,ev pg (.code (.going 0 L244_0) st)=some r/\qph a.length (fun k=>a[k]? != b[k]?) (fun _=>qar .ret (z2l a b) []) (qar (.exit 0) (T48 a b a.length) []) r:=by
 refine qdw _ _ (T48 a b) [] _ _ ?_ ?_ ?_ h0
 .intro k f hf hk hp;have hk':(k:Int)<a.length:=by omega
  have hkb:k<b.length:=by omega
  have wk:=qbc k;have hb:a[k]=b[k]:=by simpa[hk,hkb]using hp
  simp[T48,L244_0,hk,hk',hkb,hb,wk,hf.ne]
 .intro k f hf hk hp;have hk':(k:Int)<a.length:=by omega
  have hkb:k<b.length:=by omega
  have hb:a[k]≠b[k]:=by simpa[hk,hkb]using hp
  have hb':(a[k]==b[k])=false:=by simpa using hb
  simp[T48,z2l,L244_0,hk,hk',hkb,hb',hf.ne]
 .intro f hf;simp[T48,L244_0,hf.ne]
theorem ev244(a b:List Bool)(ha:a.length<=4096):ev pg (.call (fnq 244) [qdc a,qdc b] [])=some (rvq (.bool (decide (a=b)))):=by
 rw[qaa,pg244.1];by_cases hab:b.length=a.length
 .have hloop:=@zyw a b hab ha;have hab':(b.length:Int)=a.length:=by omega
  simp[ir244,qai,hab'];generalize hr:ev pg (.code (.going _ L244_0) _)=o;obtain⟨r,rfl,hQ⟩:∃r,o=some r/\_:=by rw[<-hr];exact hloop (by simp[T48])
  rcases hQ with⟨k,hk,hp,-,f,hf,rfl⟩ | ⟨hp,f,hf,rfl⟩
  .have:a≠b:=by rintro rfl;simp at hp
   simp[z2l,this]
  .have:a=b:=by
    refine List.ext_getElem hab.symm fun k h1 h2=>?_;have:=hp k h1;simpa[h1,h2]using this
   simp[T48,this]
 .have hne:((a.length:Int) != (b.length:Int))=true:=by rw[bne_iff_ne];omega
  have:a≠b:=fun e=>hab (by rw[e]);simp[ir244,hne,this]
end Go.Proofs.YtggbaapfbgjaeaaGreatDoor
