/- The law DetectBreaks returns true for every input, and leaves what cam. -/
import Derived.Test.YtbepbclaoohngaaGreatDt28
import Derived.KernelRfl
import Derived.Test.YtbepbclaoohngaaGreatRows
import Derived.Test.YtbepbclaoohngaaGreatMk1
import Derived.ProofKit
import Derived.WalkKit
import Derived.OpenShut
import Derived.ShutString
import Derived.ChangeOld
import Derived.Below
set_option linter.all false
namespace Go.Proofs.YtbepbclaoohngaaGreat
open Go Go.Am Go.Proofs
set_option maxRecDepth 100000
set_option maxHeartbeats 4000000
theorem ev36(l:List (Ste×Ste))(hl:l.length<=100000):ev pg (.call (.fn 36 [] []) [prs l] [])=some { v:=.sl 0 0 10 0 l.length,st:=⟨[],[⟨0,.arr 10 (l.map qcj)⟩]⟩ }:=by
 rw[qab,pg36]
 cases l with
 | nil=>simp[ir36,qcm,qeo,qrc,qee]
 | cons x l =>
  have hb:(l.length+1)*240<=140737488355328:=by simp only[List.length_cons]at hl;omega
  simp[ir36,hb,qcm,qeo,qrc,qee]
theorem ev35(c:Ct)(k i:Int)(D:List (Ste×Ste))(j:Nat)(hj:j<D.length)(hl:D.length<=100000):∃R,ev pg (.call (.fn 35 [] []) [.sl 2 0 10 0 D.length,num j,num (j+1:Nat)] [⟨0,.box c.cells⟩,⟨0,.box [num k,num i]⟩,⟨0,.arr 10 (D.map qcj)⟩])=some { v:=prs (D.take j++D.drop (j+1)),st:=⟨[],[⟨0,.box c.cells⟩,⟨0,.box [num k,num i]⟩,⟨1,.frz 10 R⟩]⟩ }:=by
 have hj':(j:Int)<D.length:=by omega
 have a1:((j:Int)==(j:Int)+1)=false:=by simp;omega
 have a2:¬(j:Int)=(j:Int)+1:=by omega
 have a0:(0:Int)<=(j:Int)+1:=by omega
 have a3:j<=D.length:=by omega
 have a4:j+1<=D.length:=by omega
 have a5:¬j=D.length:=by omega
 have a6:j+(D.length-(j+1))=D.length-1:=by omega
 have a7:(D.length-1)*240<=140737488355328:=by omega
 have a8:D.length-1<=D.length:=by omega
 have a9:j+1+(D.length-(j+1))<=D.length:=by omega
 have hT:List.take (D.length-(j+1)) (List.drop (j+1) (List.map qcj D))=List.drop (j+1) (List.map qcj D):=kD (by simp)
 have hs:qkv 10 (List.drop (j+1) (List.map qcj D))=true:=by
  unfold qkv
  rw[jP]
  intro r hr
  obtain⟨p,-,rfl⟩:=List.mem_map.1 (List.mem_of_mem_drop hr)
  rfl
 have hp:qby (List.drop (j+1) (List.map qcj D))=true:=by
  unfold qby
  rw[jP]
  intro r hr
  obtain⟨p,-,rfl⟩:=List.mem_map.1 (List.mem_of_mem_drop hr)
  rfl
 have b7:¬D.length-1=D.length:=by omega
 have b1:D.length-1+(D.length-(D.length-1))<=D.length:=by omega
 have b2:min j D.length=j:=by omega
 have b3:D.length-(D.length-1)=1:=by omega
 have b4:D.length-(j+1)+1=D.length-j:=by omega
 have b5:j+(D.length-j)=D.length:=by omega
 have b6:D.length-1+1=D.length:=by omega
 rw[qab,pg35]
 simp[-qkv,-qby,ir35,hT,hs,hp,hj,hj',a0,a1,a2,a3,a4,a5,a6,a7,a8,a9,b1,b2,b3,b4,b5,b6,b7]
 rw[<-List.append_assoc,List.take_append_of_le_length (by simp;omega),kD (by simp;omega)]
set_option maxHeartbeats 8000000
def T8z(D:List (Ste×Ste))(m:Nat):Tm:=[none,none,none,bN 0,bN 1,none,none,some (prs D)]++zN 67++[some (prs D),nN D.length,nN m]++zN 58
def T8r:Tm:=[none,none,none,none,none,none,some (.bool true)]++zN 129
theorem LieP.inps{w:Ct×Ct}(hW:Wld w){p:Ste×Ste}(h:LieP w p):p.1.inputs.length=w.1.inputs.length/\p.2.inputs.length=w.1.inputs.length:=by
 have a:=h.g.rdy.shp.i
 exact⟨a,by rw[(h.lens hW).1];exact a⟩
theorem jft(c d:Ct)(hW:Wld (c,d))(k i:Int)(hi:qhs c k i=0)(hd:qio c k i=d)(h0:(qap (c,d)).2.2=0)(s:Sr)(h:Fnds (c,d) 30 (qap (c,d)).1 s.D.length s)(hn:0<c.inputs.length)(R:List (List V)){st:St}(ha:At (T8z s.D 0) [⟨0,.box c.cells⟩,⟨0,.box [num k,num i]⟩,⟨1,.frz 10 R⟩] st) :
  ∃r,ev pg (.code (.going 3 L8_0) st)=some r/\qvn s.D.length (fun m=>decide (((s.D[m]?).getD qyq).2.inputs[0]?≠((s.D[0]?).getD qyq).1.inputs[0]?)) (fun _=>zlo .ret T8r) (qbn (.exit 0) (T8z s.D s.D.length) [⟨0,.box c.cells⟩,⟨0,.box [num k,num i]⟩,⟨1,.frz 10 R⟩]) r:=by
 have hmost:=h.most
 have hc:c.small=true:=hW.g
 have e12:=ev12
 have e36:=ev36 s.D (by omega)
 have h0D:0<s.D.length:=kB.2 h.ne
 have hL0:=h.lie s.D[0] (jH h0D)
 obtain⟨i0,-⟩:=hL0.inps hW
 have i0':0<s.D[0].1.inputs.length:=by rw[i0];exact hn
 have h0':(0:Int)<s.D.length:=by omega
 refine qem _ _ (T8z s.D) _ _ _ ?_ ?_ ?_ ha
 .intro m f hf hm hp
  have hm':(m:Int)<s.D.length:=by omega
  have wm:=qbs (k:=m) (by omega)
  have hLm:=h.lie s.D[m] (jH hm)
  obtain⟨-,im⟩:=hLm.inps hW
  have im':0<s.D[m].2.inputs.length:=by rw[im];exact hn
  have hp':s.D[m].2.inputs[0]=s.D[0].1.inputs[0]:=by simpa[hm,h0D,im',i0']using hp
  simp only at i0 im
  simp[T8z,L8_0,hm,hm',h0D,h0',i0,im,im',i0',hp',hn,wm,hf.ne]
 .intro m f hf hm hp
  have hm':(m:Int)<s.D.length:=by omega
  have hLm:=h.lie s.D[m] (jH hm)
  obtain⟨-,im⟩:=hLm.inps hW
  have im':0<s.D[m].2.inputs.length:=by rw[im];exact hn
  have hp':¬s.D[m].2.inputs[0]=s.D[0].1.inputs[0]:=by simpa[hm,h0D,im',i0']using hp
  have hpb:(s.D[m].2.inputs[0]==s.D[0].1.inputs[0])=false:=by simpa using hp'
  have hdif:difP (c,d) (s.D[0].1,s.D[m].2)=true:=by
   unfold difP
   have:¬s.D[0].1.inputs=s.D[m].2.inputs:=by
    intro e
    apply hp'
    simp only[e]
   simp[this]
  have e32:=ev32 c hc k i (s.D++[(s.D[0].1,s.D[m].2)]) (by simp;omega) (by
   intro q hq
   rcases jQ.1 hq with hq | hq
   .exact(h.lie q hq).small
   .rw[List.mem_singleton.1 hq]
    exact⟨hL0.small.g,hLm.small.b⟩)
  have hv:qnm c k i (s.D++[(s.D[0].1,s.D[m].2)])=15:=by
   unfold qnm
   rw[if_pos hi,hd]
   exact zps (by omega) h0 h (jH h0D) (jH hm) hdif
  rw[hv,show prs (s.D++[(s.D[0].1,s.D[m].2)])=V.imm (s.D.map qcj++[qcj (s.D[0].1,s.D[m].2)])from by simp]at e32
  have hb1:(s.D.length+1)*240<=140737488355328:=by omega
  have hsf:((List.map qcj s.D).all fun r=>r.all V.scal1)=false:=by
   rw[List.all_eq_false]
   refine⟨qcj s.D[0],List.mem_map.2 ⟨_,jH h0D,rfl⟩,by simp⟩
  simp only at i0 im
  simp[hsf,T8z,T8r,L8_0,qaa,exT,qak,hm,hm',h0D,h0',i0,im,im',i0',hp',hpb,hn,e36,e32,e12,hb1,hf.ne]
 .intro f hf
  simp[T8z,L8_0,hf.ne]
theorem ev8(c:Ct)(k i:Int)(n:Nat)(hn:n<256):ev pg (.call (.fn 8 [] []) [c.v,fv k i,.int .u8 n] [])=some { v:=.bool true,st:=⟨[],[]⟩ }:=by
 have e1:=ev30 c k i
 have e12:=ev12
 rw[qab,pg8]
 cases hf:c.few with
 | false =>
  rw[hf]at e1
  simp only[Bool.false_and]at e1
  simp[ir8,e1,e12]
 | true =>
  rw[hf]at e1
  by_cases hi:qhs c k i=0
  .have hs:=qqk hf
   have hW:=(qmr hs hi).1
   have e3:=ev15 c hs k i 30
   have hv:∀l,qnm c k i l=zfh (c,qio c k i) l:=fun l=>by unfold qnm;rw[if_pos hi]
   rw[qki hi]at e3
   simp only[hi,decide_true,Bool.and_true]at e1
   have e4:=ev32 c hs k i
   have q:=fun h0 s h hn R st=>jft c (qio c k i) hW k i hi rfl h0 s h hn R (st:=st)
   generalize hwd:(c,qio c k i)=w at *
   rcases q3j hW (most:=30) (by omega)with⟨h1,h2⟩ | ⟨h0,h1,h2⟩ | ⟨h0,h1,h2,hl,⟨s,h3,h4⟩ | ⟨run,h3,h4⟩⟩
   .generalize qdt w 30=x at *
    unfold zkd at e3
    rw[if_neg h1]at e3
    rcases h2 with h2 | h2<;>rw[h2]at e3<;>simp[ir8,e1,e3,e12]
   .rw[h1]at e3
    simp[zkd]at e3
    simp[ir8,e1,e3,e12]
   .rw[h3]at e3
    simp[zkd]at e3
    have hlen:=h4.most
    have h0D:0<s.D.length:=kB.2 h4.ne
    have e5:=e4 s.D (by omega) (fun q hq=>(h4.lie q hq).small)
    rw[hv,q7h (by omega) h0 h1 h4]at e5
    have hj:n % s.D.length<s.D.length:=Nat.mod_lt _ h0D
    have hmod:Int.tmod (n:Int) (s.D.length:Int)=((n % s.D.length:Nat):Int):=rfl
    have e6:=e4 (s.D.take (n % s.D.length)++s.D.drop (n % s.D.length+1)) (by simp;omega) (fun q hq=>(h4.lie q (q8o hq)).small)
    rw[hv,zpr (by omega) h0 h4 hj]at e6
    obtain⟨R,e7⟩:=ev35 c k i s.D _ hj (by omega)
    have e8:=ev36 s.D (by omega)
    have q':=q h0 s h4
    have wj:=qan (n:=((n % s.D.length:Nat):Int)+1) (by omega) (by omega)
    have wn:=qan (n:=(n:Int)) (by omega) (by omega)
    have n1:¬(s.D.length:Int)=0:=by omega
    have n2:((s.D.length:Int)==0)=false:=by simpa using n1
    clear q e4
    have hne:=h4.ne
    have hsf:((List.map qcj s.D).all fun r=>r.all V.scal1)=false:=by
     rw[List.all_eq_false]
     refine⟨qcj s.D[0],List.mem_map.2 ⟨_,jH h0D,rfl⟩,by simp⟩
    rw[Int.natCast_add,show((1:Nat):Int)=1 from rfl]at e7
    generalize s.D.take (n % s.D.length)++s.D.drop (n % s.D.length+1)=X at *
    generalize n % s.D.length=j at *
    by_cases hX:X=[]
    .subst hX
     rw[if_pos rfl]at e6
     by_cases hin:c.inputs.length=0
     .simp[ir8,e1,e3,e5,e6,e7,e8,e12,hne,hsf,n1,n2,wj,wn,hmod,hin]
     .have hin':¬(c.inputs.length:Int)=0:=by omega
      have hib:((c.inputs.length:Int)==0)=false:=by simpa using hin'
      simp[ir8,qam,e1,e3,e5,e6,e7,e8,e12,hne,hsf,n1,n2,wj,wn,hmod,hin',hib]
      generalize hr:ev pg (.code (.going _ L8_0) _)=o
      obtain⟨r,rfl,hQ⟩:∃r,o=some r/\_:=by rw[<-hr];exact q' (by omega) R _ (by simp[T8z])
      rcases hQ with⟨m,-,-,-,f,H,hf,rfl⟩ | ⟨-,f,hf,rfl⟩
      .simp[T8r]
      .simp[T8z,e12]
    .rw[if_neg hX]at e6
     have x1:¬(X.length:Int)=0:=by
      have:X.length≠0:=fun h=>hX (List.length_eq_zero_iff.1 h)
      omega
     have x2:((X.length:Int)==0)=false:=by simpa using x1
     by_cases hin:c.inputs.length=0
     .simp[ir8,e1,e3,e5,e6,e7,e8,e12,hne,hsf,n1,n2,wj,wn,hmod,hin,x1,x2,hX]
     .have hin':¬(c.inputs.length:Int)=0:=by omega
      have hib:((c.inputs.length:Int)==0)=false:=by simpa using hin'
      simp[ir8,qam,e1,e3,e5,e6,e7,e8,e12,hne,hsf,n1,n2,wj,wn,hmod,hin',hib,x1,x2,hX]
      generalize hr:ev pg (.code (.going _ L8_0) _)=o
      obtain⟨r,rfl,hQ⟩:∃r,o=some r/\_:=by rw[<-hr];exact q' (by omega) R _ (by simp[T8z])
      rcases hQ with⟨m,-,-,-,f,H,hf,rfl⟩ | ⟨-,f,hf,rfl⟩
      .simp[T8r]
      .simp[T8z,e12]
   .rw[h3]at e3
    simp[zkd]at e3
    simp[ir8,e1,e3,e12]
  .simp only[hi,decide_false,Bool.and_false]at e1
   simp[ir8,e1,e12]
end Go.Proofs.YtbepbclaoohngaaGreat
namespace Go.Proofs.YtbepbclaoohngaaGreat.detectBreaksDone
open Go Go.Am Go.Proofs Go.Proofs.YtbepbclaoohngaaGreat
open Go.ChangeShapes Go.WideShapes Go.ChangeAt Go.RowKit
set_option linter.unusedVariables false
theorem own:ownKnob Tryz.prog.godebug=none:=by kernel_rfl
theorem laidOut:laidOutB Tryz.prog=true:=by kernel_rfl
set_option maxRecDepth 100000 in
theorem lifted(os:Os)(started:os.Started)(H:Type)(enc:TypeId×Value->H) :
  ReturnsInHanded {} Tryz.checked os 8 .any (Rows.detectBreaksSpec.pre6 enc Tryz.prog Tryz.f8 Rows.detectBreaksRow.domain false) (Rows.detectBreaksSpec.post enc Tryz.prog Tryz.f8 false true false false):=by
 refine returnsInHanded_of_change (C:=Tryz.checked) own started (by kernel_rfl) Tryz.func8
  (ChangeSpec.witness6 (enc:=enc) (C:=Tryz.checked) false ⟨#[],#[.agg #[.int .i64 0,.slice none 0 0,.slice none 0 0,.slice none 0 0,.slice none 0 0],.agg #[.int .i64 0,.int .i64 0],.int .u8 0],[]⟩ 8 (by kernel_rfl) (by kernel_rfl) (by kernel_rfl) (by kernel_rfl)) ?_
 intro W base args ds gs before hval0 hW hcnd _
 have hval:∀(j:Nat) t v,Tryz.f8.params[j]?=some t->args[j]?=some v->Value.okWide Tryz.prog W .any base t v:=hval0
 have hW':=hW
 obtain⟨p,q,hA0,hV,rfl,hfz,hnd⟩:=hW
 have hA:DataW.TrodAll enc Tryz.prog W 0 (fun _=>true) true Tryz.f8.params.toList args.toList ds p:=hA0
 rw[Tryz.params8]at hA hval
 obtain⟨v0,vs0,d0,ds0,p0,q0,hargs,rfl,rfl,h0,r0⟩:=trodAll_cons hA
 obtain⟨v1,vs1,d1,ds1,p1,q1,rfl,rfl,rfl,h1,r1⟩:=trodAll_cons r0
 obtain⟨v2,vs2,d2,ds2,p2,q2,rfl,rfl,rfl,h2,r2⟩:=trodAll_cons r1
 obtain⟨rfl,rfl,rfl⟩:=trodAll_nil r2
 obtain rfl:args=#[v0,v1,v2]:=by cases args;simp_all
 obtain⟨rfl,rfl⟩:=trodVars_none hV
 have k0:=h0
 have k1:=h1
 have k2:=h2
 have lt0:∀x∈p0,x.block<W.heap.size:=by obtain⟨m,hm⟩:=k0;exact DataW.trod_lt m _ _ _ hm
 have lt1:∀x∈p1,x.block<W.heap.size:=by obtain⟨m,hm⟩:=k1;exact DataW.trod_lt m _ _ _ hm
 have lt2:∀x∈p2,x.block<W.heap.size:=by obtain⟨m,hm⟩:=k2;exact DataW.trod_lt m _ _ _ hm
 obtain⟨n0,x0,a0,b0⟩:=qmg qub (by decide:26∈_) (hval 0 26 v0 rfl rfl) h0
 obtain⟨n1,x1,a1,b1⟩:=qmg qub (by decide:28∈_) (hval 1 28 v1 rfl rfl) h1
 obtain⟨n2,x2,a2,b2⟩:=qmg qub (by decide:5∈_) (hval 2 5 v2 rfl rfl) h2
 obtain⟨y0,rfl⟩:∃c:Ct,x0=c.v:=by
  rcases b0 with⟨vs,rfl,ht⟩ | ⟨ha,_⟩
  .obtain⟨c,rfl⟩:=q3o ht
   exact⟨c,rfl⟩
  .rw[zsy]at ha
   cases ha
 obtain⟨y1,y1i,rfl⟩:∃k i:Int,x1=fv k i:=by
  rcases b1 with⟨vs,rfl,ht⟩ | ⟨ha,_⟩
  .obtain⟨k,i,rfl⟩:=q3q ht
   exact⟨k,i,rfl⟩
  .rw[zsz]at ha
   cases ha
 obtain⟨y2,hy2,rfl⟩:∃n:Nat,n<256/\x2=.int .u8 (n:Int):=by
  rcases b2 with⟨vs,rfl,ht⟩ | ⟨_,ht⟩
  .unfold rel at a2
   obtain⟨us,rfl,_⟩:=a2
   obtain⟨a,hh⟩:=okWide_int Tryz.underlying5 (hval 2 5 _ rfl rfl)
   cases hh
  .obtain⟨m,hm,h1,h2⟩:=zpo ht
   cases hm
   exact⟨m.toNat,by omega,by rw[Int.toNat_of_nonneg h1]⟩
 clear hA0 hval0
 have hr:=ev8 y0 y1 y1i y2 hy2
 refine(zii (us:=#[v0,v1,v2]) made (by unfold qai;exact⟨_,_,rfl,a0,by unfold qai;exact⟨_,_,rfl,a1,by unfold qai;exact⟨_,_,rfl,a2,by unfold qai;rfl⟩⟩⟩) hr rfl).mono fun e W' ⟨he,old⟩=>?_
 subst he
 exact⟨_,rfl,_,_,_,[],_,[],hW',trodAll_mk1 (shut_bool Tryz.underlying4 _),(trodAll_cons_mk (Old.trod laidOut (by kernel_rfl) (of_decide_eq_true (by kernel_rfl)) k0 old lt0) (trodAll_cons_mk (Old.trod laidOut (by kernel_rfl) (of_decide_eq_true (by kernel_rfl)) k1 old lt1) (trodAll_cons_mk (Old.trod laidOut (by kernel_rfl) (of_decide_eq_true (by kernel_rfl)) k2 old lt2) trodAll_mk0))),rfl,old.frame _,fun h=>by cases h⟩
end Go.Proofs.YtbepbclaoohngaaGreat.detectBreaksDone
