/- Strokes begun. -/
import Derived.Test.YtggbaapfbgjaeaaGreatDoorFAf1
import Derived.Test.YtggbaapfbgjaeaaGreatDoorFSv1
set_option linter.all false
namespace Go.Proofs.YtggbaapfbgjaeaaGreatDoor
open Go Go.Am Go.Proofs
set_option maxRecDepth 100000
theorem zno{c:Ct}{s:Ste}(hS:Shp c s)(x:Evn):(qek s x).ends.length=s.ends.length/\(qek s x).valves.length=s.valves.length/\(qek s x).inputs.length=s.inputs.length/\(qek s x).values.length=s.values.length/\(qek s x).timers.length=s.timers.length:=by
 unfold qek;split
 .simp
 .split
  .simp
  .simp
set_option maxHeartbeats 1000000 in
theorem ev187{c:Ct}{s:Ste}(h:Rdy c s)(x:Evn):ev pg (.call (fnq 187) [c.v,s.v,x.v] [])=some (rvq (zec (qee c s x))):=by
 have e60:=ev211 s h.small;obtain⟨kd,id,vl⟩:=x;obtain⟨l1,l2,l3,l4,l5⟩:=zno h.shp ⟨kd,id,vl⟩;unfold qee;rw[qaa,pg187.1];by_cases hlo:kd<0
 .rw[if_pos (.inl hlo)];simp[ir187,e60,hlo,qfa]
 .by_cases hhi:2<kd
  .rw[if_pos (.inr hhi)];have hhi':(3:Int)<=kd:=by omega
   simp[ir187,e60,hlo,hhi',qfa]
  .have hk:¬(kd<0\/2<kd):=by omega
   rw[if_neg hk];have e91:=ev218 h.shp id vl;have e92:=ev219 h.shp id vl;have e93:=ev220 h.shp id vl;have hkd:kd=0\/kd=1\/kd=2:=by omega
   rcases hkd with rfl | rfl | rfl
   .cases hm:qpz s ⟨0,id,vl⟩with
    | false =>rw[hm]at e91;simp only[Bool.false_eq_true,if_false]at e91;simp at e91;simp[qab,exT,qag,ir187,e60,e91,qfa]
    | true =>
     rw[hm]at e91;simp only[if_true]at e91;have hR:Rdy c (qek s ⟨0,id,vl⟩):=⟨h.few,qgh h.st hk hm⟩
     have e16:=ev132 c (qek s ⟨0,id,vl⟩) h.few hR.small;unfold quz at e16;rw[if_pos hR.st]at e16;generalize qek s ⟨0,id,vl⟩=u at *;generalize qjn c u=z at *;simp[l1,l2,l3,l4,l5]at e91;simp[qab,exT,qag,ir187,e60,e91,e16,l1,l2,l3,l4,l5]
   .cases hm:qpz s ⟨1,id,vl⟩with
    | false =>rw[hm]at e92;simp only[Bool.false_eq_true,if_false]at e92;simp at e92;simp[qab,exT,qag,ir187,e60,e92,qfa]
    | true =>
     rw[hm]at e92;simp only[if_true]at e92;have hR:Rdy c (qek s ⟨1,id,vl⟩):=⟨h.few,qgh h.st hk hm⟩
     have e16:=ev132 c (qek s ⟨1,id,vl⟩) h.few hR.small;unfold quz at e16;rw[if_pos hR.st]at e16;generalize qek s ⟨1,id,vl⟩=u at *;generalize qjn c u=z at *;simp[l1,l2,l3,l4,l5]at e92;simp[qab,exT,qag,ir187,e60,e92,e16,l1,l2,l3,l4,l5]
   .cases hm:qpz s ⟨2,id,vl⟩with
    | false =>rw[hm]at e93;simp only[Bool.false_eq_true,if_false]at e93;simp at e93;simp[qab,exT,qag,ir187,e60,e93,qfa]
    | true =>
     rw[hm]at e93;simp only[if_true]at e93;have hR:Rdy c (qek s ⟨2,id,vl⟩):=⟨h.few,qgh h.st hk hm⟩
     have e16:=ev132 c (qek s ⟨2,id,vl⟩) h.few hR.small;unfold quz at e16;rw[if_pos hR.st]at e16;generalize qek s ⟨2,id,vl⟩=u at *;generalize qjn c u=z at *;simp[l1,l2,l3,l4,l5]at e93;simp[qab,exT,qag,ir187,e60,e93,e16,l1,l2,l3,l4,l5]
def qcx(c:Ct)(s:Ste)(x:Evn):Ste×List Int×Int:=if quE c s=0 then qee c s x else(qfa,[],quE c s)
theorem ev135(c:Ct)(s:Ste)(hfew:c.small=true)(hs:s.small)(x:Evn):ev pg (.call (fnq 135) [c.v,s.v,x.v] [])=some (rvq (zec (qcx c s x))):=by
 have e49:=ev184 c s hfew hs;unfold qcx;rw[qaa,pg135.1];by_cases h:quE c s=0
 .have e61:=ev187 (zjz hfew h) x;rw[if_pos h];rw[h]at e49;generalize qee c s x=z at *;simp[ir135,e49,e61]
 .rw[if_neg h];have hb:(quE c s==0)=false:=by simpa using h
  generalize quE c s=e at *;simp[ir135,e49,h,hb,qfa]
def T62(x y:Ste)(k:Nat)(a:Nat×Nat):Tm:=[none,none,bN 0,bN 1,some (.sl 2 0 0 0 0),some (.sl 3 a.1 a.2 0 (qfd x y k).length),none,none,none,some (qcr y.ends),some (num y.ends.length),nN k]++zN 28
set_option maxHeartbeats 1000000 in
theorem z6w(x y:Ste)(hs:x.small)(he:y.ends.length=x.ends.length){st:St}(a0:Nat×Nat)(g0:gm2 a0)(h0:At (T62 x y 0 a0) (h64 x y 0 a0) st):∃r,ev pg (.code (.going 4 L183_0) st)=some r/\∃a,gm2 a/\qar (.exit 0) (T62 x y y.ends.length a) (h64 x y y.ends.length a) r:=by
 have hse:=hs.e;refine qcg y.ends.length (T62 x y) (h64 x y) (fun _ a=>gm2 a) _ ?_ ?_ a0 g0 h0
 .rintro k ⟨g,m⟩ f hf hk2 hG;have hk':(k:Int)<y.ends.length:=by omega
  have hk:k<x.ends.length:=by omega
  have wk:=qbc k;have hsl:=qhb x y k;have hp:qrb x y k=if(y.ends[k]=1\/y.ends[k]=3)/\x.ends[k]≠y.ends[k]then some ((k:Int),y.ends[k]==1)else none:=by unfold qrb;rw[jA hk,jA hk2]
  unfold T62 h64;rw[que,hp];generalize qfd x y k=B at *;have hb1:(B.length+1)*16<=140737488355328:=by omega
  have hmm:m=2\/m=0:=hG;by_cases h2:y.ends[k]=x.ends[k]
  .have h2s:¬x.ends[k]≠y.ends[k]:=fun h=>h h2.symm;rw[if_neg (fun h=>h2s h.2)];rcases hmm with rfl | rfl<;>simp[L183_0,hk,hk',hk2,wk,h2,hf.ne]
  .have h2b:(y.ends[k]==x.ends[k])=false:=by simpa using h2
   have h2n:(y.ends[k] != x.ends[k])=true:=by simpa using h2
   have h2s:x.ends[k]≠y.ends[k]:=fun h=>h2 h.symm;by_cases h1:y.ends[k]=1
   .rw[if_pos ⟨.inl h1,h2s⟩];rw[h1]at h2 h2b h2n;rcases hmm with rfl | rfl<;>simp[L183_0,hk,hk',hk2,wk,h1,h2,h2b,h2n,hb1,hf.ne]
   .have h1b:(y.ends[k]==1)=false:=by simpa using h1
    by_cases h3:y.ends[k]=3
    .rw[if_pos ⟨.inr h3,h2s⟩];rw[h3]at h2 h2b h2n;rcases hmm with rfl | rfl<;>simp[L183_0,hk,hk',hk2,wk,h3,h2,h2b,h2n,hb1,hf.ne]
    .have h3b:(y.ends[k]==3)=false:=by simpa using h3
     rw[if_neg (fun h=>h.1.elim h1 h3)];rcases hmm with rfl | rfl<;>simp[L183_0,hk,hk',hk2,wk,h1,h1b,h2,h2b,h2n,h3,h3b,hf.ne]
 .rintro⟨g,m⟩ f hf hG;unfold T62 h64;generalize qfd x y y.ends.length=B at *;have hmm:m=2\/m=0:=hG;rcases hmm with rfl | rfl<;>simp[L183_0,hf.ne]
theorem ev183(x y:Ste)(hs:x.small)(he:y.ends.length=x.ends.length):ev pg (.call (fnq 183) [x.v,y.v] [])=some (rvq (q3k (qmw x y))):=by
 have hl:=@z6w x y hs he;have z0:qfd x y 0=[]:=rfl;have z1:qfd x y y.ends.length=qmw x y:=by rw[he];rfl
 unfold h64 T62 at hl;rw[z0,z1]at hl;generalize qmw x y=B at *;rw[qaa,pg183.1];simp[ir183,qai];generalize hr:ev pg (.code (.going _ L183_0) _)=o;obtain⟨r,rfl,⟨g,m⟩,hm,f,hf,rfl⟩:∃r,o=some r/\_:=by rw[<-hr];exact hl (0,0) (.inr rfl) (by simp)
 clear hr;have hmm:m=2\/m=0:=hm;rcases hmm with rfl | rfl<;>simp
structure Crs.small(r:Crs):Prop where
 st:r.st.small
 len:r.strokes.length<=100000
 each:∀l∈r.strokes,l.length<=100000
 conf:r.conf.length<=4096
theorem zkk(c:Ct)(hc:c.check=0):qbz c=quz c (qeh c):=by unfold qbz quz;rw[if_pos hc,if_pos (qdi hc)]
end Go.Proofs.YtggbaapfbgjaeaaGreatDoor
namespace Go.Proofs.YtggbaapfbgjaeaaGreatDoor
open Go Go.Am Go.Proofs
set_option maxRecDepth 1000000
def one:Ct:=⟨1,[[115,116,97,114,116]],[⟨[109],1,.mk 3 0 [.mk 1 2 [],.mk 1 0 []],.mk 1 1 [],0,false⟩,⟨[103],0,.mk 2 0 [.mk 1 3 []],.mk 0 0 [],0,false⟩],[3],[4]⟩
def two:Ct:=⟨1,[[115,116,97,114,116]],[⟨[109],1,.mk 3 0 [.mk 1 2 [],.mk 1 0 []],.mk 1 1 [],0,false⟩,⟨[103],0,.mk 2 0 [.mk 1 3 []],.mk 0 0 [],0,false⟩],[3],[3]⟩
@[simp] theorem zxn(l:List (List (Int×Bool))):qyw (l.map z4n) (l.map z4n)=true:=qjo (fun x=>by simp[qjo (row:=qfb)]) l
def zcm(a b:Ste):Int:=if a.ends.length≠b.ends.length\/6<a.ends.length then 8 else if(a.ends++b.ends).any (qfz 4)=true then 1 else 0
def qlf(a b:Ste):List (Int×Bool):=if zcm a b=0 then qmw a b else []
def T38(n k:Nat):Tm:=[none,none,bN 0,bN 1,none,nN 0]++zN 20++[some (.sl 2 0 1 0 n),nN n,nN k]++zN 13
def z1c:Tm:=[none,none,none,none,some .nils,nN 1]++zN 36
abbrev h38(a b:Ste)(l:List Int):H:=[⟨0,.box a.cells⟩,⟨0,.box b.cells⟩,⟨0,.arr 1 (l.map qbk)⟩,o0]
theorem z6q(a b:Ste)(l:List Int)(hl:l.length<=100000){st:St}(h0:At (T38 l.length 0) (h38 a b l) st):∃r,ev pg (.code (.going 4 L133_0) st)=some r/\qph l.length (fun k=>qfz 4 ((l[k]?).getD 0)) (fun _=>qar .ret z1c (h38 a b l)) (qar (.exit 0) (T38 l.length l.length) (h38 a b l)) r:=by
 refine qdw _ _ (T38 l.length) (h38 a b l) _ _ ?_ ?_ ?_ h0
 .intro k f hf hk hp;have hk':(k:Int)<l.length:=by omega
  have wk:=qbc k;have hp':¬l[k]<0/\¬4<=l[k]:=by simpa[qfz,hk]using hp
  simp[T38,L133_0,hk,hk',wk,hp',hf.ne]
 .intro k f hf hk hp;have hk':(k:Int)<l.length:=by omega
  have hp':l[k]<0\/4<=l[k]:=by simpa[qfz,hk]using hp
  by_cases h1:l[k]<0
  .simp[T38,z1c,L133_0,hk,hk',h1,hf.ne]
  .have h2:4<=l[k]:=by omega
   simp[T38,z1c,L133_0,hk,hk',h1,h2,hf.ne]
 .intro f hf;simp[T38,L133_0,hf.ne]
theorem zhl{l:List Int}{X:Nat->R->Prop}{Y:R->Prop}{r:R}(h:qph l.length (fun k=>qfz 4 ((l[k]?).getD 0)) X Y r):(l.any (qfz 4)=true/\∃k,X k r)\/(l.any (qfz 4)=false/\Y r):=by
 rcases h with⟨k,hk,hp,-,hX⟩ | ⟨hp,hY⟩
 .refine .inl ⟨List.any_eq_true.2 ⟨l[k],jH hk,by simpa[hk]using hp⟩,k,hX⟩
 .refine .inr ⟨?_,hY⟩;rw[List.any_eq_false];intro x hx;obtain⟨k,hk,rfl⟩:=List.getElem_of_mem hx;have:=hp k hk;simpa[hk]using this
theorem zfs{a b:Ste}(h:a.ends.length≠b.ends.length\/6<a.ends.length):zcm a b=8:=by unfold zcm;rw[if_pos h]
theorem zrs{a b:Ste}(h1:a.ends.length=b.ends.length)(h2:¬6<a.ends.length):zcm a b=if(a.ends++b.ends).any (qfz 4)=true then 1 else 0:=by unfold zcm;rw[if_neg (by omega)]
theorem ev133(a b:Ste)(ha:a.small)(hb:b.small):ev pg (.call (fnq 133) [a.v,b.v] [])=some (rvq (.tup [q3k (qlf a b),num (zcm a b)])):=by
 unfold qlf;rw[qaa,pg133.1];by_cases h1:a.ends.length=b.ends.length
 .have h1':(a.ends.length:Int)=b.ends.length:=by omega
  by_cases h2:6<a.ends.length
  .rw[zfs (.inr h2)];have h2b:(6:Int)<b.ends.length:=by omega
   simp[ir133,h1',h2b]
  .rw[zrs h1 h2];have h2b:¬(6:Int)<b.ends.length:=by omega
   have e62:=ev183 a b ha h1.symm;have e32:=ev126c [a.ends,b.ends] (by simp) (by simp) (by simp;have:=ha.e;have:=hb.e;omega);have hl:=@z6q a b (a.ends++b.ends) (by simp;have:=ha.e;have:=hb.e;omega);simp only[zis,List.map_cons,List.map_nil,List.flatten_cons,List.flatten_nil,List.append_nil]at e32;generalize a.ends++b.ends=l at *;generalize qmw a b=F at *;generalize hB:l.any (qfz 4)=B;simp[ir133,h1',h2b,e32,qai,qch,qel,qmj,qdz];generalize hr:ev pg (.code (.going _ L133_0) _)=o;obtain⟨r,rfl,hQ⟩:∃r,o=some r/\_:=by rw[<-hr];exact hl (by simp[T38])
   clear hr;have hfa:=zhl hQ;rw[hB]at hfa;clear hQ;rcases hfa with⟨rfl,k,f,hf,rfl⟩ | ⟨rfl,f,hf,rfl⟩
   .simp[z1c,qch,qel,qmj,qdz]
   .simp[T38,e62,qch,qel,qmj,qdz]
 .rw[zfs (.inl h1)];have h1':¬(a.ends.length:Int)=b.ends.length:=by omega
  have hne:((a.ends.length:Int) != (b.ends.length:Int))=true:=by rw[bne_iff_ne];exact h1'
  simp[ir133,h1',hne]
end Go.Proofs.YtggbaapfbgjaeaaGreatDoor
