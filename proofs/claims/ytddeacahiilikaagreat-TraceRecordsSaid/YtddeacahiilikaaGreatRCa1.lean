/- Clones, and lists one behind the other. The faulty control, by the reference: signals and pilots. The faulty control, by the reference: constants. The faulty control, by the reference: rounds. States that are carried over, by the reference. -/
import Derived.Test.YtddeacahiilikaaGreatRSa1
import Derived.Test.YtddeacahiilikaaGreatRSa3
import Derived.KernelRfl
set_option linter.all false
namespace Go.Proofs.YtddeacahiilikaaGreat
open Go Go.Am Go.Proofs
set_option maxRecDepth 100000
theorem ev190(l:List Bool)(hl:l.length<=4096):ev pg (.call (.fn 190 [] []) [qdt l] [])=some { v:=.sl 0 0 1 0 l.length,st:=⟨[],[⟨0,.arr 1 (l.map qen)⟩]⟩ }:=by
 rw[qac,pg190]
 cases l with
 | nil=>simp[ir190,qbv,qdq,qdl]
 | cons x l =>
  have h47:(l.length+1)*1<=140737488355328:=by
   simp only[List.length_cons]at hl
   omega
  have h48:l.length+1<=140737488355328:=by omega
  simp[ir190,h47,h48,qbv,qdq,qdl]
theorem ev197g(n:Nat)(hn2:n<=100000):ev pg (.call (.fn 197 [] []) [.nils,num n] [⟨0,.arr 0 []⟩])=some (if n=0 then { v:=.nils,st:=⟨[],[⟨0,.arr 0 []⟩]⟩ }else { v:=.sl 1 0 1 0 0,st:=⟨[],[⟨0,.arr 0 []⟩,⟨0,.arr 1 []⟩]⟩ }):=by
 have w1:=qab (n:=(n:Int)) (by omega) (by omega)
 have p1:¬((n:Int)<0):=by omega
 have w0:=qab (n:=0) (by omega) (by omega)
 have p3:n*8<=140737488355328:=by omega
 have p4:n<=140737488355328:=by omega
 rw[qac,pg197]
 rcases Nat.eq_zero_or_pos n with rfl | hn
 .simp[ir197,w0,qbv,qdq,qdl]
 .have hn0:n≠0:=by omega
  rw[if_neg hn0]
  simp[ir197,w0,w1,p1,hn,p3,p4,qbv,qdq,qdl]
  try omega
abbrev qie(L:List (List Int))(k:Nat):Nat:=(L.take k).flatten.length
theorem qtx{L:List (List Int)}{k:Nat}(hk:k<L.length):qie L (k+1)=qie L k+L[k].length:=by
 unfold qie
 rw[jK hk,jY]
 simp
theorem q2p(L:List (List Int))(k:Nat):qie L k<=L.flatten.length:=by
 unfold qie
 have:L.flatten=(L.take k).flatten++(L.drop k).flatten:=by rw[<-jY,List.take_append_drop]
 rw[this,jF]
 omega
abbrev q8x(L:List (List Int)):V:=.imm (L.map fun l=>[qel l])
def zbf(L:List (List Int))(k:Nat):Tm:=[some (q8x L),none,some (.sl 0 0 0 0 0),some (num (qie L k))]++List.replicate 5 none++[some (q8x L),some (num L.length),some (num k)]++List.replicate 24 none
theorem znj(L:List (List Int))(hL:L.length<=4096)(hN:L.flatten.length<=100000){st:St}(h0:At (zbf L 0) [⟨0,.arr 0 []⟩] st):∃r,ev pg (.code (.going 1 L120_0) st)=some r/\qaj (.exit 0) (zbf L L.length) [⟨0,.arr 0 []⟩] r:=by
 refine qfc L.length (zbf L) (fun _=>[⟨0,.arr 0 []⟩]) _ ?_ ?_ h0
 .intro k f hf hk
  have hk':(k:Int)<L.length:=by omega
  have wk:=qab (n:=(k:Int)+1) (by omega) (by omega)
  have hs:=qtx hk
  have hle:=q2p L (k+1)
  have w2:=qab (n:=(qie L k:Int)+(L[k].length:Int)) (by omega) (by omega)
  have w3:¬(qie L k:Int)+(L[k].length:Int)<0:=by omega
  unfold zbf
  rw[hs]
  generalize qie L k=n at *
  simp[L120_0,hk,hk',wk,w2,w3,hf.ne]
 .intro f hf
  unfold zbf
  generalize qie L L.length=n at *
  simp[L120_0,hf.ne]
def zpd(L:List (List Int))(k:Nat)(a:Nat×Nat):Tm:=[some (q8x L),none,some (.sl 0 0 0 0 0),none,none,none,some (.sl 1 a.1 a.2 0 (qie L k))]++List.replicate 18 none++[some (q8x L),some (num L.length),some (num k)]++List.replicate 8 none
abbrev zpk(X:H)(L:List (List Int))(k:Nat)(a:Nat×Nat):H:=⟨0,.arr 0 []⟩ :: ⟨a.1,.arr a.2 ((L.take k).flatten.map qdw)⟩ :: X
theorem znk(X:H)(hX:X=[]\/X=[⟨0,.arr 0 []⟩])(L:List (List Int))(hL:L.length<=4096)(hN:L.flatten.length<=100000){st:St}(a0:Nat×Nat)(g0:a0.2=1\/(a0.2=0/\(0:Nat)=0))(h0:At (zpd L 0 a0) (zpk X L 0 a0) st):∃r,ev pg (.code (.going (2+X.length) L120_1) st)=some r/\∃a:Nat×Nat,(a.2=1\/(a.2=0/\L.length=0))/\qaj (.exit 2) (zpd L L.length a) (zpk X L L.length a) r:=by
 refine qci L.length (zpd L) (zpk X L) (fun k a=>a.2=1\/(a.2=0/\k=0)) _ ?_ ?_ a0 g0 h0
 .rintro k ⟨g,m⟩ f hf hk hG
  have hk':(k:Int)<L.length:=by omega
  have wk:=qab (n:=(k:Int)+1) (by omega) (by omega)
  have hs:=qtx hk
  have hle:=q2p L (k+1)
  have hfl:(L.take (k+1)).flatten=(L.take k).flatten++L[k]:=by rw[jK hk,jY];simp
  have hb:(qie L k+L[k].length)*8<=140737488355328:=by omega
  have hb1:qie L k+L[k].length<=140737488355328:=by omega
  have hb2:(L.take k).flatten.length+L[k].length<=140737488355328:=hb1
  have hmm:m=1\/m=0:=hG.elim .inl fun h=>.inr h.1
  have hlen:(L.take k).flatten.length=qie L k:=rfl
  unfold zpd zpk
  rw[hs,hfl]
  generalize qie L k=n at *
  generalize (L.take k).flatten=W at *
  rcases hX with rfl | rfl<;>rcases hmm with rfl | rfl<;>simp[L120_1,hk,hk',wk,hb,hb1,hb2,hlen,hf.ne]
 .rintro⟨g,m⟩ f hf hG
  unfold zpd zpk
  generalize qie L L.length=n at *
  generalize (L.take L.length).flatten=W at *
  rcases hX with rfl | rfl<;>simp[L120_1,hf.ne]<;>exact⟨g,hG.elim (fun h=>.inl ⟨rfl,h⟩) fun h=>.inr ⟨⟨h.1,List.length_eq_zero_iff.1 h.2⟩,rfl⟩⟩
theorem ev120c(L:List (List Int))(hL:L.length<=4096)(hL0:L≠[])(hN:L.flatten.length<=100000):ev pg (.call (.fn 120 [] []) [q8x L] [])=some { v:=.sl 0 0 1 0 L.flatten.length,st:=⟨[],[⟨0,.arr 1 (L.flatten.map qdw)⟩]⟩ }:=by
 have hla:=@znj L hL hN
 have hlb:=fun X hX=>@znk X hX L hL hN
 have hg:=ev197g L.flatten.length hN
 have hn:qie L L.length=L.flatten.length:=by unfold qie;rw[List.take_length]
 have h0:qie L 0=0:=by simp[qie]
 have ha0:∀st:St,At ([some (q8x L),none,some (.sl 0 0 0 0 0),some (num 0)]++List.replicate 5 none++[some (q8x L),some (num L.length),some (num 0)]++List.replicate 24 none) [⟨0,.arr 0 []⟩] st->At (zbf L 0) [⟨0,.arr 0 []⟩] st:=fun st h=>by
  unfold zbf
  rw[h0]
  exact h
 unfold zpk at hlb
 simp only[List.take_length,List.take_zero]at hlb
 unfold zpd at hlb
 simp only[hn,h0]at hlb
 have hle:∀f,fill f 0 (zbf L L.length)=fill f 0 ([some (q8x L),none,some (.sl 0 0 0 0 0),some (num L.flatten.length)]++List.replicate 5 none++[some (q8x L),some (num L.length),some (num L.length)]++List.replicate 24 none):=fun f=>by
  unfold zbf
  rw[hn]
 have hlen:(L.flatten.map qdw).length=L.flatten.length:=List.length_map ..
 generalize L.flatten.map qdw=W at *
 generalize L.flatten.length=N at *
 rw[qac,pg120]
 simp[ir120,qaf]
 generalize hr:ev pg (.code (.going _ L120_0) _)=o
 obtain⟨r,rfl,f,hf,rfl⟩:∃r,o=some r/\_:=by rw[<-hr];exact hla (ha0 _ (by simp))
 clear hr
 rw[hle]
 by_cases hz:N=0
 .rw[if_pos hz]at hg
  simp[hg,hf.ne,qaf]
  generalize hr:ev pg (.code (.going _ L120_1) _)=o
  obtain⟨r,rfl,⟨g,m⟩,hm,f,hf,rfl⟩:∃r,o=some r/\_:=by rw[<-hr];exact hlb [⟨0,.arr 0 []⟩] (.inr rfl) (0,0) (.inr ⟨rfl,trivial⟩) (by simp[hf.ne])
  obtain rfl:m=1:=hm.elim id fun h=>absurd (List.length_eq_zero_iff.1 h.2) hL0
  simp[qbv,qdq,qdl,hlen]
 .rw[if_neg hz]at hg
  simp[hg,hf.ne,qaf]
  generalize hr:ev pg (.code (.going _ L120_1) _)=o
  obtain⟨r,rfl,⟨g,m⟩,hm,f,hf,rfl⟩:∃r,o=some r/\_:=by rw[<-hr];exact hlb [] (.inl rfl) (0,1) (.inl rfl) (by simp[hf.ne])
  obtain rfl:m=1:=hm.elim id fun h=>absurd (List.length_eq_zero_iff.1 h.2) hL0
  simp[qbv,qdq,qdl,hlen]
theorem zdv{c:Ct}(hc:c.check=0)(hfew:c.small=true){x:Sg}(hx:x∈c.signals)(hk:x.kind≠1):x.off.zero=true:=by
 have hM:=qrs hc hfew
 generalize hA:c.act.toNat=A at *
 have h2:ctE c A=0:=by
  unfold Ct.check at hc
  split at hc
  .cases hc
  .split at hc
   .cases hc
   .rw[hA]at hc;exact hc
 unfold ctE at h2
 split at h2
 .split at h2
  .rename_i hs
   obtain⟨i,hi,rfl⟩:=List.mem_iff_getElem.1 hx
   have h3:=qmz hs i (by omega) (by omega)
   unfold qqx at h3
   rw[jA hi]at h3
   simp only at h3
   unfold q3m at h3
   split at h3
   .split at h3
    .cases h3
    .split at h3
     .split at h3
      .rename_i h4;exact absurd h4.1 hk
      .split at h3
       .cases h3
       .split at h3
        .cases h3
        .split at h3
         .cases h3
         .rename_i h6
          cases hz:c.signals[i].off.zero with
          | true=>rfl
          | false=>exact absurd (.inl ⟨hk,.inl hz⟩) h6
     .rename_i h4;exact absurd h3 h4
   .rename_i h4;exact absurd h3 h4
  .rename_i h4;exact absurd h2 h4
 .rename_i h4;exact absurd h2 h4
theorem zeo{x:Ex}(h:x.zero=true)(n:Int):x.err n=0:=by
 simp only[Ex.zero,jE,jW]at h
 obtain⟨⟨h1,h2⟩,h3⟩:=h
 have ha:x.args=[]:=by simpa using h3
 rw[q2b,ha,h1,h2]
 simp[qbg,qxq]
structure SgOk(N:Nat)(x:Sg):Prop where
 on:x.on.err N=0
 off:x.off.err N=0
 non:x.on.nodes<=256
 noff:x.off.nodes<=256
 zero:x.kind≠1->x.off.zero=true
theorem z1x{c:Ct}(hc:c.check=0)(hfew:c.small=true){x:Sg}(hx:x∈c.signals):SgOk (qah c c.act.toNat) x:=by
 have hR:=qsf hc hfew
 obtain⟨_,g1,g2⟩:=(qfx hfew).2.2.2.2.2 x hx
 refine⟨hR.on x hx,?_,(qec g1).1,(qec g2).1,fun hk=>zdv hc hfew hx hk⟩
 rcases hR.off x hx with h | h
 .exact h
 .exact zeo h _
structure Keep32(st:List V):Prop where
 nn:qde st
 len:st.length=138
 t2:qao st 2=.bptr 0 0
 t3:qao st 3=.bptr 1 0
 t4:qao st 4=.bptr 6 0
 t5:qao st 5=.sl 16 0 0 0 0
 t6:qao st 6=.bptr 11 0
structure Keep32v(P:List (Int×Int))(v:Int)(gv mv nv:Nat)(st:List V):Prop where
 keep:Keep32 st
 t9:qao st 9=.sl 20 gv mv 0 nv
 t10:qao st 10=q8b P
 t11:qao st 11=num v
theorem Keep32.set{s:List V}(h:Keep32 s)(j:Nat)(x:V)(hx:x ≠ .nils)(hj:j∉[2,3,4,5,6]):Keep32 (qhi s j x):=by
 simp only[List.mem_cons,List.not_mem_nil,or_false,not_or]at hj
 obtain⟨h2,h3,h4,h5,h6⟩:=hj
 exact⟨qed h.nn hx,by rw[qmj,h.len],by rw[qat h2,h.t2],by rw[qat h3,h.t3],by rw[qat h4,h.t4],by rw[qat h5,h.t5],by rw[qat h6,h.t6]⟩
theorem Keep32v.set{P:List (Int×Int)}{v:Int}{gv mv nv:Nat}{s:List V}(h:Keep32v P v gv mv nv s)(j:Nat)(x:V)(hx:x ≠ .nils)(hj:j∉[2,3,4,5,6])(hj2:j∉[9,10,11]):Keep32v P v gv mv nv (qhi s j x):=by
 simp only[List.mem_cons,List.not_mem_nil,or_false,not_or]at hj2
 obtain⟨h9,h10,h11⟩:=hj2
 exact⟨h.keep.set j x hx hj,by rw[qat h9,h.t9],by rw[qat h10,h.t10],by rw[qat h11,h.t11]⟩
abbrev ztu(s:Ste):H:=[⟨0,.arr 1 (s.ends.map qdw)⟩,⟨0,.arr 1 (s.valves.map qen)⟩,⟨0,.arr 1 (s.inputs.map qen)⟩,⟨0,.arr 1 (s.values.map qen)⟩,⟨0,.arr 1 (s.timers.map qdw)⟩]
abbrev zcu(s:Ste):V:=.agg [.sl 0 0 1 0 s.ends.length,.sl 1 0 1 0 s.valves.length,.sl 2 0 1 0 s.inputs.length,.sl 3 0 1 0 s.values.length,.sl 4 0 1 0 s.timers.length]
theorem ev221(s:Ste)(hs:s.small):ev pg (.call (.fn 221 [] []) [s.v] [])=some { v:=zcu s,st:=⟨[],ztu s⟩ }:=by
 obtain⟨h1,h2,h3,h4,h5⟩:=hs
 have g1:s.ends.length*8<=140737488355328:=by omega
 have g2:s.valves.length<=140737488355328:=by omega
 have g3:s.inputs.length<=140737488355328:=by omega
 have g4:s.values.length<=140737488355328:=by omega
 have g5:s.timers.length*8<=140737488355328:=by omega
 rw[qac,pg221]
 simp[qaa,exT,qae,ir221,g1,g2,g3,g4,g5,qbv,qdq,qhy,qdl]
abbrev o0:Ob:=⟨0,.arr 0 []⟩
abbrev qwx(b:Nat):List V:=[.sl b 0 0 0 0,.sl (b+1) 0 0 0 0,.sl (b+2) 0 0 0 0,.sl (b+3) 0 0 0 0,.sl (b+4) 0 0 0 0]
end Go.Proofs.YtddeacahiilikaaGreat
