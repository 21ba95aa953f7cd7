/- The faulty control, by the reference: signals and pilots. The faulty control, by the reference: constants. The faulty control, by the reference: rounds. The faulty control, by the reference; injections. The examples of the law of fault; the law of injections holds of Am. States that are carried over, by the reference. The values of all lines, by the program. -/
import Derived.Test.YtddeacahiilikaaGreatZ2
import Derived.KernelRfl
import Derived.Test.YtddeacahiilikaaGreatSa4
import Derived.Test.YtddeacahiilikaaGreatEv1
import Derived.Test.YtddeacahiilikaaGreatTo2
set_option linter.all false
namespace Go.Proofs.YtddeacahiilikaaGreat
open Go Go.Am Go.Proofs
set_option maxRecDepth 100000
theorem znm{c:Ct}(hc:c.check=0)(hfew:c.small=true){x:Sg}(hx:x∈c.signals)(hk:x.kind≠1):x.off.zero=true:=by
 have hM:=qdo hc hfew
 generalize hA:c.act.toNat=A at *
 have h2:ctE c A=0:=by
  unfold Ct.check at hc
  split at hc
  .cases hc
  .split at hc
   .cases hc
   .rw[hA]at hc;exact hc
 unfold ctE at h2
 split at h2
 .split at h2
  .rename_i hs
   obtain⟨i,hi,rfl⟩:=List.mem_iff_getElem.1 hx
   have h3:=qpr hs i (by omega) (by omega)
   unfold qth at h3
   rw[jA hi]at h3
   simp only at h3
   unfold q4v at h3
   split at h3
   .split at h3
    .cases h3
    .split at h3
     .split at h3
      .rename_i h4;exact absurd h4.1 hk
      .split at h3
       .cases h3
       .split at h3
        .cases h3
        .split at h3
         .cases h3
         .rename_i h6
          cases hz:c.signals[i].off.zero with
          | true=>rfl
          | false=>exact absurd (.inl ⟨hk,.inl hz⟩) h6
     .rename_i h4;exact absurd h3 h4
   .rename_i h4;exact absurd h3 h4
  .rename_i h4;exact absurd h2 h4
 .rename_i h4;exact absurd h2 h4
theorem zmp{x:Ex}(h:x.zero=true)(n:Int):x.err n=0:=by
 simp only[Ex.zero,jE,jW]at h
 obtain⟨⟨h1,h2⟩,h3⟩:=h
 have ha:x.args=[]:=by simpa using h3
 rw[q8k,ha,h1,h2]
 simp[qbq,q1z]
structure SgOk(N:Nat)(x:Sg):Prop where
 on:x.on.err N=0
 off:x.off.err N=0
 non:x.on.nodes<=256
 noff:x.off.nodes<=256
 zero:x.kind≠1->x.off.zero=true
theorem jfw{c:Ct}(hc:c.check=0)(hfew:c.small=true){x:Sg}(hx:x∈c.signals):SgOk (qae c c.act.toNat) x:=by
 have hR:=qfe hc hfew
 obtain⟨_,g1,g2⟩:=(qcf hfew).2.2.2.2.2 x hx
 refine⟨hR.on x hx,?_,(qbx g1).1,(qbx g2).1,fun hk=>znm hc hfew hx hk⟩
 rcases hR.off x hx with h | h
 .exact h
 .exact zmp h _
structure Keep32(st:List V):Prop where
 nn:qat st
 len:st.length=138
 t2:qai st 2=.bptr 0 0
 t3:qai st 3=.bptr 1 0
 t4:qai st 4=.bptr 6 0
 t5:qai st 5=.sl 16 0 0 0 0
 t6:qai st 6=.bptr 11 0
structure Keep32v(P:List (Int×Int))(v:Int)(gv mv nv:Nat)(st:List V):Prop where
 keep:Keep32 st
 t9:qai st 9=.sl 20 gv mv 0 nv
 t10:qai st 10=qgx P
 t11:qai st 11=num v
theorem Keep32.set{s:List V}(h:Keep32 s)(j:Nat)(x:V)(hx:x ≠ .nils)(hj:j∉[2,3,4,5,6]):Keep32 (qfk s j x):=by
 simp only[List.mem_cons,List.not_mem_nil,or_false,not_or]at hj
 obtain⟨h2,h3,h4,h5,h6⟩:=hj
 exact⟨qcw h.nn hx,by rw[qkv,h.len],by rw[qak h2,h.t2],by rw[qak h3,h.t3],by rw[qak h4,h.t4],by rw[qak h5,h.t5],by rw[qak h6,h.t6]⟩
theorem Keep32v.set{P:List (Int×Int)}{v:Int}{gv mv nv:Nat}{s:List V}(h:Keep32v P v gv mv nv s)(j:Nat)(x:V)(hx:x ≠ .nils)(hj:j∉[2,3,4,5,6])(hj2:j∉[9,10,11]):Keep32v P v gv mv nv (qfk s j x):=by
 simp only[List.mem_cons,List.not_mem_nil,or_false,not_or]at hj2
 obtain⟨h9,h10,h11⟩:=hj2
 exact⟨h.keep.set j x hx hj,by rw[qak h9,h.t9],by rw[qak h10,h.t10],by rw[qak h11,h.t11]⟩
theorem Keep32v.next{P:List (Int×Int)}{v:Int}{gv mv nv:Nat}{s:List V}(h:Keep32v P v gv mv nv s)(x y:V)(hx:x ≠ .nils)(hy:y ≠ .nils)(v':Int):Keep32v P v' gv mv nv (qfk (qfk (qfk s 81 x) 82 y) 11 (num v')):=by
 have hk:=((h.keep.set 81 x hx (by decide)).set 82 y hy (by decide)).set 11 (num v') (by simp) (by decide)
 have hl:=h.keep.len
 exact⟨hk,by simp[h.t9],by simp[h.t10],by simp[hl]⟩
end Go.Proofs.YtddeacahiilikaaGreat
namespace Go.Proofs.YtddeacahiilikaaGreat
open Go Go.Am Go.Proofs
set_option maxRecDepth 1000000
abbrev hoV:V:=.agg [.int .i64 1,.imm [[.str [103,111]]],.imm [[.str [117,112],.int .i64 0,.int .i64 1,.int .i64 2,.imm [],.int .i64 0,.int .i64 0,.imm [],.int .i64 0,.bool false],[.str [100,111,119,110],.int .i64 0,.int .i64 2,.int .i64 0,.imm [[.int .i64 1,.int .i64 2,.imm []]],.int .i64 0,.int .i64 0,.imm [],.int .i64 0,.bool false]],.imm [[.int .i64 3]],.imm [[.int .i64 4]]]
abbrev hoA:V:=.agg [.int .i64 1,.imm [[.str [103,111]]],.imm [[.str [117,112],.int .i64 0,.int .i64 0,.int .i64 1,.imm [],.int .i64 0,.int .i64 0,.imm [],.int .i64 0,.bool false],[.str [100,111,119,110],.int .i64 0,.int .i64 2,.int .i64 0,.imm [[.int .i64 0,.int .i64 1,.imm []]],.int .i64 0,.int .i64 0,.imm [],.int .i64 0,.bool false]],.imm [[.int .i64 3]],.imm [[.int .i64 4]]]
abbrev hoB:V:=.agg [.int .i64 1,.imm [[.str [103,111]]],.imm [[.str [117,112],.int .i64 0,.int .i64 1,.int .i64 2,.imm [],.int .i64 0,.int .i64 0,.imm [],.int .i64 0,.bool false],[.str [100,111,119,110],.int .i64 0,.int .i64 2,.int .i64 0,.imm [[.int .i64 1,.int .i64 2,.imm []]],.int .i64 0,.int .i64 0,.imm [],.int .i64 0,.bool false],[.str [115,116,117,99,107,48],.int .i64 0,.int .i64 0,.int .i64 0,.imm [],.int .i64 0,.int .i64 0,.imm [],.int .i64 0,.bool false]],.imm [[.int .i64 5]],.imm [[.int .i64 4]]]
theorem zdt:evN pg 1000 (.call (.fn 36 [] []) [] [])=some { v:=hoV,st:=⟨[],[]⟩ }:=by kernel_rfl
theorem ev36:ev pg (.call (.fn 36 [] []) [] [])=some { v:=hoV,st:=⟨[],[]⟩ }:=zls zdt
def hoist:Ct:=⟨1,[[103,111]],[⟨[117,112],0,.mk 1 2 [],.mk 0 0 [],0,false⟩,⟨[100,111,119,110],0,.mk 2 0 [.mk 1 2 []],.mk 0 0 [],0,false⟩],[3],[4]⟩
theorem zuv:hoist.v=hoV:=by kernel_rfl
theorem znk:(zuf hoist 2 2).v=hoA:=by kernel_rfl
theorem zmd:(zuf hoist 0 0).v=hoB:=by kernel_rfl
theorem zzv:hoist.small=true:=by kernel_rfl
theorem z2q:hoist.check=0:=by kernel_rfl
theorem jjr:q8z hoist 2 2=0:=by kernel_rfl
theorem jkd:q8z hoist 0 0=0:=by kernel_rfl
theorem jjh:(q4r hoist).length=14:=by kernel_rfl
theorem z0v:q7q hoist 2 2=[3,4]:=by kernel_rfl
theorem z5x:q7q hoist 0 0=[5]:=by kernel_rfl
theorem jjj:qsi hoist 2 2=0:=by kernel_rfl
theorem jjz:qsi hoist 0 0=0:=by kernel_rfl
theorem z2m:q3u hoist [108,105,110,101,32,117,112,32,102,97,108,115,101]=((3,3),0):=by kernel_rfl
theorem ev9:ev pg (.call (.fn 9 [] []) [] [])=some { v:=.bool true,st:=⟨[],[]⟩ }:=by
 have h66:=ev36
 have h15:=ev37 hoist zzv
 have h28a:=ev10 hoist zzv 2 2
 have h28b:=ev10 hoist zzv 0 0
 have h17a:=ev38 hoist zzv 2 2
 have h17b:=ev38 hoist zzv 0 0
 have h25:=ev39 hoist zzv [108,105,110,101,32,117,112,32,102,97,108,115,101]
 have e1:=ev40 [3,4] [3,4] (by decide)
 have e2:=ev40 [5] [5] (by decide)
 have e3:=ev40 [4] [4] (by decide)
 have e1':ev pg (.call (.fn 40 [] []) [qcl [3,4],.imm [[.int .i64 3],[.int .i64 4]]] [])=some { v:=.bool true,st:=⟨[],[]⟩ }:=e1
 have e2':ev pg (.call (.fn 40 [] []) [qcl [5],.imm [[.int .i64 5]]] [])=some { v:=.bool true,st:=⟨[],[]⟩ }:=e2
 have e2'':ev pg (.call (.fn 40 [] []) [.imm [[.int .i64 5]],.imm [[.int .i64 5]]] [])=some { v:=.bool true,st:=⟨[],[]⟩ }:=e2
 have e3':ev pg (.call (.fn 40 [] []) [.imm [[.int .i64 4]],.imm [[.int .i64 4]]] [])=some { v:=.bool true,st:=⟨[],[]⟩ }:=e3
 have hal:=jjh
 have w0:=qab (n:=0) (by omega) (by omega)
 rw[z2q]at h15
 rw[z0v,jjj]at h17a
 rw[z5x,jjz]at h17b
 rw[z2m]at h25
 rw[jjr,znk]at h28a
 rw[jkd,zmd]at h28b
 generalize q4r hoist=L at *
 rw[zuv]at h15 h28a h28b h17a h17b h25
 rw[qac,pg9]
 simp[ir9,h66,h15,h28a,h28b,h17a,h17b,h25,hal,e1',e2',e2'',e3',w0]
set_option maxRecDepth 100000
abbrev jgt(s:Ste):H:=[⟨0,.arr 1 (s.ends.map qcc)⟩,⟨0,.arr 1 (s.valves.map qht)⟩,⟨0,.arr 1 (s.inputs.map qht)⟩,⟨0,.arr 1 (s.values.map qht)⟩,⟨0,.arr 1 (s.timers.map qcc)⟩]
abbrev ztl(s:Ste):V:=.agg [.sl 0 0 1 0 s.ends.length,.sl 1 0 1 0 s.valves.length,.sl 2 0 1 0 s.inputs.length,.sl 3 0 1 0 s.values.length,.sl 4 0 1 0 s.timers.length]
abbrev o0:Ob:=⟨0,.arr 0 []⟩
abbrev znb(b:Nat):List V:=[.sl b 0 0 0 0,.sl (b+1) 0 0 0 0,.sl (b+2) 0 0 0 0,.sl (b+3) 0 0 0 0,.sl (b+4) 0 0 0 0]
def qff:List Int->List Bool
 | []=>[]
 | e :: l=>(e==0) :: (e==2) :: qff l
theorem zhx(l m:List Int):qff (l++m)=qff l++qff m:=by
 induction l with
 | nil=>rfl
 | cons e l ih=>simp[qff,ih]
theorem qfi(l:List Int):(qff l).length=2*l.length:=by
 induction l with
 | nil=>rfl
 | cons e l ih=>simp[qff,ih];omega
theorem qxp{l:List Int}{k:Nat}(hk:k<l.length):qff (l.take (k+1))=qff (l.take k)++[l[k]==0,l[k]==2]:=by
 rw[jK hk,zhx];rfl
def qah(s:Ste):List Bool:=qff s.ends++s.inputs++s.values
theorem qfw(s:Ste):(qah s).length=2*s.ends.length+s.inputs.length+s.values.length:=by
 unfold qah
 rw[jF,jF,qfi]
abbrev h52(s:Ste)(k:Nat)(a:Nat×Nat):H:=[⟨0,.box s.cells⟩,⟨0,.arr 0 []⟩,⟨a.1,.arr a.2 ((qff (s.ends.take k)).map qht)⟩]
def T52(s:Ste)(k:Nat)(a:Nat×Nat):Tm:=[none,some (.bptr 0 0),some (.sl 1 0 0 0 0),some (.sl 2 a.1 a.2 0 (2*k)),none,none,none,some (qcl s.ends),some (num s.ends.length),some (num k)]++List.replicate 18 none
theorem jki(s:Ste)(hs:s.small){st:St}(a0:Nat×Nat)(g0:a0.2=1\/a0.2=0)(h0:At (T52 s 0 a0) (h52 s 0 a0) st):∃r,ev pg (.code (.going 3 L191_0) st)=some r/\∃a:Nat×Nat,(a.2=1\/a.2=0)/\qam (.exit 0) (T52 s s.ends.length a) (h52 s s.ends.length a) r:=by
 have hse:=hs.e
 refine qcz s.ends.length (T52 s) (h52 s) (fun _ a=>a.2=1\/a.2=0) _ ?_ ?_ a0 g0 h0
 .rintro k ⟨g,m⟩ f hf hk hG
  have hk':(k:Int)<s.ends.length:=by omega
  have wk:=qab (n:=(k:Int)+1) (by omega) (by omega)
  have hlen:(qff (s.ends.take k)).length=2*k:=by rw[qfi,List.length_take];omega
  have hb:2*k+2<=140737488355328:=by omega
  have h2:2*(k+1)=2*k+2:=by omega
  unfold T52 h52
  rw[qxp hk,h2]
  generalize qff (s.ends.take k)=W at *
  have hmm:m=1\/m=0:=hG
  rcases hmm with rfl | rfl<;>simp[L191_0,hk,hk',wk,hb,hlen,hf.ne]
 .rintro⟨g,m⟩ f hf hG
  unfold T52 h52
  generalize qff (s.ends.take s.ends.length)=W at *
  generalize 2*s.ends.length=N at *
  have hmm:m=1\/m=0:=hG
  rcases hmm with rfl | rfl<;>simp[L191_0,hf.ne]
theorem ev191(s:Ste)(hs:s.small):ev pg (.call (.fn 191 [] []) [s.v] [])=some { v:=.sl 0 0 1 0 (qah s).length,st:=⟨[],[⟨0,.arr 1 ((qah s).map qht)⟩]⟩ }:=by
 have hl:=@jki s hs
 obtain⟨h1,h2,h3,h4,h5⟩:=hs
 have hlen:=qfw s
 unfold qah at hlen ⊢
 have he:=qfi s.ends
 have q1:2*s.ends.length+s.inputs.length<=140737488355328:=by omega
 have q2:2*s.ends.length+s.inputs.length+s.values.length<=140737488355328:=by omega
 rw[hlen]
 simp only[List.map_append]
 have hW:((qff s.ends).map qht).length=2*s.ends.length:=by rw[List.length_map,he]
 unfold h52 at hl
 rw[List.take_length,List.take_zero,qff]at hl
 generalize (qff s.ends).map qht=W at *
 rw[qac,pg191]
 simp[ir191,qag]
 generalize hr:ev pg (.code (.going _ L191_0) _)=o
 obtain⟨r,rfl,⟨g,m⟩,hm,f,hf,rfl⟩:∃r,o=some r/\_:=by rw[<-hr];exact hl (0,0) (.inr rfl) (by simp[T52])
 clear hr
 have hmm:m=1\/m=0:=hm
 rcases hmm with rfl | rfl<;>simp[qaa,exT,qaf,T52,hW,q1,q2,qct,qel,qek]<;>simp[Nat.add_assoc]
def qgd(c:Ct)(F i:Nat)(L:List Bool):List Bool:=match c.signals[i]? with
 | some x=>if x.kind=0 then L.set (F+i) (x.on.holds L)else L
 | none=>L
def qbd(c:Ct)(F:Nat):Nat->List Bool->List Bool
 | 0,L=>L
 | k+1,L=>qgd c F k (qbd c F k L)
theorem q2a(c:Ct)(F i:Nat)(L:List Bool):(qgd c F i L).length=L.length:=by
 unfold qgd
 split
 .split
  .rw[jU]
  .rfl
 .rfl
theorem qfq(c:Ct)(F:Nat)(L:List Bool):∀k,(qbd c F k L).length=L.length
 | 0=>rfl
 | k+1=>by rw[qbd,q2a,qfq c F L k]
abbrev qan(s:Ste):Nat:=2*s.ends.length+s.inputs.length
def qvt(c:Ct)(s:Ste):List Bool:=qbd c (qan s) c.signals.length (qah s)
def qfb(c:Ct)(s:Ste):Ste:=⟨s.ends,s.valves,s.inputs,(qvt c s).drop (qan s),s.timers⟩
theorem qkr(s:Ste):(qah s).drop (qan s)=s.values:=by
 unfold qah
 rw[List.drop_left' (by rw[jF,qfi])]
def q6w(c:Ct)(N:Nat):Prop:=∀x∈c.signals,x.on.light=true/\x.on.check N=0
abbrev h50(c:Ct)(s:Ste)(L:List Bool):H:=[⟨0,.box c.cells⟩,⟨0,.box s.cells⟩,o0,o0,o0,o0,o0,⟨0,.box (znb 2)⟩,o0,o0,o0,o0,o0,⟨0,.box [.sl 14 0 1 0 s.ends.length,.sl 15 0 1 0 s.valves.length,.sl 16 0 1 0 s.inputs.length,.sl 17 0 1 0 s.values.length,.sl 18 0 1 0 s.timers.length]⟩,⟨0,.arr 1 (s.ends.map qcc)⟩,⟨0,.arr 1 (s.valves.map qht)⟩,⟨0,.arr 1 (s.inputs.map qht)⟩,⟨0,.arr 1 ((L.drop (qan s)).map qht)⟩,⟨0,.arr 1 (s.timers.map qcc)⟩,⟨0,.arr 1 (L.map qht)⟩]
def T50(c:Ct)(s:Ste)(k:Nat):Tm:=[none,none,some (.bptr 0 0),some (.bptr 1 0),some (.bptr 7 0),some (.bptr 13 0),some (.sl 19 0 1 0 (qah s).length)]++List.replicate 23 none++[some (.imm (c.signals.map Sg.row)),some (num c.signals.length),some (num k)]++List.replicate 28 none
theorem jkb{c:Ct}{A:Nat}(hM:Mid c A)(s:Ste)(hs:s.small)(hS:Shp c s)(hok:q6w c (qae c A)){st:St}(h0:At (T50 c s 0) (h50 c s (qbd c (qan s) 0 (qah s))) st):∃r,ev pg (.code (.going 20 L110_0) st)=some r/\qam (.exit 0) (T50 c s c.signals.length) (h50 c s (qvt c s)) r:=by
 refine qex c.signals.length (T50 c s) (fun k=>h50 c s (qbd c (qan s) k (qah s))) _ ?_ ?_ h0
 .intro k f hf hk
  have hsig:=hM.sig
  have hk':(k:Int)<c.signals.length:=by omega
  have wk:=qab (n:=(k:Int)+1) (by omega) (by omega)
  have h84:=ev193 hM
  have hlen:=qfw s
  have hgl:=qfq c (qan s) (qah s) k
  have hA:s.ends.length=A:=by have:=hS.e;have:=hM.act;omega
  have hF:qan s=qal c A:=by unfold qal;rw[qan,hA,hS.i]
  have hN:(qah s).length=qae c A:=by rw[hlen,hA,hS.i,hS.v]
  obtain⟨hli,hch⟩:=hok _ (jH hk)
  have hc256:qae c A<=256:=by
   have:=hM.hi;have:=hM.inp;have:=hM.sig
   unfold qae;omega
  have h83:=ev192 c.signals[k].on (qbd c (qan s) k (qah s)) hli (by omega) (by rw[hgl,hN];exact hch)
  have hval:s.values.length=c.signals.length:=hS.v
  have hkF:qal c A+k<qae c A:=by unfold qal qae;omega
  have w2:=qab (n:=(qal c A:Int)+(k:Int)) (by omega) (by omega)
  have hnn:(0:Int)<=(qal c A:Int)+(k:Int):=by omega
  have htn:((qal c A:Int)+(k:Int)).toNat=qal c A+k:=by omega
  have hst:qbd c (qan s) (k+1) (qah s)=if c.signals[k].kind=0 then(qbd c (qan s) k (qah s)).set (qan s+k) (c.signals[k].on.holds (qbd c (qan s) k (qah s)))else qbd c (qan s) k (qah s):=by
   rw[qbd,qgd,jA hk]
  have hdr:(qbd c (qan s) k (qah s)).length-qal c A=s.values.length:=by rw[hgl,hN,hval];unfold qae qal;omega
  unfold h50
  rw[hst]
  by_cases h0:c.signals[k].kind=0
  .rw[if_pos h0,<-List.set_drop,hF]
   rw[hF]at hgl h83 hdr
   generalize hW:qbd c (qal c A) k (qah s)=W at *
   generalize c.signals[k].on.holds W=b at *
   have hb1:k<(W.drop (qal c A)).length:=by rw[List.length_drop];omega
   have hb2:qal c A+k<W.length:=by omega
   have hd1:((W.drop (qal c A)).set k b).map qht=((W.drop (qal c A)).map qht).set k [.bool b]:=by rw[List.map_set]
   have hd2:(W.set (qal c A+k) b).map qht=(W.map qht).set (qal c A+k) [.bool b]:=by rw[List.map_set]
   rw[hd1,hd2]
   have hb3:k<W.length-qal c A:=by omega
   unfold qfd at h83
   have hk4:k<s.values.length:=by omega
   have hk5:(k:Int)<s.values.length:=by omega
   have hk6:(qal c A:Int)+(k:Int)<(qah s).length:=by omega
   have hk7:qal c A+k<(qah s).length:=by omega
   generalize qal c A=F at *
   simp[qaa,exT,qaf,T50,L110_0,hk,hk',wk,h0,h83,h84,w2,hnn,htn,hb2,hb3,hk4,hk7,hgl,hdr,hf.ne]
  .have h0b:(c.signals[k].kind==0)=false:=by simpa using h0
   rw[if_neg h0]
   generalize qbd c (qan s) k (qah s)=W at *
   simp[T50,L110_0,hk,hk',wk,h0b,hf.ne]
 .intro f hf
  unfold h50 qvt
  generalize qbd c (qan s) c.signals.length (qah s)=W at *
  simp[T50,L110_0,hf.ne]
theorem qvb{c:Ct}(s:Ste):(qfb c s).values.length=s.values.length:=by
 unfold qfb
 simp only[List.length_drop]
 rw[qvt,qfq,qfw]
 unfold qan
 omega
theorem ev110{c:Ct}{A:Nat}(hM:Mid c A)(s:Ste)(hs:s.small)(hS:Shp c s)(hok:q6w c (qae c A)):ev pg (.call (.fn 110 [] []) [c.v,s.v] [])=some { v:=(qfb c s).v,st:=⟨[],[]⟩ }:=by
 have hl:=@jkb c A hM s hs hS hok
 have h52:=ev191 s hs
 have hlen:=qvb (c:=c) s
 have hd:=qkr s
 obtain⟨g1,g2,g3,g4,g5⟩:=hs
 have c1:=ev106 s.ends g1
 have c2:=ev190 s.valves g2
 have c3:=ev190 s.inputs g3
 have c4:=ev190 s.values g4
 have c5:=ev106 s.timers g5
 unfold qfb at hlen ⊢
 simp only at hlen
 unfold h50 at hl
 rw[qbd,hd]at hl
 generalize (qvt c s).drop (qan s)=W at *
 rw[qac,pg110]
 simp[qaa,exT,qaf,ir110,qag,c1,c2,c3,c4,c5,h52]
 generalize hr:ev pg (.code (.going _ L110_0) _)=o
 obtain⟨r,rfl,f,hf,rfl⟩:∃r,o=some r/\_:=by rw[<-hr];exact hl (by simp[T50])
 clear hr
 simp[T50,hlen]
theorem zcj{c:Ct}(h:c.check=0)(hfew:c.small=true):q6w c (qae c c.act.toNat):=by
 have hR:=qfe h hfew
 intro x hx
 have hl:=(qcf hfew).2.2.2.2.2 x hx
 refine⟨hl.2.1,?_⟩
 have he:=hR.on x hx
 have hm:=hR.mid
 have h1:=hm.hi
 have h2:=hm.inp
 have h3:=hm.sig
 unfold Ex.check
 rw[if_neg (by unfold qae;omega),if_pos hl.2.1]
 exact he
theorem zkc{c:Ct}{s:Ste}(h:zjr c s=0):Shp c s:=by
 unfold zjr at h
 by_cases hS:Shp c s
 .exact hS
 .rw[if_neg hS]at h;cases h
theorem qhm{c:Ct}{s:Ste}(h:stE c s=0):c.check=0/\Shp c s:=by
 unfold stE at h
 by_cases hc:c.check=0
 .rw[if_pos hc]at h
  exact⟨hc,zkc h⟩
 .rw[if_neg hc]at h;exact absurd h hc
end Go.Proofs.YtddeacahiilikaaGreat
