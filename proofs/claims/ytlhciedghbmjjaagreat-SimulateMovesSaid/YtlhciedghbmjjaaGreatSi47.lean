/- Courses in time, by the reference: the loop. Course and Run, by the reference. Entries of logs are those of logs; the law SimulateBegins, in Am: it returns true. Logs and moves are those that they are. Moves, by the reference. The laws SimulateChecks and SimulateMoves, in Am: they return true. -/
import Derived.Test.YtlhciedghbmjjaaGreatSi44
import Derived.KernelRfl
import Derived.Test.YtlhciedghbmjjaaGreatSi19
import Derived.Test.YtlhciedghbmjjaaGreatSi12
import Derived.Test.YtlhciedghbmjjaaGreatSi34
set_option linter.all false
namespace Go.Proofs.YtlhciedghbmjjaaGreat
open Go Go.Am Go.Proofs
set_option maxRecDepth 100000
set_option maxHeartbeats 4000000
theorem jew{m:Mch}{f s0:Ste}{u:Int}(hu:u<=1000000){l:List Prs}(hll:l.length<=4096){Z:Option (Int ⊕ Lg)}{L:Nat}(hL:L<=4096){st:St}(a0:G43)(g0:a0.Ok m u l Z L 0)(h0:At (qnc l u) (a0.H m f s0) st):∃r,ev pg (.code (.going 39 L43_0) st)=some r/\Out43 m f s0 u l Z r:=by
 refine qbn (4097+L) (fun _ _=>qnc l u) (fun _ a=>a.H m f s0) (G43.Ok m u l Z L) _ ?_ ?_ a0 g0 h0
 .rintro j a q hq hj hG
  obtain⟨c,En,C,k,g,w⟩:=a
  obtain⟨hok,hcl,hkl,hw,hlin,hz,hmu,hen⟩:=hG
  simp only at hok hcl hkl hw hlin hz hmu hen
  obtain⟨n,hn⟩:∃n,4097+L-j=n+1:=⟨4097+L-j-1,by omega⟩
  rw[hn]at hz
  have hn2:4097+L-(j+1)=n:=by omega
  have e76:=ev76 (zls m f s0 c.s c.e c.t k g w En C) hok.tim l (by omega) hkl
  rw[<-hcl]at e76
  have hnxd:qky (qpr m c.s c.e c.t c.l)=nxD m c:=rfl
  rw[hnxd]at e76
  unfold goS at hz
  cases hnx:nxD m c with
  | none =>
   rw[hnx]at hz e76
   simp only at hz
   simp only[nxV,Option.elim_none,Option.isSome_none]at e76
   have key:∀cs r,qag (.exit 0) (qnc l u) (qvg m f s0 c.s c.e c.t k g w En C++[⟨0,.box cs⟩]) r->Out43 m f s0 u l Z r:=fun cs r he=>.ok ⟨c,En,C,k,g,w⟩ hz.symm hw cs he
   refine(?_:∃r,ev pg (.code L43_0 ⟨fill q 0 (qnc l u),qvg m f s0 c.s c.e c.t k g w En C⟩)=some r/\r.x ≠ .normal/\Out43 m f s0 u l Z r).imp fun r h=>⟨h.1,.inr ⟨h.2.1,h.2.2⟩⟩
   simp[qnc,L43_0,e76,hq.ne]
   exact key [num 0,num 0,num 0,num 0,.bool false] _ (by simp[qnc,hq.ne])
  | some d =>
   rw[hnx]at hz e76
   simp only at hz
   simp only[nxV,Option.elim_some,Option.isSome_some]at e76
   by_cases hut:u<d.t
   .rw[if_pos hut]at hz
    have key:∀cs r,qag (.exit 0) (qnc l u) (qvg m f s0 c.s c.e c.t k g w En C++[⟨0,.box cs⟩]) r->Out43 m f s0 u l Z r:=fun cs r he=>.ok ⟨c,En,C,k,g,w⟩ hz.symm hw cs he
    refine(?_:∃r,ev pg (.code L43_0 ⟨fill q 0 (qnc l u),qvg m f s0 c.s c.e c.t k g w En C⟩)=some r/\r.x ≠ .normal/\Out43 m f s0 u l Z r).imp fun r h=>⟨h.1,.inr ⟨h.2.1,h.2.2⟩⟩
    simp[qnc,L43_0,e76,hut,hq.ne]
    exact key d.row5 _ (by simp[qnc,hq.ne])
   .rw[if_neg hut]at hz
    have hub:d.t<=1000000:=by omega
    obtain⟨⟨hd1,hd2⟩,hdk⟩:=hok.due d (qhv hnx)
    by_cases hk2:d.e.kind=2
    .obtain⟨dt,⟨dk,di,dv⟩⟩:=d
     simp only at hk2 hdk hut hub hd1 hd2 hz
     subst hk2
     obtain⟨i,rfl⟩:∃i:Nat,di=i:=⟨di.toNat,by omega⟩
     exact zle hu hll hL hq hok hcl hkl hw hlin hn2 hmu hen hnx hut (by omega) (by simpa only[true_and]using hz)
    .rw[if_neg (fun h=>hk2 h.1)]at hz
     have hrk:¬rkE d.e.kind=0:=by unfold rkE;rw[if_neg hk2];split<;>decide
     have hrkb:(rkE d.e.kind==0)=false:=by rw[beq_eq_false_iff_ne];exact hrk
     by_cases h4:En.length=4096
     .rw[if_pos h4]at hz
      have h4':(En.length:Int)=4096:=by omega
      refine(?_:∃r,ev pg (.code L43_0 ⟨fill q 0 (qnc l u),qvg m f s0 c.s c.e c.t k g w En C⟩)=some r/\r.x ≠ .normal/\Out43 m f s0 u l Z r).imp fun r h=>⟨h.1,.inr ⟨h.2.1,h.2.2⟩⟩
      simp[qnc,L43_0,e76,hut,hrk,hrkb,h4',hq.ne]
      exact .of hz.symm 40 ⟨rfl,rfl,rfl,rfl,rfl,rfl,rfl,rfl⟩ (by simp[q5n,hq.ne])
     .rw[if_neg h4]at hz
      have h4':¬(En.length:Int)=4096:=by omega
      have e77:=ev77 hok.lie.rdy d.e
      by_cases he:(qah m.c c.s d.e).2.2=0
      .rw[if_pos he]at hz
       have hgo:=hok.go hnx hub he
       have hcf:=qlz m.c c.s d.e
       have hN:qfs m.c<=200:=qhy hok.lie.rdy.mid
       have e34:=ev34 C (qah m.c c.s d.e).2.1 (by have:=hlin.len;omega) (by have:=hcf.len;omega)
       rw[hlin.mrg hcf]at e34
       unfold zam at e77
       rw[he]at e77
       have hT:=hok.tim
       have hTg:=hgo.tim
       have hle:(qah m.c c.s d.e).1.ends.length=c.s.ends.length:=by have a:=hTg.le;simp only[goC]at a;rw[qbo]at a;have:=hT.le;omega
       have hlt:(qah m.c c.s d.e).1.timers.length=c.s.timers.length:=by have a:=hTg.lt;simp only[goC]at a;rw[qbo]at a;have:=hT.lt;omega
       have hsm:=hok.lie.rdy.small
       have e78:=ev78 c.s (qah m.c c.s d.e).1 hsm hle
       have hmay:qmt c.s d.e=true/\¬(d.e.kind<0\/2<d.e.kind):=by
        unfold qah at he
        split at he
        .cases he
        .rename_i h1
         split at he
         .rename_i h2;exact⟨h2,h1⟩
         .cases he
       have e80:=ev80 hok.lie.rdy.shp hsm d.e hmay.2 hmay.1
       have hue:=(qoe c.s d.e).1
       have hut3:=(qoe c.s d.e).2
       have se:=qxf (t:=(qah m.c c.s d.e).1) hmay.1 hT.le
       have st':=qqz (t:=(qah m.c c.s d.e).1) hmay.1 hT.lt
       have e79a:=z1w m f s0 c.s c.e c.t k (g+1) 5 (En++[⟨d.t,d.e,qdo c.s (qah m.c c.s d.e).1⟩]) (norm (qfs m.c) (C++(qah m.c c.s d.e).2.1)) (r:=t43 d (qah m.c c.s d.e).1) (qzn ..) (u:=qcc c.s d.e) d.t hue hT.le hut3 hT.lt hT.ne hT.nt
       have e79b:=z1w m f s0 (qcc c.s d.e) (qbc c.e d.t (qhl (qcc c.s d.e).ends c.s.ends)) (qbc c.t d.t (qhl (qcc c.s d.e).timers c.s.timers)) k (g+1) 5 (En++[⟨d.t,d.e,qdo c.s (qah m.c c.s d.e).1⟩]) (norm (qfs m.c) (C++(qah m.c c.s d.e).2.1)) (r:=t43 d (qah m.c c.s d.e).1) (qzn ..) (u:=(qah m.c c.s d.e).1) d.t (by omega) (by rw[qbo,hue];exact hT.le) (by omega) (by rw[qbo,hut3];exact hT.lt) (by have:=hT.ne;omega) (by have:=hT.nt;omega)
       rw[se,st']at e79b
       have hcl2:(goC m c d).l=c.l:=by simp only[goC,q3p];rw[if_neg hk2]
       have hap:(En.length+1)*56<=140737488355328:=by omega
       have hlin2:=Lin.norm (qfs m.c) (C++(qah m.c c.s d.e).2.1)
       refine(?_:∃st,ev pg (.code L43_0 ⟨fill q 0 (qnc l u),qvg m f s0 c.s c.e c.t k g w En C⟩)=some { st:=st }/\At (qnc l u) (qvg m f s0 (goC m c d).s (goC m c d).e (goC m c d).t k (g+1) 5 (En++[⟨d.t,d.e,qdo c.s (qah m.c c.s d.e).1⟩]) (norm (qfs m.c) (C++(qah m.c c.s d.e).2.1))) (qkh 39 st)).elim fun st h=>⟨_,h.1,.inl ⟨rfl,G43.mk (goC m c d) (En++[(⟨d.t,d.e,qdo c.s (qah m.c c.s d.e).1⟩:Ent)]) ( norm (qfs m.c) (C++(qah m.c c.s d.e).2.1)) k (g+1) 5,⟨hgo,by simp only;rw[hcl2];exact hcl,hkl,.inl rfl,hlin2,by simp only;rw[hn2];exact hz,by simp only[hcl2,jF,List.length_singleton];omega,by simp only[jF,List.length_singleton];omega⟩,h.2⟩⟩
       have hgs:(goC m c d).s=(qah m.c c.s d.e).1:=rfl
       have hge:(goC m c d).e=qbc c.e d.t (onE c.s (qah m.c c.s d.e).1 d):=rfl
       have hgt:(goC m c d).t=qbc c.t d.t (onT c.s (qah m.c c.s d.e).1 d):=rfl
       rw[hgs,hge,hgt]
       simp only[List.cons_append,List.nil_append,List.map_append,List.map_cons,List.map_nil,jF,List.length_cons,List.length_nil]at e79a e79b
       generalize qbc c.e d.t (onE c.s (qah m.c c.s d.e).1 d)=E2 at *
       generalize qbc c.t d.t (onT c.s (qah m.c c.s d.e).1 d)=T2 at *
       generalize qbc c.e d.t (qhl (qcc c.s d.e).ends c.s.ends)=E1 at *
       generalize qbc c.t d.t (qhl (qcc c.s d.e).timers c.s.timers)=T1 at *
       generalize norm (qfs m.c) (C++(qah m.c c.s d.e).2.1)=C' at *
       generalize qdo c.s (qah m.c c.s d.e).1=F at *
       generalize (qah m.c c.s d.e).2.1=cf at *
       generalize (qah m.c c.s d.e).1=n' at *
       generalize qcc c.s d.e=hp at *
       rcases hw with rfl | rfl<;>(simp[qaa,exT,qae,qnc,L43_0,e76,hut,hrk,hrkb,h4',e77,e78,e34,e80,e79a,e79b,hap,hq.ne])
      .rw[if_neg he]at hz
       unfold zam at e77
       have heb:((qah m.c c.s d.e).2.2==0)=false:=by rw[beq_eq_false_iff_ne];exact he
       refine(?_:∃r,ev pg (.code L43_0 ⟨fill q 0 (qnc l u),qvg m f s0 c.s c.e c.t k g w En C⟩)=some r/\r.x ≠ .normal/\Out43 m f s0 u l Z r).imp fun r h=>⟨h.1,.inr ⟨h.2.1,h.2.2⟩⟩
       generalize (qah m.c c.s d.e).2.2=e at *
       simp[qaa,exT,qae,qnc,L43_0,e76,hut,hrk,hrkb,h4',e77,he,heb,hq.ne]
       exact .of hz.symm 46 ⟨rfl,rfl,rfl,rfl,rfl,rfl,rfl,rfl⟩ (by simp[q5n,hq.ne])
 .rintro a q hq hG
  exfalso
  have h1:=hG.mu
  have h2:=hG.en
  omega
def zpc(m:Mch)(l:List Prs)(u:Int):Lg×Int:=if(qby m.c).2.2≠0 then(zLg,(qby m.c).2.2)else zlq (qnp m l u)
theorem zjp{m:Mch}{l:List Prs}{u:Int}(hg:qer m l u=0):qms m l u=zpc m l u:=by
 unfold qms zpc
 rw[if_neg (by simpa using hg)]
theorem q5l{c:Ct}(hc:c.check=0)(h:qfr c (qdq c)=none):qby c=(zeroS,[],21):=by
 unfold qby qhj
 rw[if_pos hc,h]
theorem q3l{c:Ct}(hc:c.check=0){s:Ste}{C:List Int}(h:qfr c (qdq c)=some (s,C)):qby c=(s,C,0):=by
 unfold qby qhj
 rw[if_pos hc,h]
theorem ev43{m:Mch}(hs:m.c.small=true){l:List Prs}{u:Int}(hg:qer m l u=0):ev pg (.call (.fn 43 [] []) [m.v,prs l,num u] [])=some { v:=.tup [(zpc m l u).1.v,num (zpc m l u).2],st:=⟨[],[]⟩ }:=by
 obtain⟨g1,g2,g3,g4,g5⟩:=qhm hg
 have hc:m.c.check=0:=by
  unfold qft at g1
  split at g1
  .assumption
  .rename_i hn;exact absurd g1 hn
 have rb:=Rdy.mk hs (qfq hc)
 have hb:(qdq m.c).ends.length<=4096/\(qdq m.c).timers.length<=4096:=by
  have a:=rb.shp.e;have b:=rb.mid.hi;have d:=rb.mid.act
  have a2:=rb.shp.t;have b2:=rb.mid.sig
  omega
 have e75:=ev75 hs hc hb
 rw[qac,pg43]
 unfold zpc
 cases hr:qfr m.c (qdq m.c)with
 | none =>
  have hst:=q5l hc hr
  rw[hr]at e75
  simp only[Option.map_none,Option.getD_none,Option.isSome_none]at e75
  rw[hst]
  simp[ir43,e75,zLg,zeroS]
 | some x =>
  obtain⟨s0,C0⟩:=x
  have hst:=q3l hc hr
  rw[hr]at e75
  simp only[Option.map_some,Option.getD_some,Option.isSome_some]at e75
  have he:(qby m.c).2.2=0:=by rw[hst]
  have hok:=qsn hs hg he
  have hlin:=qmg m.c
  have n1:(qdq m.c).ends.length=s0.ends.length:=by
   have a:=rb.shp.e;have b:=hok.lie.rdy.shp.e;simp only[qhf,hst]at b;omega
  have n2:(qdq m.c).timers.length=s0.timers.length:=by
   have a:=rb.shp.t;have b:=hok.lie.rdy.shp.t;simp only[qhf,hst]at b;omega
  have hlp:=fun(st:St)=>jew (m:=m) (f:=qdq m.c) (s0:=s0) (u:=u) g5 (l:=l) (by omega) (Z:=qnp m l u) (L:=l.length) (by omega) (st:=st) ⟨qhf m l,[],C0,0,0,0⟩
   ⟨hok,rfl,Nat.zero_le _,.inr rfl,by rw[hst]at hlin;exact hlin,by unfold qnp;rw[hst];rfl,by simp[qhf],by simp⟩
  rw[hst]
  rw[if_neg (by simp)]
  simp only[G43.H,qhf,hst,List.map_nil,List.length_nil]at hlp
  generalize hZ:qnp m l u=Z at *
  have m1:=congrArg Ste.ends (show qdq m.c=qdq m.c from rfl)
  generalize qdq m.c=f at *
  have n3:s0.ends.length<=4096:=by omega
  have n4:s0.timers.length<=4096:=by omega
  simp only[h75,n1,n2]at e75
  clear hok hZ hst he rb hlin hr m1
  simp[ir43,e75,qaf]
  generalize hr:ev pg (.code (.going _ L43_0) _)=o
  obtain⟨r,rfl,hQ⟩:∃r,o=some r/\_:=by rw[<-hr];exact hlp _ (by simp[qnc])
  clear hr
  cases hQ with
  | ok a hz hw cs he =>
   obtain⟨c,En,C,k,g,w⟩:=a
   obtain⟨q,hq,rfl⟩:=he
   simp only at hz hw
   subst hz
   simp only[G43.H,zlq]
   rcases hw with rfl | rfl<;>simp[qnc]
  | bad e hz h q hh he =>
   obtain⟨f,hf,rfl⟩:=he
   subst hz
   obtain⟨b,e0,e1,e2,e3,e4,e5,e6⟩:=hh
   simp[q5n,zlq,zLg,zeroS,b,e0,e1,e2,e3,e4,e5,e6]
theorem ev14{m:Mch}(hs:m.c.small=true)(ht:m.ts.length<=100000){l:List Prs}(hl:l.length<=100000)(u:Int):ev pg (.call (.fn 14 [] []) [m.v,prs l,num u] [])=some { v:=.tup [(qms m l u).1.v,num (qms m l u).2],st:=⟨[],[]⟩ }:=by
 have e36:=ev36 m hs ht l hl u
 rw[qac,pg14]
 by_cases h1:qer m l u=0
 .have e43:=ev43 hs h1
  rw[zjp h1]
  rw[h1]at e36
  generalize zpc m l u=z at *
  obtain⟨y,e⟩:=z
  simp only at e43
  simp[ir14,e36,e43]
 .unfold qms
  rw[if_pos h1]
  have hb:(qer m l u==0)=false:=by simpa using h1
  generalize qer m l u=e at *
  simp[ir14,e36,h1,hb,zLg,zeroS]
def zlu(a:List Ent)(k:Nat):Tm:=[some (zmm a),some (zmm a),none,none,some (.bool false),some (num k)]++List.replicate 51 none
theorem jdl(a:List Ent)(ha:a.length<=4096)(hb:∀y∈a,y.s.length<=1000){st:St}(h0:At (zlu a 0) [] st):∃r,ev pg (.code (.going 0 L25_0) st)=some r/\qag (.exit 0) (zlu a a.length) [] r:=by
 refine qcd a.length (zlu a) (fun _=>[]) _ ?_ ?_ h0
 .intro k f hf hk
  have hk':(k:Int)<a.length:=by omega
  have wk:=qab (n:=(k:Int)+1) (by omega) (by omega)
  have e52:ev pg (.call (.fn 52 [] []) [.imm [[q0n a[k].s]],.imm [[q0n a[k].s]]] [])=some { v:=.bool true,st:=⟨[],[]⟩ }:=ev52s [a[k].s] (by simp) (by
   intro l hl
   rw[List.mem_singleton]at hl
   subst hl
   have:=hb _ (jH hk)
   omega)
  simp[qaa,exT,qae,zlu,L25_0,hk,hk',wk,e52,hf.ne]
 .intro f hf
  simp[zlu,L25_0,hf.ne]
theorem ev25(a:List Ent)(ha:a.length<=4096)(hb:∀y∈a,y.s.length<=1000):ev pg (.call (.fn 25 [] []) [zmm a,zmm a] [])=some { v:=.bool true,st:=⟨[],[]⟩ }:=by
 have hl:=@jdl a ha hb
 rw[qac,pg25]
 simp[ir25,qaf]
 generalize hr:ev pg (.code (.going _ L25_0) _)=o
 obtain⟨r,rfl,f,hf,rfl⟩:∃r,o=some r/\_:=by rw[<-hr];exact hl (by simp[zlu])
 simp[zlu]
theorem ev17s(x:Lg)(h1:x.en.length<=4096)(h2:∀y∈x.en,y.s.length<=1000)(h3:x.cf.length<=100000)(h4:x.st.small):ev pg (.call (.fn 17 [] []) [x.v,x.v] [])=some { v:=.bool true,st:=⟨[],[]⟩ }:=by
 have e25:=ev25 x.en h1 h2
 have e33:=ev33s x.cf h3
 have e31:=ev31 x.st x.st h4
 rw[qpx]at e31
 rw[qac,pg17]
 simp[ir17,e25,e33,e31]
def zll(a:List Mov)(k:Nat):Tm:=[some (mvs a),some (mvs a),none,none,some (.bool false),some (num k)]++List.replicate 20 none
theorem jdi(a:List Mov)(ha:a.length<=10000000){st:St}(h0:At (zll a 0) [] st):∃r,ev pg (.code (.going 0 L21_0) st)=some r/\qag (.exit 0) (zll a a.length) [] r:=by
 refine qcd a.length (zll a) (fun _=>[]) _ ?_ ?_ h0
 .intro k f hf hk
  have hk':(k:Int)<a.length:=by omega
  have wk:=qab (n:=(k:Int)+1) (by omega) (by omega)
  simp[qaa,exT,qae,zll,L21_0,hk,hk',wk,hf.ne]
 .intro f hf
  simp[zll,L21_0,hf.ne]
theorem ev21s(a:List Mov)(ha:a.length<=10000000):ev pg (.call (.fn 21 [] []) [mvs a,mvs a] [])=some { v:=.bool true,st:=⟨[],[]⟩ }:=by
 have hl:=@jdi a ha
 rw[qac,pg21]
 simp[ir21,qaf]
 generalize hr:ev pg (.code (.going _ L21_0) _)=o
 obtain⟨r,rfl,f,hf,rfl⟩:∃r,o=some r/\_:=by rw[<-hr];exact hl (by simp[zll])
 simp[zll]
def z9f(l D:List Mov)(g w k:Nat):Tm:=[none,none,none,some (.sl 1 g w 0 D.length),none,none,some (mvs l),some (num l.length),some (num k)]++List.replicate 9 none
abbrev zrg(D:List Mov)(g w:Nat):H:=[⟨0,.arr 0 []⟩,⟨g,.arr w (D.map Mov.row)⟩]
theorem z1d(l:List Mov)(hx:l.length<=10000000){st:St}(h0:At (z9f l [] 0 0 0) (zrg [] 0 0) st):∃r,ev pg (.code (.going 2 L22_0) st)=some r/\∃g w,qag (.exit 0) (z9f l l g w l.length) (zrg l g w) r:=by
 refine qbn (α:=Nat×Nat) l.length (fun k a=>z9f l (l.take k) a.1 a.2 k) (fun k a=>zrg (l.take k) a.1 a.2) (fun _ a=>a.2=4\/a.2=0) _ ?_ ?_ (0,0) (.inr rfl) h0
 .rintro k ⟨g,w⟩ f hf hk hw
  have hk':(k:Int)<l.length:=by omega
  have wk:=qab (n:=(k:Int)+1) (by omega) (by omega)
  have ht:=quh hk
  have hl:=q5c (l:=l) (k:=k) (by omega)
  generalize l.take (k+1)=D' at *
  generalize l.take k=D at *
  subst ht
  have hap:(D.length+1)*32<=140737488355328:=by omega
  refine(?_:∃st,ev pg (.code L22_0 ⟨fill f 0 (z9f l D g w k),zrg D g w⟩)=some { st:=st }/\At (z9f l (D++[l[k]]) (g+1) 4 (k+1)) (zrg (D++[l[k]]) (g+1) 4) (qkh 2 st)).elim fun st h=>⟨_,h.1,.inl ⟨rfl,(g+1,4),.inl rfl,h.2⟩⟩
  rcases hw with h | h<;>(simp only at h;subst h;simp[z9f,L22_0,hk,hk',wk,hap,hf.ne])
 .rintro⟨g,w⟩ f hf hw
  rw[List.take_length]
  simp[z9f,L22_0,hf.ne]
theorem ev22(l:List Mov)(hx:l.length<=10000000):ev pg (.call (.fn 22 [] []) [mvs l] [])=some { v:=mvs l,st:=⟨[],[]⟩ }:=by
 have hl:=fun st=>z1d l hx (st:=st)
 rw[qac,pg22]
 simp[ir22,qaf]
 generalize hr:ev pg (.code (.going _ L22_0) _)=o
 obtain⟨r,rfl,g,w,f,hf,rfl⟩:∃r,o=some r/\_:=by rw[<-hr];exact hl _ (by simp[z9f])
 clear hr
 simp[z9f]
 try rfl
def zgj(l:List Mov)(i j:Nat):Tm:=[some (mvs l),some (num i),none,none,some (.bool false),some (num j)]++List.replicate 21 none
def zlw:Tm:=[none,none,none,none,some (.bool false)]++List.replicate 22 none
theorem jfa(l:List Mov)(i:Nat)(hi:i<l.length)(hl:l.length<=10000000){st:St}(h0:At (zgj l i (i+1+0)) [] st) :
  ∃r,ev pg (.code (.going 0 L86_0) st)=some r/\qkt (l.drop (i+1)).length (fun k=>(((l.drop (i+1))[k]?).map fun w=>decide (w.a=l[i].a)).getD false) (fun _ r=>qag .ret zlw [] r) (qag (.exit 0) (zgj l i (i+1+(l.drop (i+1)).length)) []) r:=by
 refine qcw _ _ (fun k=>zgj l i (i+1+k)) [] _ _ ?_ ?_ ?_ h0
 .intro k f hf hk hp
  have hk2:i+1+k<l.length:=by rw[List.length_drop]at hk;omega
  simp only[jA hk,Option.map_some,Option.getD_some,List.getElem_drop,decide_eq_false_iff_not]at hp
  have e:i+1+(k+1)=(i+1+k)+1:=by omega
  rw[e]
  have hp2:∀j (hj:j<l.length),j=i+1+k->¬l[j].a=l[i].a:=by rintro j hj rfl;exact hp
  obtain⟨j,hj⟩:∃j,j=i+1+k:=⟨_,rfl⟩
  rw[<-hj]at hk2 ⊢
  have hp:=hp2 j hk2 hj
  have hj':(j:Int)<l.length:=by omega
  have wk:=qab (n:=(j:Int)+1) (by omega) (by omega)
  simp[qaa,exT,qae,zgj,L86_0,hi,hk2,hj',wk,hp,hf.ne]
 .intro k f hf hk hp
  have hk2:i+1+k<l.length:=by rw[List.length_drop]at hk;omega
  simp only[jA hk,Option.map_some,Option.getD_some,List.getElem_drop,jW]at hp
  have hp2:∀j (hj:j<l.length),j=i+1+k->l[j].a=l[i].a:=by rintro j hj rfl;exact hp
  obtain⟨j,hj⟩:∃j,j=i+1+k:=⟨_,rfl⟩
  rw[<-hj]at hk2 ⊢
  have hp:=hp2 j hk2 hj
  have hj':(j:Int)<l.length:=by omega
  simp[qaa,exT,qae,zgj,zlw,L86_0,hi,hk2,hj',hp,hf.ne]
 .intro f hf
  have e:i+1+(l.drop (i+1)).length=l.length:=by rw[List.length_drop];omega
  rw[e]
  simp[qaa,exT,qae,zgj,L86_0,hf.ne]
theorem ev86(l:List Mov)(i:Nat)(hi:i<l.length)(hl:l.length<=10000000):ev pg (.call (.fn 86 [] []) [mvs l,num i] [])=some { v:=.bool (q4i l i),st:=⟨[],[]⟩ }:=by
 have hlp:=@jfa l i hi hl
 have wi:=qab (n:=(i:Int)+1) (by omega) (by omega)
 rw[qac,pg86]
 unfold q4i
 rw[jA hi,Option.map_some,Option.getD_some]
 simp[ir86,wi,qaf]
 generalize hr:ev pg (.code (.going _ L86_0) _)=o
 obtain⟨r,rfl,hQ⟩:∃r,o=some r/\_:=by rw[<-hr];exact hlp (by simp[zgj])
 clear hr
 rcases qvo hQ with⟨h1,k,f,hf,rfl⟩ | ⟨h1,f,hf,rfl⟩
 .rw[h1]
  simp[zlw]
 .rw[h1]
  simp[zgj]
theorem z9l(y:Ent)(out:List Mov)(k:Nat):(zkg y out k).length=out.length:=by
 unfold zkg
 split
 .split
  .rw[jU]
  .rfl
 .rfl
theorem zar(y:Ent)(out:List Mov)(k:Nat):(zcf y out k).length=out.length:=by
 induction k with
 | zero=>rfl
 | succ k ih=>rw[qtt,z9l,ih]
def qqe(i g w n k:Nat):Tm:=[none,some (.bptr 0 0),some (.sl 1 0 0 0 0),some (.sl 2 g w 0 n),some (num i),some (num k)]++List.replicate 92 none
def qsk(i g w n k:Nat):Tm:=[none,some (.bptr 0 0),some (.sl 1 0 0 0 0),some (.sl 2 g w 0 n),some (num i),none,some (num k)]++List.replicate 91 none
def zav(i g w n:Nat):Tm:=[none,some (.bptr 0 0),some (.sl 1 0 0 0 0),some (.sl 2 g w 0 n),some (num i)]++List.replicate 93 none
abbrev z0h(x:Lg)(out:List Mov)(g w:Nat):H:=[⟨0,.box x.cells⟩,⟨0,.arr 0 []⟩,⟨g,.arr w (out.map Mov.row)⟩]
theorem zqq(x:Lg)(i:Nat)(hi:i<x.en.length)(out:List Mov)(ho:out.length<=10000000)(g w:Nat)(hw:w=4\/(w=0/\out=[])){st:St}(h0:At (qqe i g w out.length 0) (z0h x out g w) st) :
  ∃r,ev pg (.code (.going 3 L50_0) st)=some r/\qag (.exit 2) (qqe i g w out.length out.length) (z0h x (zcf x.en[i] out out.length) g w) r:=by
 refine qcd out.length (fun k=>qqe i g w out.length k) (fun k=>z0h x (zcf x.en[i] out k) g w) _ ?_ ?_ h0
 .intro k f hf hk
  have w4:w=4:=by
   rcases hw with h | ⟨-,h⟩
   .exact h
   .rw[h]at hk;cases hk
  subst w4
  have hk':(k:Int)<out.length:=by omega
  have wk:=qab (n:=(k:Int)+1) (by omega) (by omega)
  rw[qtt]
  have hl:=zar x.en[i] out k
  generalize zcf x.en[i] out k=D at *
  rw[<-hl]at hk hk' ho ⊢
  have e86:=ev86 D k hk ho
  unfold zkg
  rw[jA hk]
  simp only
  refine(?_:∃st,ev pg (.code L50_0 ⟨fill f 0 (qqe i g 4 D.length k),z0h x D g 4⟩)=some { st:=st }/\At (qqe i g 4 D.length (k+1)) (z0h x (if x.en[i].e.kind=0/\x.en[i].e.idx=D[k].a/\D[k].t=noT/\q4i D k=true then D.set k ⟨D[k].a,D[k].o,D[k].f,x.en[i].t⟩else D) g 4) (qkh 3 st)).elim fun st h=>⟨_,h.1,.inl ⟨rfl,h.2⟩⟩
  by_cases c1:x.en[i].e.kind=0
  .by_cases c2:x.en[i].e.idx=D[k].a
   .by_cases c3:D[k].t=noT
    .by_cases c4:q4i D k=true
     .rw[if_pos ⟨c1,c2,c3,c4⟩]
      rw[c4]at e86
      simp[qaa,exT,qae,qqe,L50_0,hi,hk,hk',wk,c1,c2,c3,e86,hf.ne]
     .rw[if_neg (fun h=>c4 h.2.2.2)]
      rw[eq_false_of_ne_true c4]at e86
      simp[qaa,exT,qae,qqe,L50_0,hi,hk,hk',wk,c1,c2,c3,e86,hf.ne]
    .rw[if_neg (fun h=>c3 h.2.2.1)]
     have c3b:(D[k].t==noT)=false:=by simpa using c3
     simp[qaa,exT,qae,qqe,L50_0,hi,hk,hk',wk,c1,c2,c3,c3b,hf.ne]
   .rw[if_neg (fun h=>c2 h.2.1)]
    have c2b:(x.en[i].e.idx==D[k].a)=false:=by simpa using c2
    simp[qaa,exT,qae,qqe,L50_0,hi,hk,hk',wk,c1,c2,c2b,hf.ne]
  .rw[if_neg (fun h=>c1 h.1)]
   have c1b:(x.en[i].e.kind==0)=false:=by simpa using c1
   simp[qaa,exT,qae,qqe,L50_0,hi,hk,hk',wk,c1,c1b,hf.ne]
 .intro f hf
  simp[qaa,exT,qae,qqe,L50_0,hf.ne]
def bmv(t:Int)(s:List (Int×Bool)):List Mov:=s.map fun p=>⟨p.1,p.2,t,noT⟩
theorem q5v(t:Int):∀(s:List (Int×Bool)) (z:List Mov×List (Int×Nat)),(begM t s z).1=z.1++bmv t s
 | [],z=>by simp[begM,bmv]
 | a :: r,z=>by
  have:=q5v t r (begS t z a)
  unfold begM at this ⊢
  rw[List.foldl_cons,this]
  simp[begS,bmv]
theorem zqc(x:Lg)(i:Nat)(hi:i<x.en.length)(out:List Mov)(ho:out.length<=10000000)(hs:x.en[i].s.length<=1000)(g w:Nat)(hw:w=4\/(w=0/\out=[])){st:St}(h0:At (qsk i g w out.length 0) (z0h x out g w) st) :
  ∃r,ev pg (.code (.going 3 L50_1) st)=some r/\∃g' w',(w'=4\/(w'=0/\out++bmv x.en[i].t x.en[i].s=[]))/\qag (.exit 4) (qsk i g' w' (out++bmv x.en[i].t x.en[i].s).length x.en[i].s.length) (z0h x (out++bmv x.en[i].t x.en[i].s) g' w') r:=by
 have hend:bmv x.en[i].t x.en[i].s=bmv x.en[i].t (x.en[i].s.take x.en[i].s.length):=by rw[List.take_length]
 rw[hend]
 refine qbn (α:=Nat×Nat) x.en[i].s.length (fun k a=>qsk i a.1 a.2 (out++bmv x.en[i].t (x.en[i].s.take k)).length k) (fun k a=>z0h x (out++bmv x.en[i].t (x.en[i].s.take k)) a.1 a.2) (fun k a=>a.2=4\/(a.2=0/\out++bmv x.en[i].t (x.en[i].s.take k)=[])) _ ?_ ?_ (g,w) (by simpa[bmv]using hw) (by simpa[bmv]using h0)
 .rintro k ⟨g,w⟩ f hf hk hw
  simp only at hw
  have hk':(k:Int)<x.en[i].s.length:=by omega
  have wk:=qab (n:=(k:Int)+1) (by omega) (by omega)
  have ht:out++bmv x.en[i].t (x.en[i].s.take (k+1))=(out++bmv x.en[i].t (x.en[i].s.take k))++[⟨x.en[i].s[k].1,x.en[i].s[k].2,x.en[i].t,noT⟩]:=by
   rw[jK hk]
   simp only[bmv,List.map_append,List.map_cons,List.map_nil,List.append_assoc]
  have hl:(out++bmv x.en[i].t (x.en[i].s.take k)).length<=10001000:=by
   simp[bmv];omega
  rw[ht]
  generalize out++bmv x.en[i].t (x.en[i].s.take k)=D at *
  have hap:(D.length+1)*32<=140737488355328:=by omega
  refine(?_:∃st,ev pg (.code L50_1 ⟨fill f 0 (qsk i g w D.length k),z0h x D g w⟩)=some { st:=st }/\At (qsk i (g+1) 4 (D++[(⟨x.en[i].s[k].1,x.en[i].s[k].2,x.en[i].t,noT⟩:Mov)]).length (k+1)) (z0h x (D++[(⟨x.en[i].s[k].1,x.en[i].s[k].2,x.en[i].t,noT⟩:Mov)]) (g+1) 4) (qkh 3 st)).elim fun st h=>⟨_,h.1,.inl ⟨rfl,(g+1,4),.inl rfl,h.2⟩⟩
  rcases hw with rfl | ⟨rfl,rfl⟩
  .simp[qaa,exT,qae,qsk,L50_1,hi,hk,hk',wk,hap,hf.ne]
  .simp[qaa,exT,qae,qsk,L50_1,hi,hk,hk',wk,hap,hf.ne]
 .rintro⟨g,w⟩ f hf hw
  simp only at hw
  refine(?_:∃r,ev pg (.code L50_1 ⟨fill f 0 (qsk i g w (out++bmv x.en[i].t (x.en[i].s.take x.en[i].s.length)).length x.en[i].s.length),z0h x (out++bmv x.en[i].t (x.en[i].s.take x.en[i].s.length)) g w⟩)=some r/\r.x ≠ .normal/\qag (.exit 4) (qsk i g w (out++bmv x.en[i].t (x.en[i].s.take x.en[i].s.length)).length x.en[i].s.length) (z0h x (out++bmv x.en[i].t (x.en[i].s.take x.en[i].s.length)) g w) r).imp fun r h=>⟨h.1,h.2.1,g,w,hw,h.2.2⟩
  generalize out++bmv x.en[i].t (x.en[i].s.take x.en[i].s.length)=D at *
  simp[qaa,exT,qae,qsk,L50_1,hi,hf.ne]
theorem z1y(x:Lg)(hx:x.ok){st:St}(h0:At (zav 0 0 0 0) (z0h x [] 0 0) st) :
  ∃r,ev pg (.code (.going 3 L50_2) st)=some r/\∃g w,(w=4\/(w=0/\qis x.en=[]))/\qag (.exit 0) (zav x.en.length g w (qis x.en).length) (z0h x (qis x.en) g w) r:=by
 have hend:qis x.en=(qdx (x.en.take x.en.length)).1:=by rw[List.take_length];rfl
 rw[hend]
 refine qbn (α:=Nat×Nat) x.en.length (fun k a=>zav k a.1 a.2 (qdx (x.en.take k)).1.length) (fun k a=>z0h x (qdx (x.en.take k)).1 a.1 a.2) (fun k a=>a.2=4\/(a.2=0/\(qdx (x.en.take k)).1=[])) _ ?_ ?_ (0,0) (.inr ⟨rfl,rfl⟩) h0
 .rintro k ⟨g,w⟩ f hf hk hw
  simp only at hw
  have hn:=hx.len
  have hk':(k:Int)<x.en.length:=by omega
  have wk:=qab (n:=(k:Int)+1) (by omega) (by omega)
  have hz:=qtp hk
  have hlen:(qdx (x.en.take k)).1.length<=10000000:=by
   have:=qqi (en:=x.en.take k) (fun y hy=>(hx.each y (List.mem_of_mem_take hy)).2)
   have h2:(x.en.take k).length<=4096:=by rw[List.length_take];omega
   omega
  have hlat:=q8q (x.en.take k)
  have hs:=(hx.each _ (jH hk)).2
  rw[hz]
  unfold qnt
  rw[q5v]
  generalize qdx (x.en.take k)=z at *
  have hE:=z9r hlat x.en[k]
  have hEl:=qpl z.1 z.2 x.en[k]
  have la:=fun st=>zqq x k hk z.1 hlen g w hw (st:=st)
  rw[hE]at la
  have hw2:w=4\/(w=0/\qlx z.1 z.2 x.en[k]=[]):=by
   rcases hw with h | ⟨h,h2⟩
   .exact .inl h
   .refine .inr ⟨h,List.eq_nil_of_length_eq_zero ?_⟩
    rw[hEl,h2];rfl
  have lb:=fun st=>zqc x k hk (qlx z.1 z.2 x.en[k]) (by omega) hs g w hw2 (st:=st)
  rw[<-hEl]at la
  refine(?_:∃st,ev pg (.code L50_2 ⟨fill f 0 (zav k g w z.1.length),z0h x z.1 g w⟩)=some { st:=st }/\∃g' w',(w'=4\/(w'=0/\qlx z.1 z.2 x.en[k]++bmv x.en[k].t x.en[k].s=[]))/\At (zav (k+1) g' w' (qlx z.1 z.2 x.en[k]++bmv x.en[k].t x.en[k].s).length) (z0h x (qlx z.1 z.2 x.en[k]++bmv x.en[k].t x.en[k].s) g' w') (qkh 3 st)).elim fun st h=>⟨_,h.1,.inl ⟨rfl,h.2.elim fun g' h=>h.elim fun w' h=>⟨(g',w'),h.1,h.2⟩⟩⟩
  rw[<-hEl]
  generalize qlx z.1 z.2 x.en[k]=E at *
  generalize hF:E++bmv x.en[k].t x.en[k].s=F at *
  simp[qaa,exT,qae,zav,L50_2,hk,hk',qaf,hf.ne]
  generalize hr:ev pg (.code (.going _ L50_0) _)=o
  obtain⟨r,rfl,f2,hf2,rfl⟩:∃r,o=some r/\_:=by rw[<-hr];exact la _ (by simp[qqe,hf.ne])
  clear hr
  simp[qaa,exT,qae,qqe,qaf,hf2.ne]
  generalize hr:ev pg (.code (.going _ L50_1) _)=o
  obtain⟨r,rfl,g',w',hw',f3,hf3,rfl⟩:∃r,o=some r/\_:=by rw[<-hr];exact lb _ (by simp[qsk,hf2.ne])
  clear hr
  simp[qaa,exT,qae,qsk,wk,hf3.ne]
  exact⟨g',hw'.elim (fun h=>.inl ⟨rfl,h⟩) fun h=>.inr ⟨h,rfl⟩⟩
 .rintro⟨g,w⟩ f hf hw
  simp only at hw
  refine(?_:∃r,ev pg (.code L50_2 ⟨fill f 0 (zav x.en.length g w (qdx (x.en.take x.en.length)).1.length),z0h x (qdx (x.en.take x.en.length)).1 g w⟩)=some r/\r.x ≠ .normal/\qag (.exit 0) (zav x.en.length g w (qdx (x.en.take x.en.length)).1.length) (z0h x (qdx (x.en.take x.en.length)).1 g w) r).imp fun r h=>⟨h.1,h.2.1,g,w,hw,h.2.2⟩
  generalize (qdx (x.en.take x.en.length)).1=D at *
  simp[qaa,exT,qae,zav,L50_2,hf.ne]
theorem ev50(x:Lg)(hx:x.ok):ev pg (.call (.fn 50 [] []) [x.v] [])=some { v:=mvs (qis x.en),st:=⟨[],[]⟩ }:=by
 have hlp:=fun st=>z1y x hx (st:=st)
 generalize qis x.en=M at *
 rw[qac,pg50]
 simp[ir50,qaf]
 generalize hr:ev pg (.code (.going _ L50_2) _)=o
 obtain⟨r,rfl,g,w,hw,f,hf,rfl⟩:∃r,o=some r/\_:=by rw[<-hr];exact hlp _ (by simp[zav])
 clear hr
 rcases hw with rfl | ⟨rfl,rfl⟩
 .simp[zav]
 .simp[zav]
theorem ev20{m:Mch}(hs:m.c.small=true)(ht:m.ts.length<=100000){l:List Prs}(hl:l.length<=100000)(u:Int):ev pg (.call (.fn 20 [] []) [m.v,prs l,num u] [])=some { v:=.tup [mvs (qmy m l u).1,num (qmy m l u).2],st:=⟨[],[]⟩ }:=by
 have e14:=ev14 hs ht hl u
 have hok:=qyt hs l u
 have e50:=ev50 _ hok
 unfold qmy
 rw[qac,pg20]
 by_cases h:(qms m l u).2=0
 .rw[if_pos h]
  rw[h]at e14
  generalize qis (qms m l u).1.en=M at *
  generalize (qms m l u).1=x at *
  simp[ir20,e14,e50]
 .rw[if_neg h]
  have hb:((qms m l u).2==0)=false:=by simpa using h
  generalize (qms m l u).2=e at *
  generalize (qms m l u).1=x at *
  simp[ir20,e14,h,hb]
theorem z2m{m:Mch}(hs:m.c.small=true)(l:List Prs)(u:Int):(qms m l u).1.st.small/\(qms m l u).1.cf.length<=100000:=by
 have hz:zLg.st.small/\zLg.cf.length<=100000:=⟨⟨by simp[zLg,zeroS],by simp[zLg,zeroS],by simp[zLg,zeroS],by simp[zLg,zeroS],by simp[zLg,zeroS]⟩,by simp[zLg]⟩
 unfold qms
 split
 .exact hz
 .rename_i h1
  split
  .exact hz
  .rename_i h2
   have hg:qer m l u=0:=by simpa using h1
   have hst:(qby m.c).2.2=0:=by simpa using h2
   unfold zlq
   split
   .rename_i lg hc
    obtain⟨g1,g2,g3,g4,g5⟩:=qhm hg
    obtain⟨r1,r2,r3,r4⟩:=qyp g5 (P:=fun _=>True) (fun _ _ _ _ _ _=>trivial) _ _ _ _ _ (qsn hs hg hst) (by simp) (by simp) (qmg _) hc
    have hN:qfs m.c<=200:=qhy r3.rdy.mid
    have:=r4.len
    exact⟨r3.rdy.small,by simp only;omega⟩
   .exact hz
   .exact hz
theorem z8k(l:List (Int×Int)):qwa (l.map zpt) (l.map zpt)=true:=qhg (fun x=>by simp) l
theorem ev3(m:Mch)(hm:m.ts.length*16<=140737488355328)(l:List Prs)(hp:l.length*24<=140737488355328)(u:Int) :
  ev pg (.call (.fn 3 [] []) [m.v,prs l,num u] [])=some { v:=.bool true,st:=⟨[],[]⟩ }:=by
 have e10:=ev10 m hm
 have e11:=ev11 l hp
 have e12:=ev12
 have e9:=ev9 m l u
 rw[qac,pg3]
 by_cases hs:qwy m l u=true
 .obtain⟨f1,f2,f3⟩:=q0e hs
  rw[hs]at e9
  have e13:=ev13 f1 (by omega) (l:=l) (by omega) u
  have e14:=ev14 f1 (by omega) (l:=l) (by omega) u
  have e15:=ev15 m f1 (by omega)
  have e16:=ev16 m f1 (by omega)
  have hok:=qyt f1 l u
  obtain⟨k1,k2⟩:=z2m f1 l u
  generalize qms m l u=z at *
  obtain⟨y,e⟩:=z
  simp only at *
  have n1:=hok.len
  have e18:=ev18 y (by omega)
  have e17:=ev17s y n1 (fun z hz=>(hok.each z hz).2) k2 k1
  generalize qft m=ce at *
  simp[qaa,exT,qae,ir3,e10,e11,e9,e12,e13,e14,e15,e16,e17,e18,z8k,zhp]
 .rw[eq_false_of_ne_true hs]at e9
  simp[qaa,exT,qae,ir3,e10,e11,e9,e12]
theorem ev4(m:Mch)(hm:m.ts.length*16<=140737488355328)(l:List Prs)(hp:l.length*24<=140737488355328)(u:Int) :
  ev pg (.call (.fn 4 [] []) [m.v,prs l,num u] [])=some { v:=.bool true,st:=⟨[],[]⟩ }:=by
 have e10:=ev10 m hm
 have e11:=ev11 l hp
 have e12:=ev12
 have e9:=ev9 m l u
 rw[qac,pg4]
 by_cases hs:qwy m l u=true
 .obtain⟨f1,f2,f3⟩:=q0e hs
  rw[hs]at e9
  have e19:=ev19 f1 (by omega) (l:=l) (by omega) u
  have e20:=ev20 f1 (by omega) (l:=l) (by omega) u
  have hln:(qmy m l u).1.length<=10000000:=by
   have hok:=qyt f1 l u
   unfold qmy
   split
   .have:=qqi (fun y hy=>(hok.each y hy).2)
    have h2:=hok.len
    unfold qis
    simp only
    omega
   .simp
  generalize qmy m l u=z at *
  obtain⟨y,e⟩:=z
  simp only at *
  have e22:=ev22 y hln
  have e21:=ev21s y hln
  simp[qaa,exT,qae,ir4,e10,e11,e9,e12,e19,e20,e21,e22]
 .rw[eq_false_of_ne_true hs]at e9
  simp[qaa,exT,qae,ir4,e10,e11,e9,e12]
end Go.Proofs.YtlhciedghbmjjaaGreat
