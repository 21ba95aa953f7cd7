/- Moves, by the program. The examples of the law of machines in time. The examples of the law of machines in time: they are right. Within and Middle, by the program and by the reference; the law SimulateMiddles, in Am: it returns true. -/
import Derived.Test.YtddeacahiilikaaGreatMSi14
import Derived.KernelRfl
import Derived.Test.YtddeacahiilikaaGreatMBg1
import Derived.Test.YtddeacahiilikaaGreatMMi1
import Derived.Test.YtddeacahiilikaaGreatMSi3
import Derived.Test.YtddeacahiilikaaGreatMZ2
set_option linter.all false
namespace Go.Proofs.YtddeacahiilikaaGreat
open Go Go.Am Go.Proofs
set_option maxRecDepth 100000
set_option maxHeartbeats 4000000
theorem q2c{m:Mch}{u:Int}(hu:u<=1000000){P:Ent->Prop}(hP:∀c d,Cok m c->nxD m c=some d->d.t<=u->(qax m.c c.s d.e).2.2=0->P ⟨d.t,d.e,qgb c.s (qax m.c c.s d.e).1⟩) :
  ∀(f:Nat) (c:Cst) (En:List Ent) (C:List Int) (lg:Lg),Cok m c->(∀y∈En,P y)->En.length<=4096->Lin (qjv m.c) C->goS m u f c En C=some (.inr lg)->(∀y∈lg.en,P y)/\lg.en.length<=4096/\Lie m.c lg.st/\Lin (qjv m.c) lg.cf
 | 0,_,_,_,_,_,_,_,_,h=>by cases h
 | f+1,c,En,C,lg,hok,hE,hn,hC,h=>by
  unfold goS at h
  split at h
  .cases h
   exact⟨hE,hn,hok.lie,hC⟩
  .rename_i d hd
   split at h
   .cases h
    exact⟨hE,hn,hok.lie,hC⟩
   .rename_i hut
    split at h
    .exact q2c hu hP f _ _ _ _ hok.drop hE hn hC h
    .split at h
     .cases h
     .rename_i h4
      split at h
      .rename_i he
       refine q2c hu hP f _ _ _ _ (hok.go hd (by omega) he) ?_ ?_ (Lin.norm _ _) h
       .intro y hy
        rcases jQ.1 hy with hy | hy
        .exact hE y hy
        .rw[List.mem_singleton]at hy
         rw[hy]
         exact hP c d hok hd (by omega) he
       .rw[jF]
        simp
        omega
      .cases h
theorem q6v{m:Mch}{c:Cst}(h:Cok m c)(t:Ste):(qgb c.s t).length<=6:=by
 have a:=q6w c.s t
 have b:=h.lie.ends.1
 omega
theorem zsm{m:Mch}(hs:m.c.small=true)(l:List Prs)(u:Int):(qyb m l u).1.ok:=by
 have hz:zLg.ok:=⟨by simp[zLg],by simp[zLg]⟩
 unfold qyb
 split
 .exact hz
 .rename_i h1
  split
  .exact hz
  .rename_i h2
   have hg:qkc m l u=0:=by simpa using h1
   have hst:(qcg m.c).2.2=0:=by simpa using h2
   unfold z4d
   split
   .rename_i lg hc
    obtain⟨g1,g2,g3,g4,g5⟩:=qoq hg
    obtain⟨r1,r2,r3,r4⟩:=q2c g5 (P:=fun y=>(y.e.kind=0\/y.e.kind=1\/y.e.kind=2)/\y.s.length<=1000) (fun c d hok hd _ _=>by
     have:=(hok.due d (qsc hd)).2
     have hf:=q6v hok (qax m.c c.s d.e).1
     exact⟨this.elim (fun h=>.inr (.inr h.1)) (fun h=>h.elim (fun h=>.inl h.1) fun h=>.inr (.inl h.1)),by simp only;omega⟩) _ _ _ _ _ (q3r hs hg hst) (by simp) (by simp) (qvp _) hc
    exact⟨r2,r1⟩
   .exact hz
   .exact hz
def q5d(m:Mch)(l:List Prs)(u:Int):List Mov×Int:=if(qyb m l u).2=0 then(quw (qyb m l u).1.en,0)else([],(qyb m l u).2)
theorem ev50{m:Mch}(hs:m.c.small=true)(ht:m.ts.length<=100000){l:List Prs}(hl:l.length<=100000)(u:Int):ev pg (.call (.fn 50 [] []) [m.v,prs l,num u] [])=some { v:=.tup [mvs (q5d m l u).1,num (q5d m l u).2],st:=⟨[],[]⟩ }:=by
 have e13:=ev28 hs ht hl u
 have hok:=zsm hs l u
 have hlp:=fun st=>z8a m (qyb m l u).1 hok (st:=st)
 unfold q5d
 rw[qac,pg50]
 by_cases h:(qyb m l u).2=0
 .rw[if_pos h]
  rw[h]at e13
  generalize quw (qyb m l u).1.en=M at *
  generalize (qgm (qyb m l u).1.en).2=L at *
  generalize (qyb m l u).1=x at *
  simp[ir50,e13,qaf]
  generalize hr:ev pg (.code (.going _ L50_1) _)=o
  obtain⟨r,rfl,g,w,hw,f,hf,rfl⟩:∃r,o=some r/\_:=by rw[<-hr];exact hlp _ (by simp[q3i,zgx])
  clear hr
  rcases hw with rfl | ⟨rfl,rfl⟩
  .simp[q3i]
  .simp[q3i]
 .rw[if_neg h]
  have hb:((qyb m l u).2==0)=false:=by simpa using h
  generalize (qyb m l u).2=e at *
  generalize (qyb m l u).1=x at *
  simp[ir50,e13,h,hb]
end Go.Proofs.YtddeacahiilikaaGreat
namespace Go.Proofs.YtddeacahiilikaaGreat
open Go Go.Am Go.Proofs
set_option maxRecDepth 1000000
set_option maxHeartbeats 4000000
theorem z5b(a:List Mov)(ha:a.length<=4096){st:St}(h0:At ([some (mvs a),some (mvs a),none,none,none,none,none,none,none,none,none,some (mvs a),some (num a.length),some (num 0)]++List.replicate 12 none) [] st) :
  ∃r,ev pg (.code (.going 0 L51_0) st)=some r/\qai (.exit 0) ([some (mvs a),some (mvs a),none,none,none,none,none,none,none,none,none,some (mvs a),some (num a.length),some (num a.length)]++List.replicate 12 none) [] r:=by
 refine qfd a.length (fun k=>[some (mvs a),some (mvs a),none,none,none,none,none,none,none,none,none,some (mvs a),some (num a.length),some (num k)]++List.replicate 12 none) (fun _=>[]) _ ?_ ?_ h0
 .intro k f hf hk
  have hk':(k:Int)<a.length:=by omega
  have wk:=qab (n:=(k:Int)+1) (by omega) (by omega)
  simp[qaa,exT,qad,L51_0,hk,hk',wk,hf.ne]
 .intro f hf
  simp[L51_0,hf.ne]
theorem ev51(a:List Mov)(ha:a.length<=4096):ev pg (.call (.fn 51 [] []) [mvs a,mvs a] [])=some { v:=.bool true,st:=⟨[],[]⟩ }:=by
 have hl:=@z5b a ha
 rw[qac,pg51]
 simp[ir51,qaf]
 generalize hr:ev pg (.code (.going _ L51_0) _)=o
 obtain⟨r,rfl,f,hf,rfl⟩:∃r,o=some r/\_:=by rw[<-hr];exact hl (by simp)
 simp
def smM:Mch:=⟨one,[(100,80)]⟩
def smA:Lg:=⟨[⟨10,⟨2,0,true⟩,[(0,true)]⟩,⟨110,⟨0,0,false⟩,[(0,false)]⟩,⟨190,⟨0,0,false⟩,[(0,true)]⟩,⟨290,⟨0,0,false⟩,[(0,false)]⟩],[],⟨[3],[false],[true],[false,true],[0,0]⟩⟩
def smB:Lg:=⟨[⟨10,⟨2,0,true⟩,[(0,true)]⟩,⟨110,⟨0,0,false⟩,[(0,false)]⟩,⟨150,⟨2,0,false⟩,[]⟩,⟨190,⟨0,0,false⟩,[]⟩],[],⟨[0],[false],[false],[false,true],[0,0]⟩⟩
def smV:List Mov:=[⟨0,true,10,110⟩,⟨0,false,110,190⟩,⟨0,true,190,290⟩,⟨0,false,290,noT⟩]
theorem sm1:qyb smM [⟨10,0,true⟩] 300=(smA,0):=by kernel_rfl
theorem sm2:qyb smM [⟨10,0,true⟩,⟨150,0,false⟩] 300=(smB,0):=by kernel_rfl
theorem sm3:quw smA.en=smV:=by kernel_rfl
theorem sm0:smM.c.small=true:=zry
def zsw(k:Nat):Tm:=[some (.bool false),some (.bptr 5 0),some (.immc [[num 10,num 0,.bool true]]),some (.bptr 13 0),none,some (mvs smV)]++List.replicate 39 none++[some (.imm [[num 10],[num 110],[num 190],[num 290]]),some (num 4),some (num k)]++List.replicate 86 none
abbrev z4f:H:=[o0s,o0s,o0s,o0s,o0s,⟨0,.box smM.cells⟩,o0s,o0s,o0s,o0s,o0s,o0s,o0s,⟨0,.box smA.cells⟩]
theorem z7v{st:St}(h0:At (zsw 0) z4f st):∃r,ev pg (.code (.going 14 L16_0) st)=some r/\qai (.exit 0) (zsw 4) z4f r:=by
 refine qfd 4 zsw (fun _=>z4f) _ ?_ ?_ h0
 .intro k f hf hk
  have hk4:k=0\/k=1\/k=2\/k=3:=by omega
  have w1:IntKind.i64.wrap 1=1:=by decide
  have w2:IntKind.i64.wrap 2=2:=by decide
  have w3:IntKind.i64.wrap 3=3:=by decide
  have w4:IntKind.i64.wrap 4=4:=by decide
  rcases hk4 with rfl | rfl | rfl | rfl<;>simp[zsw,L16_0,smA,w1,w2,w3,w4,hf.ne]
 .intro f hf
  simp[zsw,L16_0,hf.ne]
end Go.Proofs.YtddeacahiilikaaGreat
namespace Go.Proofs.YtddeacahiilikaaGreat
open Go Go.Am Go.Proofs
set_option maxRecDepth 1000000
set_option maxHeartbeats 4000000
abbrev smX:V:=.agg [num one.act,.imm (one.inputs.map qqm),.imm (one.signals.map Sg.row),qck one.plus,qck one.minus,.imm [[.int .i64 100,.int .i64 80]]]
theorem ev16:ev pg (.call (.fn 16 [] []) [] [])=some { v:=.bool true,st:=⟨[],[]⟩ }:=by
 have e13a:ev pg (.call (.fn 28 [] []) [smX,.imm [[.int .i64 10,.int .i64 0,.bool true]],.int .i64 300] [])=some { v:=.tup [smA.v,num 0],st:=⟨[],[]⟩ }:=by
  have e:=ev28 (m:=smM) sm0 (by simp[smM]) (l:=[⟨10,0,true⟩]) (by simp) 300
  rw[sm1]at e
  exact e
 have e13b:ev pg (.call (.fn 28 [] []) [smX,.imm [[.int .i64 10,.int .i64 0,.bool true],[.int .i64 150,.int .i64 0,.bool false]],.int .i64 300] [])=some { v:=.tup [smB.v,num 0],st:=⟨[],[]⟩ }:=by
  have e:=ev28 (m:=smM) sm0 (by simp[smM]) (l:=[⟨10,0,true⟩,⟨150,0,false⟩]) (by simp) 300
  rw[sm2]at e
  exact e
 have e19:ev pg (.call (.fn 50 [] []) [smX,.imm [[.int .i64 10,.int .i64 0,.bool true]],.int .i64 300] [])=some { v:=.tup [mvs smV,num 0],st:=⟨[],[]⟩ }:=by
  have e:=ev50 (m:=smM) sm0 (by simp[smM]) (l:=[⟨10,0,true⟩]) (by simp) 300
  unfold q5d at e
  rw[sm1]at e
  simp only[if_true]at e
  rw[sm3]at e
  exact e
 have e38:ev pg (.call (.fn 51 [] []) [mvs smV,.imm [[.int .i64 0,.bool true,.int .i64 10,.int .i64 110],[.int .i64 0,.bool false,.int .i64 110,.int .i64 190],[.int .i64 0,.bool true,.int .i64 190,.int .i64 290],[.int .i64 0,.bool false,.int .i64 290,.int .i64 (-1099511627776)]]] [])=some { v:=.bool true,st:=⟨[],[]⟩ }:=ev51 smV (by simp[smV])
 have w0:IntKind.i64.wrap 0=0:=by decide
 have e37:=ev49
 have l1:(smA.en.length:Int)=4:=rfl
 have l2:(smA.cf.length:Int)=0:=rfl
 rw[qac,pg16]
 simp[ir16,e37,e13a,e19,l1,l2,w0,qaf]
 generalize hr:ev pg (.code (.going _ L16_0) _)=o
 obtain⟨r,rfl,f,hf,rfl⟩:∃r,o=some r/\_:=by
  rw[<-hr]
  refine z7v ?_
  simp[zsw]
  exact⟨rfl,rfl,rfl,rfl,rfl,rfl⟩
 clear hr
 have c0:smM.cells=[num one.act,.imm (one.inputs.map qqm),.imm (one.signals.map Sg.row),qck one.plus,qck one.minus,.imm [[.int .i64 100,.int .i64 80]]]:=rfl
 simp only[z4f,c0]
 simp[qaa,exT,qad,zsw,e38,e13b,smB]
def inS(a b n:Int):Bool:=decide (a<=n)&&decide (n<=b)
theorem ev54(a b n:Int):ev pg (.call (.fn 54 [] []) [.agg [num a,num b],num n] [])=some { v:=.bool (inS a b n),st:=⟨[],[]⟩ }:=by
 rw[qac,pg54]
 unfold inS
 by_cases h:a<=n<;>simp[ir54,h]
theorem ev56(a b n:Int):ev pg (.call (.fn 56 [] []) [.agg [num a,num b],num n] [])=some { v:=.bool (inS a b n),st:=⟨[],[]⟩ }:=by
 rw[qac,pg56]
 unfold inS
 by_cases h:a<=n<;>simp[ir56,h]
def inT(x:Trv)(t:Int×Int):Bool:=inS x.a x.b t.1&&inS x.c x.d t.2
def qip(l:List Trv)(m:Mch):Int:=if qda l≠0 then qda l else if qeh m≠0 then qeh m else if l.length≠m.ts.length then 8 else 0
def q2p(l:List Trv)(ts:List (Int×Int))(k:Nat):Bool:=match l[k]?,ts[k]? with
 | some x,some t=>!inT x t
 | _,_=>false
def zdx(l:List Trv)(m:Mch):Bool:=decide (qip l m=0) && !((List.range m.ts.length).any (q2p l m.ts))
theorem qzc{N:Nat}{p:Nat->Bool}{X:Nat->R->Prop}{Y:R->Prop}{r:R}(h:qju N p X Y r):((List.range N).any p=true/\∃k,X k r)\/((List.range N).any p=false/\Y r):=by
 rcases h with⟨k,hk,hp,-,hX⟩ | ⟨hp,hY⟩
 .exact .inl ⟨List.any_eq_true.2 ⟨k,List.mem_range.2 hk,hp⟩,k,hX⟩
 .refine .inr ⟨?_,hY⟩
  rw[List.any_eq_false]
  intro k hk
  rw[hp k (List.mem_range.1 hk)]
  decide
abbrev zeo(l:List Trv)(m:Mch):H:=[⟨0,.box [q0x l]⟩,⟨0,.box m.cells⟩]
def zek(m:Mch)(k:Nat):Tm:=[none,none,some (.bptr 0 0),some (.bptr 1 0),some (.bool false),some (num 0),none,none,some (.fn 54 [] [])]++List.replicate 20 none++[some (tms m.ts),some (num m.ts.length),some (num k)]++List.replicate 29 none
def zea:Tm:=[none,none,none,none,some (.bool false),some (num 0)]++List.replicate 55 none
theorem z7y(l:List Trv)(m:Mch)(hl:l.length=m.ts.length)(hm:m.ts.length<=100){st:St}(h0:At (zek m 0) (zeo l m) st) :
  ∃r,ev pg (.code (.going 2 L17_0) st)=some r/\qju m.ts.length (q2p l m.ts) (fun _ r=>∃h,qai .ret zea h r) (qai (.exit 0) (zek m m.ts.length) (zeo l m)) r:=by
 refine qcx _ _ (zek m) (zeo l m) _ _ ?_ ?_ ?_ h0
 .intro k f hf hk hp
  have hk':(k:Int)<m.ts.length:=by omega
  have hkl:k<l.length:=by omega
  have wk:=qab (n:=(k:Int)+1) (by omega) (by omega)
  unfold q2p inT at hp
  rw[jA hk,jA hkl]at hp
  simp only[Bool.not_eq_false',jE]at hp
  obtain⟨p1,p2⟩:=hp
  have e1:=ev54 l[k].a l[k].b m.ts[k].1
  have e2:=ev54 l[k].c l[k].d m.ts[k].2
  rw[p1]at e1
  rw[p2]at e2
  simp[qaa,exT,qad,zek,L17_0,hk,hk',hkl,wk,e1,e2,hf.ne]
 .intro k f hf hk hp
  have hk':(k:Int)<m.ts.length:=by omega
  have hkl:k<l.length:=by omega
  unfold q2p inT at hp
  rw[jA hk,jA hkl]at hp
  simp only[Bool.not_eq_true']at hp
  have e1:=ev54 l[k].a l[k].b m.ts[k].1
  have e2:=ev54 l[k].c l[k].d m.ts[k].2
  refine(?_:∃r,ev pg (.code L17_0 ⟨fill f 0 (zek m k),zeo l m⟩)=some r/\r.x ≠ .normal/\qai .ret zea (zeo l m++[⟨0,.box (zif m.ts[k])⟩]) r).imp fun r h=>⟨h.1,h.2.1,_,h.2.2⟩
  cases p1:inS l[k].a l[k].b m.ts[k].1 with
  | false =>
   rw[p1]at e1
   simp[qaa,exT,qad,zek,zea,L17_0,hk,hk',hkl,e1,hf.ne]
  | true =>
   rw[p1,Bool.true_and]at hp
   rw[p1]at e1
   rw[hp]at e2
   simp[qaa,exT,qad,zek,zea,L17_0,hk,hk',hkl,e1,e2,hf.ne]
 .intro f hf
  simp[zek,L17_0,hf.ne]
theorem ev17(l:List Trv)(m:Mch)(hs:m.c.small=true)(hm:m.ts.length<=100):ev pg (.call (.fn 17 [] []) [.agg [q0x l],m.v] [])=some { v:=.tup [.bool (zdx l m),num (qip l m)],st:=⟨[],[]⟩ }:=by
 have e52:=ev52 l
 have e53:=ev53 m hs (by omega)
 have hlp:=fun h st=>z7y l m h hm (st:=st)
 rw[qac,pg17]
 unfold zdx
 by_cases h1:qda l=0
 .by_cases h2:qeh m=0
  .by_cases h3:l.length=m.ts.length
   .have he:qip l m=0:=by unfold qip;rw[if_neg (by simpa using h1),if_neg (by simpa using h2),if_neg (by simpa using h3)]
    rw[he]
    rw[h1]at e52
    rw[h2]at e53
    have hlp:=hlp h3
    have h3':(l.length:Int)=m.ts.length:=by omega
    simp[ir17,e52,e53,h3',qaf]
    generalize hr:ev pg (.code (.going _ L17_0) _)=o
    obtain⟨r,rfl,hQ⟩:∃r,o=some r/\_:=by rw[<-hr];exact hlp _ (by simp[zek])
    clear hr
    rcases qzc hQ with⟨q,k,h,f,hf,rfl⟩ | ⟨q,f,hf,rfl⟩
    .rw[q]
     simp[zea]
    .rw[q]
     simp[zek]
   .have he:qip l m=8:=by unfold qip;rw[if_neg (by simpa using h1),if_neg (by simpa using h2),if_pos h3]
    rw[he]
    rw[h1]at e52
    rw[h2]at e53
    have h3':¬(l.length:Int)=m.ts.length:=by omega
    simp[ir17,e52,e53,h3']
  .have he:qip l m=qeh m:=by unfold qip;rw[if_neg (by simpa using h1),if_pos h2]
   have hb:(qeh m==0)=false:=by simpa using h2
   rw[he]
   rw[h1]at e52
   generalize qeh m=e at *
   simp[ir17,e52,e53,h2,hb]
 .have he:qip l m=qda l:=by unfold qip;rw[if_pos h1]
  have hb:(qda l==0)=false:=by simpa using h1
  rw[he]
  generalize qda l=e at *
  simp[ir17,e52,h1,hb]
def zel(k:Nat):Tm:=[none,none,some (.bptr 0 0),some (.bptr 1 0),some (.bool false),some (num 0),none,none,some (num k)]++List.replicate 54 none
def zeb:Tm:=[none,none,none,none,some (.bool false),some (num 0)]++List.replicate 57 none
theorem z7z(l:List Trv)(m:Mch)(hl:l.length=m.ts.length)(hm:m.ts.length<=100){st:St}(h0:At (zel 0) (zeo l m) st) :
  ∃r,ev pg (.code (.going 2 L18_0) st)=some r/\qju m.ts.length (q2p l m.ts) (fun _ r=>∃h,qai .ret zeb h r) (qai (.exit 0) (zel m.ts.length) (zeo l m)) r:=by
 refine qcx _ _ zel (zeo l m) _ _ ?_ ?_ ?_ h0
 .intro k f hf hk hp
  have hk':(k:Int)<m.ts.length:=by omega
  have hkl:k<l.length:=by omega
  have wk:=qab (n:=(k:Int)+1) (by omega) (by omega)
  unfold q2p inT at hp
  rw[jA hk,jA hkl]at hp
  simp only[Bool.not_eq_false',jE]at hp
  obtain⟨p1,p2⟩:=hp
  have e1:=ev56 l[k].a l[k].b m.ts[k].1
  have e2:=ev56 l[k].c l[k].d m.ts[k].2
  rw[p1]at e1
  rw[p2]at e2
  simp[qaa,exT,qad,zel,L18_0,hk,hk',hkl,wk,e1,e2,hf.ne]
 .intro k f hf hk hp
  have hk':(k:Int)<m.ts.length:=by omega
  have hkl:k<l.length:=by omega
  unfold q2p inT at hp
  rw[jA hk,jA hkl]at hp
  simp only[Bool.not_eq_true']at hp
  have e1:=ev56 l[k].a l[k].b m.ts[k].1
  have e2:=ev56 l[k].c l[k].d m.ts[k].2
  refine(?_:∃r,ev pg (.code L18_0 ⟨fill f 0 (zel k),zeo l m⟩)=some r/\r.x ≠ .normal/\qai .ret zeb (zeo l m) r).imp fun r h=>⟨h.1,h.2.1,_,h.2.2⟩
  cases p1:inS l[k].a l[k].b m.ts[k].1 with
  | false =>
   rw[p1]at e1
   simp[qaa,exT,qad,zel,zeb,L18_0,hk,hk',hkl,e1,hf.ne]
  | true =>
   rw[p1,Bool.true_and]at hp
   rw[p1]at e1
   rw[hp]at e2
   simp[qaa,exT,qad,zel,zeb,L18_0,hk,hk',hkl,e1,e2,hf.ne]
 .intro f hf
  simp[zel,L18_0,hf.ne]
theorem ev18(l:List Trv)(m:Mch)(hs:m.c.small=true)(hm:m.ts.length<=100):ev pg (.call (.fn 18 [] []) [.agg [q0x l],m.v] [])=some { v:=.tup [.bool (zdx l m),num (qip l m)],st:=⟨[],[]⟩ }:=by
 have e55:=ev55 l
 have e25:=ev25 m hs (by omega)
 have hlp:=fun h st=>z7z l m h hm (st:=st)
 rw[qac,pg18]
 unfold zdx
 by_cases h1:qda l=0
 .by_cases h2:qeh m=0
  .by_cases h3:l.length=m.ts.length
   .have he:qip l m=0:=by unfold qip;rw[if_neg (by simpa using h1),if_neg (by simpa using h2),if_neg (by simpa using h3)]
    rw[he]
    rw[h1]at e55
    rw[h2]at e25
    have hlp:=hlp h3
    have h3':(l.length:Int)=m.ts.length:=by omega
    simp[ir18,e55,e25,h3',qaf]
    generalize hr:ev pg (.code (.going _ L18_0) _)=o
    obtain⟨r,rfl,hQ⟩:∃r,o=some r/\_:=by rw[<-hr];exact hlp _ (by simp[zel])
    clear hr
    rcases qzc hQ with⟨q,k,h,f,hf,rfl⟩ | ⟨q,f,hf,rfl⟩
    .rw[q]
     simp[zeb]
    .rw[q]
     simp[zel]
   .have he:qip l m=8:=by unfold qip;rw[if_neg (by simpa using h1),if_neg (by simpa using h2),if_pos h3]
    rw[he]
    rw[h1]at e55
    rw[h2]at e25
    have h3':¬(l.length:Int)=m.ts.length:=by omega
    simp[ir18,e55,e25,h3']
  .have he:qip l m=qeh m:=by unfold qip;rw[if_neg (by simpa using h1),if_pos h2]
   have hb:(qeh m==0)=false:=by simpa using h2
   rw[he]
   rw[h1]at e55
   generalize qeh m=e at *
   simp[ir18,e55,e25,h2,hb]
 .have he:qip l m=qda l:=by unfold qip;rw[if_pos h1]
  have hb:(qda l==0)=false:=by simpa using h1
  rw[he]
  generalize qda l=e at *
  simp[ir18,e55,h1,hb]
end Go.Proofs.YtddeacahiilikaaGreat
