/- Record, by the program and by the reference; the law TraceRecords, in Am: it returns true. The examples of the law of trace, run by Am. The law TraceRecords, in Am: it returns true. -/
import Derived.Test.YtddeacahiilikaaGreatRLw6
import Derived.Test.YtddeacahiilikaaGreatRRn2
import Derived.Test.YtddeacahiilikaaGreatRAf1
import Derived.KernelRfl
import Derived.Test.YtddeacahiilikaaGreatRPg6
set_option linter.all false
namespace Go.Proofs.YtddeacahiilikaaGreat
open Go Go.Am Go.Proofs
set_option maxRecDepth 100000
set_option maxHeartbeats 4000000
def qwq(F:List (Int×Bool))(S:List (List (Int×Bool))):List (Int×Bool):=F++S.flatten
def zav(S:List (List (Int×Bool)))(n g w k:Nat):Tm:=[none,none,some (.bptr 0 0),none,some (.sl 22 0 0 0 0),some (num 0),some (num 0),some (.bptr 6 0),none,some (.bptr 12 0),none,some (.bptr 20 0),none,some (.sl 21 g w 0 n)]++List.replicate 41 none++[some (.imm (S.map zay)),some (num S.length),some (num k)]++List.replicate 8 none
abbrev oy:Ob:=⟨0,.arr 0 []⟩
abbrev zor(c:Ct)(f s:Ste)(X:Crs)(D:List (Int×Bool))(g w:Nat):H:=[⟨0,.box c.cells⟩,oy,oy,oy,oy,oy,⟨0,.box f.cells⟩,oy,oy,oy,oy,oy,⟨0,.box s.cells⟩,oy,oy,oy,oy,oy,oy,oy,
 ⟨0,.box (X.st.cells++[.imm (X.strokes.map zay),qel X.conf])⟩,⟨g,.arr w (D.map qth)⟩,oy]
theorem qxw{α:Type}{S:List (List α)}{k:Nat}(hk:k<S.length):(S.take (k+1)).flatten=(S.take k).flatten++S[k]:=by
 rw[jK hk,jY]
 simp
theorem qvp{S:List (List (Int×Bool))}(F:List (Int×Bool))(hF:F.length<=1000)(hS:S.length<=100000)(hE:∀y∈S,y.length<=100000):∀k,(F++(S.take k).flatten).length<=1000+100000*100000:=fun k=>by
 have:∀(S:List (List (Int×Bool))),(∀y∈S,y.length<=100000)->S.flatten.length<=100000*S.length:=by
  intro S
  induction S with
  | nil=>intro _;simp
  | cons a r ih =>
   intro h
   have h1:=ih fun y hy=>h y (by simp[hy])
   have h2:=h a (by simp)
   simp only[List.flatten_cons,jF,List.length_cons]
   omega
 have h1:=this (S.take k) fun y hy=>hE y (List.mem_of_mem_take hy)
 have h2:(S.take k).length<=100000:=by rw[List.length_take];omega
 rw[jF]
 omega
theorem z2d(c:Ct)(f s:Ste)(X:Crs)(F:List (Int×Bool))(hF:F.length<=1000)(hS:X.strokes.length<=100000)(hE:∀y∈X.strokes,y.length<=100000)(g w:Nat)(hw:w=2\/w=0){st:St}(h0:At (zav X.strokes F.length g w 0) (zor c f s X F g w) st) :
  ∃r,ev pg (.code (.going 23 L32_0) st)=some r/\∃g w,(w=2\/w=0)/\qaj (.exit 0) (zav X.strokes (qwq F X.strokes).length g w X.strokes.length) (zor c f s X (qwq F X.strokes) g w) r:=by
 have hend:qwq F X.strokes=F++(X.strokes.take X.strokes.length).flatten:=by rw[List.take_length];rfl
 rw[hend]
 have hb:=qvp F hF hS hE
 refine qci (α:=Nat×Nat) X.strokes.length (fun k a=>zav X.strokes (F++(X.strokes.take k).flatten).length a.1 a.2 k) (fun k a=>zor c f s X (F++(X.strokes.take k).flatten) a.1 a.2) (fun _ a=>a.2=2\/a.2=0) _ ?_ ?_ (g,w) hw (by simpa using h0)
 .rintro k ⟨g,w⟩ q hq hk hw
  simp only at hw
  have hk':(k:Int)<X.strokes.length:=by omega
  have wk:=qab (n:=(k:Int)+1) (by omega) (by omega)
  have hlk:=hE _ (jH hk)
  have hbk:=hb k
  have ht:F++(X.strokes.take (k+1)).flatten=(F++(X.strokes.take k).flatten)++X.strokes[k]:=by rw[qxw hk,List.append_assoc]
  rw[ht]
  generalize F++(X.strokes.take k).flatten=D at *
  have hsz:qjt 2 (X.strokes[k].map qth)=true:=by simp[qjt]
  have hap:(D.length+X.strokes[k].length)*16<=140737488355328:=by omega
  refine(?_:∃st,ev pg (.code L32_0 ⟨fill q 0 (zav X.strokes D.length g w k),zor c f s X D g w⟩)=some { st:=st }/\At (zav X.strokes (D++X.strokes[k]).length (g+1) 2 (k+1)) (zor c f s X (D++X.strokes[k]) (g+1) 2) (qta 23 st)).elim fun st h=>⟨_,h.1,.inl ⟨rfl,(g+1,2),.inl rfl,h.2⟩⟩
  rcases hw with rfl | rfl<;>simp[zav,L32_0,hk,hk',wk,hsz,hap,hq.ne]
 .rintro⟨g,w⟩ q hq hw
  simp only at hw
  refine(?_:∃r,ev pg (.code L32_0 ⟨fill q 0 (zav X.strokes (F++(X.strokes.take X.strokes.length).flatten).length g w X.strokes.length),zor c f s X (F++(X.strokes.take X.strokes.length).flatten) g w⟩)=some r/\r.x ≠ .normal/\qaj (.exit 0) (zav X.strokes (F++(X.strokes.take X.strokes.length).flatten).length g w X.strokes.length) (zor c f s X (F++(X.strokes.take X.strokes.length).flatten) g w) r).imp fun r h=>⟨h.1,h.2.1,g,w,hw,h.2.2⟩
  generalize F++(X.strokes.take X.strokes.length).flatten=D at *
  simp[zav,L32_0,hq.ne]
def zaw(n g w k:Nat):Tm:=[none,none,some (.bptr 0 0),none,some (.sl 16 0 0 0 0),some (num 0),some (num 0),none,some (.bptr 6 0),none,none,some (.sl 7 g w 0 n),some (.bptr 15 0),none,some (num k)]++List.replicate 45 none
abbrev zos(c:Ct)(s:Ste)(X:Crs)(D:List (Int×Bool))(g w:Nat):H:=[⟨0,.box c.cells⟩,oy,oy,oy,oy,oy,⟨0,.box s.cells⟩,⟨g,.arr w (D.map qth)⟩,oy,oy,oy,oy,oy,oy,oy,
 ⟨0,.box (X.st.cells++[.imm (X.strokes.map zay),qel X.conf])⟩,oy]
theorem z2e(c:Ct)(s:Ste)(X:Crs)(F:List (Int×Bool))(hF:F.length<=1000)(hS:X.strokes.length<=100000)(hE:∀y∈X.strokes,y.length<=100000)(g w:Nat)(hw:w=2\/w=0){st:St}(h0:At (zaw F.length g w 0) (zos c s X F g w) st) :
  ∃r,ev pg (.code (.going 17 L33_0) st)=some r/\∃g w,(w=2\/w=0)/\qaj (.exit 0) (zaw (qwq F X.strokes).length g w X.strokes.length) (zos c s X (qwq F X.strokes) g w) r:=by
 have hend:qwq F X.strokes=F++(X.strokes.take X.strokes.length).flatten:=by rw[List.take_length];rfl
 rw[hend]
 have hb:=qvp F hF hS hE
 refine qci (α:=Nat×Nat) X.strokes.length (fun k a=>zaw (F++(X.strokes.take k).flatten).length a.1 a.2 k) (fun k a=>zos c s X (F++(X.strokes.take k).flatten) a.1 a.2) (fun _ a=>a.2=2\/a.2=0) _ ?_ ?_ (g,w) hw (by simpa using h0)
 .rintro k ⟨g,w⟩ q hq hk hw
  simp only at hw
  have hk':(k:Int)<X.strokes.length:=by omega
  have wk:=qab (n:=(k:Int)+1) (by omega) (by omega)
  have hlk:=hE _ (jH hk)
  have hbk:=hb k
  have ht:F++(X.strokes.take (k+1)).flatten=(F++(X.strokes.take k).flatten)++X.strokes[k]:=by rw[qxw hk,List.append_assoc]
  rw[ht]
  generalize F++(X.strokes.take k).flatten=D at *
  have hsz:qjt 2 (X.strokes[k].map qth)=true:=by simp[qjt]
  have hap:(D.length+X.strokes[k].length)*16<=140737488355328:=by omega
  refine(?_:∃st,ev pg (.code L33_0 ⟨fill q 0 (zaw D.length g w k),zos c s X D g w⟩)=some { st:=st }/\At (zaw (D++X.strokes[k]).length (g+1) 2 (k+1)) (zos c s X (D++X.strokes[k]) (g+1) 2) (qta 17 st)).elim fun st h=>⟨_,h.1,.inl ⟨rfl,(g+1,2),.inl rfl,h.2⟩⟩
  rcases hw with rfl | rfl<;>simp[zaw,L33_0,hk,hk',wk,hsz,hap,hq.ne]
 .rintro⟨g,w⟩ q hq hw
  simp only at hw
  refine(?_:∃r,ev pg (.code L33_0 ⟨fill q 0 (zaw (F++(X.strokes.take X.strokes.length).flatten).length g w X.strokes.length),zos c s X (F++(X.strokes.take X.strokes.length).flatten) g w⟩)=some r/\r.x ≠ .normal/\qaj (.exit 0) (zaw (F++(X.strokes.take X.strokes.length).flatten).length g w X.strokes.length) (zos c s X (F++(X.strokes.take X.strokes.length).flatten) g w) r).imp fun r h=>⟨h.1,h.2.1,g,w,hw,h.2.2⟩
  generalize F++(X.strokes.take X.strokes.length).flatten=D at *
  simp[zaw,L33_0,hq.ne]
def q3g(c:Ct)(l:List Evn):List (Int×Bool)×Int×Int :=
 if c.check≠0 then([],0,c.check)else if(qap c).2.2≠0 then([],0,(qap c).2.2)
 else if(qln c (qap c).1 l).2.2≠0 then([],(qln c (qap c).1 l).2.1,(qln c (qap c).1 l).2.2)
 else(qwq (qdm (qca c) (qap c).1) (qln c (qap c).1 l).1.strokes,0,0)
theorem Rdy.ends{c:Ct}{s:Ste}(h:Rdy c s):s.ends.length<=6/\s.ends.any (qdz 4)=false:=by
 have a:=h.mid
 have b:=h.shp.e
 refine⟨by have:=a.hi;have:=a.act;omega,?_⟩
 have:=h.st
 unfold stE at this
 rw[if_pos h.chk]at this
 unfold q2i at this
 rw[if_pos h.shp]at this
 split at this
 .cases this
 .rename_i h2
  cases hb:s.ends.any (qdz 4)with
  | false=>rfl
  | true=>exact absurd (.inl hb) h2
theorem q6p{c:Ct}{s t:Ste}(h1:Rdy c s)(h2:Rdy c t):zpg s t=0:=by
 obtain⟨a1,a2⟩:=h1.ends
 obtain⟨b1,b2⟩:=h2.ends
 have e1:=h1.shp.e
 have e2:=h2.shp.e
 rw[q6n (by omega) (by omega),List.any_append,a2,b2]
 rfl
theorem qsd(c:Ct)(l:List Evn):(c.check≠0/\q3g c l=([],0,c.check))\/(c.check=0/\(qap c).2.2≠0/\q3g c l=([],0,(qap c).2.2))
  \/ (c.check=0/\(qap c).2.2=0/\(qln c (qap c).1 l).2.2≠0/\q3g c l=([],(qln c (qap c).1 l).2.1,(qln c (qap c).1 l).2.2))
  \/ (c.check=0/\(qap c).2.2=0/\(qln c (qap c).1 l).2.2=0/\q3g c l=(qwq (qdm (qca c) (qap c).1) (qln c (qap c).1 l).1.strokes,0,0)):=by
 unfold q3g
 by_cases h1:c.check=0
 .by_cases h2:(qap c).2.2=0
  .by_cases h3:(qln c (qap c).1 l).2.2=0
   .exact .inr (.inr (.inr ⟨h1,h2,h3,by simp[h1,h2,h3]⟩))
   .exact .inr (.inr (.inl ⟨h1,h2,h3,by simp[h1,h2,h3]⟩))
  .exact .inr (.inl ⟨h1,h2,by simp[h1,h2]⟩)
 .exact .inl ⟨h1,by simp[h1]⟩
theorem ev32(c:Ct)(hs:c.small=true)(l:List Evn)(hl:l.length<=100000):ev pg (.call (.fn 32 [] []) [c.v,evs l] [])=some { v:=.tup [zon (q3g c l).1,num (q3g c l).2.1,num (q3g c l).2.2],st:=⟨[],[]⟩ }:=by
 have e44:=ev44 c hs
 have e11:=ev11 c hs
 unfold qxt at e44
 rcases qsd c l with⟨h1,he⟩ | ⟨h1,h2,he⟩ | ⟨h1,h2,h3,he⟩ | ⟨h1,h2,h3,he⟩
 .rw[he]
  rw[if_neg h1]at e44
  have hb:(c.check==0)=false:=by simpa using h1
  generalize c.check=e at *
  rw[qac,pg32]
  simp[ir32,e44,h1,hb]
 .rw[he]
  rw[if_pos h1]at e44
  have hb:((qap c).2.2==0)=false:=by simpa using h2
  unfold q5u at e11
  generalize qap c=z at *
  obtain⟨s,C,e⟩:=z
  simp only at e11 h2 hb
  generalize qca c=f at *
  rw[qac,pg32]
  simp[ir32,e44,e11,h2,hb]
 .have hlie:=qlk hs h1 h2
  have e92:=ev92 c (qap c).1 hs hlie.rdy.small l hl
  rw[he]
  rw[if_pos h1]at e44
  have hb:((qln c (qap c).1 l).2.2==0)=false:=by simpa using h3
  unfold q5u at e11
  rw[h2]at e11
  generalize qln c (qap c).1 l=X at *
  obtain⟨x,a,e⟩:=X
  simp only at e92 h3 hb
  generalize (qap c).1=s at *
  generalize (qap c).2.1=C at *
  generalize qca c=f at *
  rw[qac,pg32]
  simp[ir32,e44,e11,e92,h3,hb]
 .have hlie:=qlk hs h1 h2
  have hrb:=Rdy.mk hs (qcz h1)
  have e92:=ev92 c (qap c).1 hs hlie.rdy.small l hl
  have hsm:=qoz hs (qap c).1 l hl
  have hlf:(qdm (qca c) (qap c).1).length<=1000:=by
   have:=qkw (qca c) (qap c).1
   have:=hrb.ends.1
   omega
  obtain⟨wf,hwf,e48⟩:=ev48 (qca c) (qap c).1 hrb.small hlie.rdy.small (q6p hrb hlie.rdy)
  rw[he]
  rw[if_pos h1]at e44
  unfold q5u at e11
  rw[h2]at e11
  rw[h3]at e92
  have hlp:=fun st=>z2d c (qca c) (qap c).1 (qln c (qap c).1 l).1 (qdm (qca c) (qap c).1) hlf hsm.len hsm.each 0 wf hwf (st:=st)
  generalize qdm (qca c) (qap c).1=F at *
  generalize (qln c (qap c).1 l).2.1=ix at *
  generalize (qln c (qap c).1 l).1=X at *
  generalize (qap c).1=s at *
  generalize (qap c).2.1=C at *
  generalize qca c=f at *
  clear hlie hrb hsm
  rw[qac,pg32]
  simp[ir32,e44,e11,e92,e48,qaf]
  generalize hr:ev pg (.code (.going _ L32_0) _)=o
  obtain⟨r,rfl,g,w,hw,q,hq,rfl⟩:∃r,o=some r/\_:=by rw[<-hr];exact hlp _ (by simp[zav])
  clear hr
  rcases hw with rfl | rfl<;>simp[zav]
theorem ev33(c:Ct)(hs:c.small=true)(l:List Evn)(hl:l.length<=100000):ev pg (.call (.fn 33 [] []) [c.v,evs l] [])=some { v:=.tup [zon (q3g c l).1,num (q3g c l).2.1,num (q3g c l).2.2],st:=⟨[],[]⟩ }:=by
 have e58:=ev58 c hs
 have e93:=ev93 c hs
 rcases qsd c l with⟨h1,he⟩ | ⟨h1,h2,he⟩ | ⟨h1,h2,h3,he⟩ | ⟨h1,h2,h3,he⟩
 .rw[he]
  have hb:(c.check==0)=false:=by simpa using h1
  generalize c.check=e at *
  rw[qac,pg33]
  simp[qaa,exT,qae,ir33,e58,h1,hb]
 .rw[he]
  rw[h1]at e58
  have hb:((qap c).2.2==0)=false:=by simpa using h2
  unfold q5u at e93
  generalize qap c=z at *
  obtain⟨s,C,e⟩:=z
  simp only at e93 h2 hb
  rw[qac,pg33]
  simp[qaa,exT,qae,ir33,e58,e93,h2,hb]
 .have hlie:=qlk hs h1 h2
  have hrb:=Rdy.mk hs (qcz h1)
  have e96:=ev96 c (qap c).1 hs hlie.rdy.small l hl
  have e95:=ev95 hs h1
  obtain⟨wf,hwf,e94⟩:=ev94 (qca c) (qap c).1 hrb.small (by have a:=hrb.shp.e;have b:=hlie.rdy.shp.e;omega)
  rw[he]
  rw[h1]at e58
  have hb:((qln c (qap c).1 l).2.2==0)=false:=by simpa using h3
  unfold q5u at e93
  rw[h2]at e93
  generalize qdm (qca c) (qap c).1=F at *
  generalize qln c (qap c).1 l=X at *
  obtain⟨x,a,e⟩:=X
  simp only at e96 h3 hb
  generalize (qap c).1=s at *
  generalize (qap c).2.1=C at *
  generalize qca c=f at *
  rw[qac,pg33]
  rcases hwf with rfl | rfl<;>simp[qaa,exT,qae,ir33,e58,e93,e94,e95,e96,h3,hb]
 .have hlie:=qlk hs h1 h2
  have hrb:=Rdy.mk hs (qcz h1)
  have e96:=ev96 c (qap c).1 hs hlie.rdy.small l hl
  have e95:=ev95 hs h1
  have hsm:=qoz hs (qap c).1 l hl
  have hlf:(qdm (qca c) (qap c).1).length<=1000:=by
   have:=qkw (qca c) (qap c).1
   have:=hrb.ends.1
   omega
  obtain⟨wf,hwf,e94⟩:=ev94 (qca c) (qap c).1 hrb.small (by have a:=hrb.shp.e;have b:=hlie.rdy.shp.e;omega)
  rw[he]
  rw[h1]at e58
  unfold q5u at e93
  rw[h2]at e93
  rw[h3]at e96
  have hlp:=fun st=>z2e c (qap c).1 (qln c (qap c).1 l).1 (qdm (qca c) (qap c).1) hlf hsm.len hsm.each 0 wf hwf (st:=st)
  generalize qdm (qca c) (qap c).1=F at *
  generalize (qln c (qap c).1 l).2.1=ix at *
  generalize (qln c (qap c).1 l).1=X at *
  generalize (qap c).1=s at *
  generalize (qap c).2.1=C at *
  generalize qca c=f at *
  clear hlie hrb hsm
  rw[qac,pg33]
  simp[qaa,exT,qae,ir33,e58,e93,e94,e95,e96,qaf]
  generalize hr:ev pg (.code (.going _ L33_0) _)=o
  obtain⟨r,rfl,g,w,hw,q,hq,rfl⟩:∃r,o=some r/\_:=by rw[<-hr];exact hlp _ (by simp[zaw])
  clear hr
  rcases hw with rfl | rfl<;>simp[zaw]
def zoq(a:List (Int×Bool))(k:Nat):Tm:=[some (zon a),some (zon a),none,none,some (.bool false),some (num k)]++List.replicate 20 none
theorem z2f(a:List (Int×Bool))(ha:a.length<=100000000000){st:St}(h0:At (zoq a 0) [] st):∃r,ev pg (.code (.going 0 L34_0) st)=some r/\qaj (.exit 0) (zoq a a.length) [] r:=by
 refine qfc a.length (zoq a) (fun _=>[]) _ ?_ ?_ h0
 .intro k f hf hk
  have hk':(k:Int)<a.length:=by omega
  have wk:=qab (n:=(k:Int)+1) (by omega) (by omega)
  simp[qaa,exT,qae,zoq,L34_0,hk,hk',wk,hf.ne]
 .intro f hf
  simp[zoq,L34_0,hf.ne]
theorem ev34s(a:List (Int×Bool))(ha:a.length<=100000000000):ev pg (.call (.fn 34 [] []) [zon a,zon a] [])=some { v:=.bool true,st:=⟨[],[]⟩ }:=by
 have hl:=@z2f a ha
 rw[qac,pg34]
 simp[ir34,qaf]
 generalize hr:ev pg (.code (.going _ L34_0) _)=o
 obtain⟨r,rfl,f,hf,rfl⟩:∃r,o=some r/\_:=by rw[<-hr];exact hl (by simp[zoq])
 simp[zoq]
theorem zed{c:Ct}(hs:c.small=true)(l:List Evn)(hl:l.length<=100000):(q3g c l).1.length<=100000000000:=by
 rcases qsd c l with⟨h1,he⟩ | ⟨h1,h2,he⟩ | ⟨h1,h2,h3,he⟩ | ⟨h1,h2,h3,he⟩<;>rw[he]
 .simp
 .simp
 .simp
 .have hsm:=qoz hs (qap c).1 l hl
  have hrb:=Rdy.mk hs (qcz h1)
  have hlf:(qdm (qca c) (qap c).1).length<=1000:=by
   have:=qkw (qca c) (qap c).1
   have:=hrb.ends.1
   omega
  have:=qvp (qdm (qca c) (qap c).1) hlf hsm.len hsm.each (qln c (qap c).1 l).1.strokes.length
  rw[List.take_length]at this
  unfold qwq
  simp only
  omega
end Go.Proofs.YtddeacahiilikaaGreat
namespace Go.Proofs.YtddeacahiilikaaGreat
open Go Go.Am Go.Proofs
set_option maxRecDepth 1000000
theorem q0c:evN pg 500 (.call (.fn 31 [] []) [] [])=some { v:=.bool true,st:=⟨[],[]⟩ }:=by kernel_rfl
theorem ev31:ev pg (.call (.fn 31 [] []) [] [])=some { v:=.bool true,st:=⟨[],[]⟩ }:=zhe q0c
set_option maxHeartbeats 4000000
theorem ev6(c:Ct)(l:List Evn):ev pg (.call (.fn 6 [] []) [c.v,evs l] [])=some { v:=.bool true,st:=⟨[],[]⟩ }:=by
 have e30:=ev30 c
 have e31:=ev31
 rw[qac,pg6]
 cases hf:c.few with
 | false =>
  rw[hf]at e30
  simp[ir6,e30,e31]
 | true =>
  rw[hf]at e30
  have hs:=q8c hf
  by_cases h1:30<l.length/\l.length<=4096
  .have h1a:30<(l.length:Int):=by omega
   have h1b:(l.length:Int)<=4096:=by omega
   simp[ir6,e30,e31,h1a,h1b]
  .by_cases h2:8192<l.length
   .have h2a:8192<(l.length:Int):=by omega
    have h2b:¬(l.length:Int)<=4096:=by omega
    have h2c:30<(l.length:Int):=by omega
    simp[ir6,e30,e31,h2a,h2b,h2c]
   .have h2a:¬8192<(l.length:Int):=by omega
    have e32:=ev32 c hs l (by omega)
    have e33:=ev33 c hs l (by omega)
    have e34:=ev34s (q3g c l).1 (zed hs l (by omega))
    generalize q3g c l=z at *
    obtain⟨a,i,e⟩:=z
    simp only at e32 e33 e34
    by_cases h3:30<l.length
    .have h3a:30<(l.length:Int):=by omega
     have h3b:¬(l.length:Int)<=4096:=by omega
     simp[ir6,e30,e31,e32,e33,e34,h2a,h3a,h3b]
    .have h3a:¬30<(l.length:Int):=by omega
     simp[ir6,e30,e31,e32,e33,e34,h2a,h3a]
end Go.Proofs.YtddeacahiilikaaGreat
