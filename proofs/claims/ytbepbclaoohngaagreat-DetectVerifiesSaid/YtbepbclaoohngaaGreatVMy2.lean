/- What may happen, and what happens, by the reference. -/
import Derived.Test.YtbepbclaoohngaaGreatVRe1
import Derived.KernelRfl
set_option linter.all false
namespace Go.Proofs.YtbepbclaoohngaaGreat
open Go Go.Am Go.Proofs
set_option maxRecDepth 100000
theorem ev150(c:Ct)(s:Ste)(hfew:c.small=true)(hs:s.small):ev pg (.call (.fn 150 [] []) [c.v,s.v] [])=some { v:=.tup [.bool (zak c s).1,num (zak c s).2],st:=⟨[],[]⟩ }:=by
 have e45:=ev147 c s hfew hs
 unfold zak
 rw[qaa,pg150]
 by_cases h:stE c s=0
 .have hR:Rdy c s:=⟨hfew,h⟩
  rw[if_pos h]
  rw[h]at e45
  unfold qrh
  cases hZ:qca c s with
  | none =>
   have e46:=ev148_none hR hZ
   rw[qxc.2 hZ]
   simp[ir150,e45,e46,zeroS]
  | some x =>
   obtain⟨v,m⟩:=x
   have e46:=ev148_some hR hZ
   have hrv:qce c s=some (qjw (qgn c v),norm (qou c) (m++qme c v)):=by unfold qce;rw[hZ];rfl
   have e47:=ev149 (qjw (qgn c v)) s (hR.round hrv).small
   rw[qkn]at e47
   rw[hrv]
   simp only[Option.map_some,Option.getD_some]
   generalize qhf s (qjw (qgn c v))=b at *
   generalize qjw (qgn c v)=u at *
   simp[ir150,e45,e46,e47]
 .rw[if_neg h]
  have hb:(stE c s==0)=false:=by simpa using h
  generalize stE c s=e at *
  simp[ir150,e45,h,hb]
theorem ev90(c:Ct)(s:Ste)(hfew:c.small=true)(hs:s.small):ev pg (.call (.fn 90 [] []) [c.v,s.v] [])=some { v:=num (quE c s),st:=⟨[],[]⟩ }:=by
 have e11:=ev150 c s hfew hs
 unfold zak at e11
 unfold quE
 rw[qaa,pg90]
 by_cases h:stE c s=0
 .rw[if_pos h]at e11 ⊢
  simp only at e11
  cases hb:qrh c s<;>rw[hb]at e11<;>simp[ir90,e11]
 .rw[if_neg h]at e11 ⊢
  simp only at e11
  have hb:(stE c s==0)=false:=by simpa using h
  generalize stE c s=e at *
  simp[ir90,e11,h,hb]
abbrev jfd:List V:=[.sl 5 0 0 0 0,.fn 245 [] [.bptr 2 0],.bptr 4 0,.undef,.sl 6 0 0 0 0,.undef,.fn 245 [] [.bptr 2 0],.undef,.undef,.undef,.undef,.undef,.undef]
abbrev Mp(c:Ct)(s:Ste)(l:List Evn)(a:Nat×Nat):H:=[⟨0,.box c.cells⟩,⟨0,.box s.cells⟩,⟨0,.box s.cells⟩,⟨a.1,.arr a.2 (l.map Evn.row)⟩,⟨0,.box [.sl 3 a.1 a.2 0 l.length]⟩,o0,o0,⟨0,.loop jfd [7] L244_0 L244_1 none⟩]
theorem z2s(c:Ct)(s:Ste)(l:List Evn)(a:Nat×Nat)(ha:gm3 a)(hl:l.length<=100000)(x:Evn):ev pg (.call (.yld 7) [.agg x.row] (Mp c s l a))=some { v:=.bool true,st:=⟨[],Mp c s (l++[x]) (a.1+1,3)⟩ }:=by
 obtain⟨g,m⟩:=a
 have hb:(l.length+1)*24<=140737488355328:=by omega
 have hmm:m=3\/m=0:=ha
 rw[qhx]
 rcases hmm with rfl | rfl<;>simp[qch,L244_0,L244_1,hb]
def zrq(s:Ste)(k:Nat):Tm:=[some (.yld 7),bN 2,none,none,none,none,none,none,some (qeg s.ends),some (num s.ends.length),nN k]++zN 36
def zkh(s:Ste)(k:Nat):Tm:=[some (.yld 7),bN 2]++zN 28++[some (qeg s.timers),some (num s.timers.length),nN k]++zN 14
theorem jdz(c:Ct)(s:Ste)(hs:s.small){st:St}(a0:Nat×Nat)(g0:gm3 a0)(h0:At (zrq s 0) (Mp c s (qig 0 (qbm s 0) 0) a0) st):∃r,ev pg (.code (.going 8 L245_0) st)=some r/\∃a,gm3 a/\qaq (.exit 0) (zrq s s.ends.length) (Mp c s (qig 0 (qbm s 0) s.ends.length) a) r:=by
 have hse:=hs.e
 refine qdb s.ends.length (fun k _=>zrq s k) (fun k a=>Mp c s (qig 0 (qbm s 0) k) a) (fun _ a=>gm3 a) _ ?_ ?_ a0 g0 h0
 .rintro k a f hf hk hG
  have hk':(k:Int)<s.ends.length:=by omega
  have wk:=qbb (k:=k) (by omega)
  have hsl:=qez 0 (qbm s 0) k
  have hp:qbm s 0 k=(s.ends[k]==1||s.ends[k]==3):=by
   unfold qbm;rw[if_pos rfl,jA hk];rfl
  have hy:=z2s c s (qig 0 (qbm s 0) k) a hG (by omega) ⟨0,k,false⟩
  have hG':gm3 (a.1+1,3):=.inl rfl
  have hGa:gm3 a:=hG
  rw[qrd,hp]
  generalize qig 0 (qbm s 0) k=B at *
  unfold zrq
  obtain⟨g,m⟩:=a
  have hmm:m=3\/m=0:=hGa
  by_cases h1:s.ends[k]=1
  .rcases hmm with rfl | rfl<;>simp[L245_0,hk,hk',wk,h1,hy,hf.ne]
  .have h1b:(s.ends[k]==1)=false:=by simpa using h1
   by_cases h3:s.ends[k]=3
   .rcases hmm with rfl | rfl<;>simp[L245_0,hk,hk',wk,h3,hy,hf.ne]
   .have h3b:(s.ends[k]==3)=false:=by simpa using h3
    rcases hmm with rfl | rfl<;>simp[L245_0,hk,hk',wk,h1,h1b,h3,h3b,hf.ne]
 .rintro⟨g,m⟩ f hf hG
  unfold zrq
  generalize qig 0 (qbm s 0) s.ends.length=B at *
  have hmm:m=3\/m=0:=hG
  rcases hmm with rfl | rfl<;>simp[L245_0,hf.ne]
theorem jea(c:Ct)(s:Ste)(hs:s.small){st:St}(a0:Nat×Nat)(g0:gm3 a0)(h0:At (zkh s 0) (Mp c s (qig 0 (qbm s 0) s.ends.length++qig 1 (qbm s 1) 0) a0) st):∃r,ev pg (.code (.going 8 L245_1) st)=some r/\∃a,gm3 a/\qaq (.exit 2) (zkh s s.timers.length) (Mp c s (qdg s) a) r:=by
 have hse:=hs.e
 have hst:=hs.t
 rw[qjp]
 refine qdb s.timers.length (fun k _=>zkh s k) (fun k a=>Mp c s (qig 0 (qbm s 0) s.ends.length++qig 1 (qbm s 1) k) a) (fun _ a=>gm3 a) _ ?_ ?_ a0 g0 h0
 .rintro k a f hf hk hG
  have hk':(k:Int)<s.timers.length:=by omega
  have wk:=qbb (k:=k) (by omega)
  have hsl:=qez 1 (qbm s 1) k
  have hsl0:=qez 0 (qbm s 0) s.ends.length
  have hp:qbm s 1 k=(s.timers[k]==1):=by
   unfold qbm;rw[if_neg (by omega),jA hk];rfl
  have hy:=z2s c s (qig 0 (qbm s 0) s.ends.length++qig 1 (qbm s 1) k) a hG (by simp;omega) ⟨1,k,false⟩
  have hGa:gm3 a:=hG
  rw[qrd,hp]
  generalize qig 0 (qbm s 0) s.ends.length=B0 at *
  generalize qig 1 (qbm s 1) k=B at *
  unfold zkh
  obtain⟨g,m⟩:=a
  have hmm:m=3\/m=0:=hGa
  by_cases h1:s.timers[k]=1
  .rcases hmm with rfl | rfl<;>simp[L245_1,hk,hk',wk,h1,hy,Nat.add_assoc,hf.ne]
  .have h1b:(s.timers[k]==1)=false:=by simpa using h1
   rcases hmm with rfl | rfl<;>simp[L245_1,hk,hk',wk,h1,h1b,hf.ne]
 .rintro⟨g,m⟩ f hf hG
  unfold zkh
  generalize qig 0 (qbm s 0) s.ends.length++qig 1 (qbm s 1) s.timers.length=B at *
  have hmm:m=3\/m=0:=hG
  rcases hmm with rfl | rfl<;>simp[L245_1,hf.ne]
theorem ev245(c:Ct)(s:Ste)(hs:s.small):∃a,gm3 a/\ev pg (.call (.fn 245 [] [.bptr 2 0]) [.yld 7] (Mp c s [] (0,0)))=some { v:=.tup [],st:=⟨[],Mp c s (qdg s) a⟩ }:=by
 have hl1:=@jdz c s hs
 have hl2:=@jea c s hs
 have z:qig 1 (qbm s 1) 0=[]:=rfl
 have z0:qig 0 (qbm s 0) 0=[]:=rfl
 rw[z,List.append_nil]at hl2
 rw[z0]at hl1
 generalize qig 0 (qbm s 0) s.ends.length=B0 at *
 generalize qdg s=B at *
 have key:∃r a,ev pg (.call (.fn 245 [] [.bptr 2 0]) [.yld 7] (Mp c s [] (0,0)))=some r/\gm3 a/\r={ v:=.tup [],st:=⟨[],Mp c s B a⟩ }:=by
  rw[qaa,pg245]
  simp[ir245,qah]
  generalize hr:ev pg (.code (.going _ L245_0) _)=o
  obtain⟨r,rfl,⟨g,m⟩,hm,f,hf,rfl⟩:∃r,o=some r/\_:=by rw[<-hr];exact hl1 (0,0) (.inr rfl) (by simp[zrq])
  clear hr
  have hmm:m=3\/m=0:=hm
  rcases hmm with rfl | rfl<;>simp[zrq,hf.ne]
  .generalize hr:ev pg (.code (.going _ L245_1) _)=o
   obtain⟨r,rfl,⟨g2,m2⟩,hm2,f2,hf2,rfl⟩:∃r,o=some r/\_:=by rw[<-hr];exact hl2 (g,3) (.inl rfl) (by simp[zkh,hf.ne])
   clear hr
   have hmm2:m2=3\/m2=0:=hm2
   rcases hmm2 with rfl | rfl<;>simp[zkh]
   all_goals first | exact⟨g2,3,.inl rfl,by simp⟩ | exact⟨g2,0,.inr rfl,by simp⟩
  .generalize hr:ev pg (.code (.going _ L245_1) _)=o
   obtain⟨r,rfl,⟨g2,m2⟩,hm2,f2,hf2,rfl⟩:∃r,o=some r/\_:=by rw[<-hr];exact hl2 (g,0) (.inr rfl) (by simp[zkh,hf.ne])
   clear hr
   have hmm2:m2=3\/m2=0:=hm2
   rcases hmm2 with rfl | rfl<;>simp[zkh]
   all_goals first | exact⟨g2,3,.inl rfl,by simp⟩ | exact⟨g2,0,.inr rfl,by simp⟩
 obtain⟨r,a,e,ha,rfl⟩:=key
 exact⟨a,ha,e⟩
theorem ev244(c:Ct)(s:Ste)(hs:s.small):ev pg (.call (.fn 244 [] []) [.nils,.fn 245 [] [.bptr 2 0]] [⟨0,.box c.cells⟩,⟨0,.box s.cells⟩,⟨0,.box s.cells⟩])=some { v:=evs (qdg s),st:=⟨[],[⟨0,.box c.cells⟩,⟨0,.box s.cells⟩,⟨0,.box s.cells⟩]⟩ }:=by
 obtain⟨⟨g,m⟩,hm,e85⟩:=ev245 c s hs
 generalize qdg s=B at *
 have hmm:m=3\/m=0:=hm
 have e85':ev pg (.call (.fn 245 [] [.bptr 2 0]) [.yld 7] [⟨0,.box c.cells⟩,⟨0,.box s.cells⟩,⟨0,.box s.cells⟩,o0,⟨0,.box [.sl 3 0 0 0 0]⟩,o0,o0,⟨0,.loop jfd [7] L244_0 L244_1 none⟩])=_:=e85
 rw[qaa,pg244]
 rcases hmm with rfl | rfl<;>simp[ir244,qgf,e85']
theorem ev202(c:Ct)(s:Ste)(hs:s.small):ev pg (.call (.fn 202 [] []) [.fn 245 [] [.bptr 2 0]] [⟨0,.box c.cells⟩,⟨0,.box s.cells⟩,⟨0,.box s.cells⟩])=some { v:=evs (qdg s),st:=⟨[],[⟨0,.box c.cells⟩,⟨0,.box s.cells⟩,⟨0,.box s.cells⟩]⟩ }:=by
 have e84:=ev244 c s hs
 generalize qdg s=B at *
 rw[qaa,pg202]
 simp[ir202,e84]
theorem ev203(c:Ct)(s:Ste):ev pg (.call (.fn 203 [] []) [s.v] [⟨0,.box c.cells⟩,⟨0,.box s.cells⟩])=some { v:=.fn 245 [] [.bptr 2 0],st:=⟨[],[⟨0,.box c.cells⟩,⟨0,.box s.cells⟩,⟨0,.box s.cells⟩]⟩ }:=by
 rw[qaa,pg203]
 simp[ir203]
theorem ev132(c:Ct)(s:Ste)(hfew:c.small=true)(hs:s.small):ev pg (.call (.fn 132 [] []) [c.v,s.v] [])=some { v:=.tup [evs (qcq c s).1,num (qcq c s).2],st:=⟨[],[]⟩ }:=by
 have e49:=ev90 c s hfew hs
 have e50:=ev202 c s hs
 have e51:=ev203 c s
 unfold qcq
 rw[qaa,pg132]
 by_cases h:quE c s=0
 .rw[if_pos h]
  rw[h]at e49
  generalize qdg s=p at *
  simp[ir132,e49,e50,e51]
 .rw[if_neg h]
  have hb:(quE c s==0)=false:=by simpa using h
  generalize quE c s=e at *
  simp[ir132,e49,h,hb]
abbrev h56(c:Ct)(A:Nat)(k:Nat):H:=[⟨0,.box c.cells⟩,o0,o0,o0,o0,o0,⟨0,.box (q2u 1)⟩,⟨1,.arr 1 (List.replicate A [num 0])⟩,⟨1,.arr 1 (List.replicate A [.bool false])⟩,⟨1,.arr 1 (List.replicate c.inputs.length [.bool false])⟩,⟨1,.arr 1 ((ini c k).map qfa)⟩,⟨1,.arr 1 (List.replicate c.signals.length [num 0])⟩,o0,o0,o0,o0,o0,⟨0,.box [.sl 7 1 1 0 A,.sl 8 1 1 0 A,.sl 9 1 1 0 c.inputs.length,.sl 10 1 1 0 c.signals.length,.sl 11 1 1 0 c.signals.length]⟩]
def T56(c:Ct)(k:Nat):Tm:=[none,bN 0,bN 6,nN 0,none,none,bN 17]++zN 27++[some (.imm (c.signals.map Sg.row)),some (num c.signals.length),nN k]++zN 14
theorem jgc(c:Ct)(A:Nat)(hn:c.signals.length<=128){st:St}(h0:At (T56 c 0) (h56 c A 0) st):∃r,ev pg (.code (.going 18 L88_0) st)=some r/\qaq (.exit 0) (T56 c c.signals.length) (h56 c A c.signals.length) r:=by
 refine qhj c.signals.length (T56 c) (h56 c A) _ ?_ ?_ h0
 .intro k f hf hk
  have hk':(k:Int)<c.signals.length:=by omega
  have wk:=qbb (k:=k) (by omega)
  have hl:=zgv c (k:=k) (by omega)
  have e:=qjz (A:=c.signals.map Sg.init) (B:=List.replicate c.signals.length false) (by simp) (k:=k) (by simpa using hk)
  rw[List.getElem_map]at e
  unfold h56 T56 ini
  rw[<-e]
  unfold ini at hl
  generalize mix (c.signals.map Sg.init) (List.replicate c.signals.length false) k=W at *
  have hkW:k<W.length:=by omega
  simp[qab,exT,qal,L88_0,hk,hk',wk,hkW,hf.ne]
 .intro f hf
  unfold h56 T56 ini
  generalize mix (c.signals.map Sg.init) (List.replicate c.signals.length false) c.signals.length=W at *
  simp[L88_0,hf.ne]
def q9f(c:Ct):Ste×Int:=if c.check=0 then(qgs c,0)else(zeroS,c.check)
theorem ev88(c:Ct)(hfew:c.small=true):ev pg (.call (.fn 88 [] []) [c.v] [])=some { v:=.tup [(q9f c).1.v,num (q9f c).2],st:=⟨[],[]⟩ }:=by
 have e79:=ev87 c hfew
 unfold q9f
 by_cases hc:c.check=0
 .have hF:=qyn hfew hc
  have hM:=hF.mid
  have e87:=ev146 hM (qho c) hF.small hF.shp (zcd hc hfew)
  have hl:=@jgc c c.act.toNat hM.sig
  have hact:=hM.act
  have hhi:=hM.hi
  have hinp:=hM.inp
  have hsig:=hM.sig
  rw[if_pos hc]
  rw[hc]at e79
  unfold qgs
  generalize qdq c (qho c)=u at *
  have z0:ini c 0=List.replicate c.signals.length false:=qhk _ _
  have z1:ini c c.signals.length=c.signals.map Sg.init:=by
   have:=qjy (A:=c.signals.map Sg.init) (B:=List.replicate c.signals.length false) (by simp)
   rwa [List.length_map]at this
  unfold h56 at hl
  rw[z0,z1]at hl
  unfold qho at e87
  generalize c.act.toNat=A at *
  have e87':ev pg (.call (.fn 146 [] []) [.agg [num c.act,.imm (c.inputs.map qoe),.imm (c.signals.map Sg.row),qeg c.plus,qeg c.minus],.agg [.imm (List.replicate A [num 0]),.imm (List.replicate A [.bool false]),.imm (List.replicate c.inputs.length [.bool false]),.imm (c.signals.map (qfa∘Sg.init)),.imm (List.replicate c.signals.length [num 0])]] [])=some { v:=u.v,st:=⟨[],[]⟩ }:=by
   rw[<-e87]
   simp only[Ste.v,Ste.cells,qeg,qdw,List.map_replicate,List.map_map]
  rw[hact]at e87'
  have e79':ev pg (.call (.fn 87 [] []) [.agg [num (A:Int),.imm (c.inputs.map qoe),.imm (c.signals.map Sg.row),qeg c.plus,qeg c.minus]] [])=some { v:=num 0,st:=⟨[],[]⟩ }:=by rw[<-hact];exact e79
  have a1:A*8<=140737488355328:=by omega
  have a2:A<=4611686018427387904:=by omega
  have a3:A<=140737488355328:=by omega
  have i2:c.inputs.length<=4611686018427387904:=by omega
  have i3:c.inputs.length<=140737488355328:=by omega
  have s1:c.signals.length*8<=140737488355328:=by omega
  have s2:c.signals.length<=4611686018427387904:=by omega
  have s3:c.signals.length<=140737488355328:=by omega
  rw[qaa,pg88]
  simp[qab,exT,qal,ir88,e79',hact,a1,a2,a3,i2,i3,s1,s2,s3,qah]
  generalize hr:ev pg (.code (.going _ L88_0) _)=o
  obtain⟨r,rfl,f,hf,rfl⟩:∃r,o=some r/\_:=by rw[<-hr];exact hl (by simp[T56,hact])
  simp[T56,hact,e87']
 .rw[if_neg hc]
  have hb:(c.check==0)=false:=by simpa using hc
  rw[qaa,pg88]
  generalize c.check=e at *
  simp[ir88,e79,hc,hb,zeroS]
theorem ev39(c:Ct)(hfew:c.small=true):ev pg (.call (.fn 39 [] []) [c.v] [])=some { v:=zag (qde c),st:=⟨[],[]⟩ }:=by
 have e56:=ev88 c hfew
 unfold q9f at e56
 unfold qde
 rw[qaa,pg39]
 by_cases h:c.check=0
 .have hR:=qhm h
  have e16:=ev89 c (qgs c) hfew (Rdy.small ⟨hfew,hR⟩)
  unfold qqz at e16
  rw[if_pos hR]at e16
  rw[if_pos h]at e56 ⊢
  simp only at e56
  generalize qhd c (qgs c)=x at *
  generalize qgs c=b at *
  simp[ir39,e56,e16]
 .rw[if_neg h]at e56 ⊢
  simp only at e56
  have hb:(c.check==0)=false:=by simpa using h
  generalize c.check=e at *
  simp[ir39,e56,h,hb,zeroS]
abbrev Evn.v(x:Evn):V:=.agg x.row
def zmt(x y:Evn):Bool:=y.kind==x.kind&&y.idx==x.idx
abbrev h94(s:Ste)(x:Evn):H:=[⟨0,.box s.cells⟩,⟨0,.box x.row⟩]
def T94(l:List Evn)(k:Nat):Tm:=[none,none,bN 0,bN 1,some (.bool false),some (evs l),nN k]++zN 51
def jak:Tm:=[none,none,none,none,some (.bool true)]++zN 53
theorem jgi(s:Ste)(x:Evn)(l:List Evn)(hn:l.length<=100000){st:St}(h0:At (T94 l 0) (h94 s x) st):∃r,ev pg (.code (.going 2 L61_0) st)=some r/\qkt l.length (fun k=>((l[k]?).map (zmt x)).getD false) (fun _=>qaq .ret jak (h94 s x)) (qaq (.exit 0) (T94 l l.length) (h94 s x)) r:=by
 refine qby _ _ (T94 l) (h94 s x) _ _ ?_ ?_ ?_ h0
 .intro k f hf hk hp
  have hk':(k:Int)<l.length:=by omega
  have wk:=qbb (k:=k) (by omega)
  simp only[jA hk,Option.map_some,Option.getD_some,zmt]at hp
  unfold T94
  by_cases h1:l[k].kind=x.kind
  .have h1b:(l[k].kind==x.kind)=true:=by simpa using h1
   rw[h1b,Bool.true_and]at hp
   have h2:¬l[k].idx=x.idx:=by simpa using hp
   simp[qab,exT,qal,L61_0,hk,hk',wk,h1,hp,hf.ne]
  .have h1b:(l[k].kind==x.kind)=false:=by simpa using h1
   simp[qab,exT,qal,L61_0,hk,hk',wk,h1,h1b,hf.ne]
 .intro k f hf hk hp
  have hk':(k:Int)<l.length:=by omega
  simp only[jA hk,Option.map_some,Option.getD_some,zmt,jE,beq_iff_eq]at hp
  obtain⟨h1,h2⟩:=hp
  unfold T94
  simp[qab,exT,qal,L61_0,hk,hk',h1,h2,hf.ne]
  simp[jak,hf.ne]
 .intro f hf
  unfold T94
  simp[L61_0,hf.ne]
theorem q1w{s:Ste}{y:Evn}:y∈qdg s<->(∃i,i<s.ends.length/\qbm s 0 i=true/\y=⟨0,(i:Nat),false⟩)\/∃i,i<s.timers.length/\qbm s 1 i=true/\y=⟨1,(i:Nat),false⟩:=by
 unfold qdg
 simp only[jQ,List.mem_map,List.mem_filter,List.mem_range]
 constructor
 .rintro(⟨i,⟨h1,h2⟩,rfl⟩ | ⟨i,⟨h1,h2⟩,rfl⟩)
  .exact .inl ⟨i,h1,h2,rfl⟩
  .exact .inr ⟨i,h1,h2,rfl⟩
 .rintro(⟨i,h1,h2,rfl⟩ | ⟨i,h1,h2,rfl⟩)
  .exact .inl ⟨i,⟨h1,h2⟩,rfl⟩
  .exact .inr ⟨i,⟨h1,h2⟩,rfl⟩
theorem zna{s:Ste}{x:Evn}(hk:x.kind=0\/x.kind=1):qpc s x=(qdg s).any (zmt x):=by
 rw[Bool.eq_iff_iff,List.any_eq_true]
 unfold qpc
 constructor
 .intro h
  by_cases hi:x.idx<0
  .rw[if_pos hi]at h;cases h
  .rw[if_neg hi,if_neg (by omega)]at h
   have hx:((x.idx.toNat:Nat):Int)=x.idx:=by omega
   rcases hk with h0 | h0
   .rw[h0]at h
    obtain⟨hi2,_⟩:=qus h
    refine⟨⟨0,(x.idx.toNat:Nat),false⟩,q1w.2 (.inl ⟨_,hi2,h,rfl⟩),?_⟩
    simp only[zmt,h0,hx,beq_self_eq_true,Bool.and_self]
   .rw[h0]at h
    obtain⟨hi2,_⟩:=qsi h
    refine⟨⟨1,(x.idx.toNat:Nat),false⟩,q1w.2 (.inr ⟨_,hi2,h,rfl⟩),?_⟩
    simp only[zmt,h0,hx,beq_self_eq_true,Bool.and_self]
 .rintro⟨y,hy,hm⟩
  simp only[zmt,jE,beq_iff_eq]at hm
  obtain⟨m1,m2⟩:=hm
  rcases q1w.1 hy with⟨i,h1,h2,rfl⟩ | ⟨i,h1,h2,rfl⟩
  .simp only at m1 m2
   rw[if_neg (by omega),if_neg (by omega),<-m1,<-m2]
   exact h2
  .simp only at m1 m2
   rw[if_neg (by omega),if_neg (by omega),<-m1,<-m2]
   exact h2
theorem zia{s:Ste}{x:Evn}(hk:x.kind=2):qpc s x=if x.idx<0 then false else((s.inputs[x.idx.toNat]?).map fun v=>v != x.val).getD false:=by
 unfold qpc
 rw[if_pos hk]
theorem znn(s:Ste)(hs:s.small):(qdg s).length<=100000:=by
 have h1:=qez 0 (qbm s 0) s.ends.length
 have h2:=qez 1 (qbm s 1) s.timers.length
 have:=hs.e
 have:=hs.t
 rw[qjp,jF]
 omega
theorem ev61(s:Ste)(hs:s.small)(x:Evn)(hk:¬(x.kind<0\/2<x.kind)):ev pg (.call (.fn 61 [] []) [s.v,x.v] [])=some { v:=.bool (qpc s x),st:=⟨[],[]⟩ }:=by
 rw[qaa,pg61]
 by_cases h2:x.kind=2
 .rw[zia h2]
  by_cases hi:x.idx<0
  .have hi':¬0<=x.idx:=by omega
   simp[qab,exT,qal,ir61,h2,hi,hi']
  .have hi':0<=x.idx:=by omega
   by_cases hl:x.idx<s.inputs.length
   .have hn:x.idx.toNat<s.inputs.length:=by omega
    simp[qab,exT,qal,ir61,h2,hi,hi',hl,hn]
    cases s.inputs[x.idx.toNat]<;>cases x.val<;>rfl
   .have hn:¬x.idx.toNat<s.inputs.length:=by omega
    simp[qab,exT,qal,ir61,h2,hi,hi',hl,hn]
 .have hb:(x.kind==2)=false:=by simpa using h2
  rw[zna (by omega)]
  have h53:=ev120 s hs
  have hl:=@jgi s x (qdg s) (znn s hs)
  generalize qdg s=l at *
  simp[ir61,hb,h2,h53,qah]
  generalize hr:ev pg (.code (.going _ L61_0) _)=o
  obtain⟨r,rfl,hQ⟩:∃r,o=some r/\_:=by rw[<-hr];exact hl (by simp[T94])
  clear hr
  rcases hQ with⟨k,hk,hp,-,f,hf,rfl⟩ | ⟨hp,f,hf,rfl⟩
  .have:l.any (zmt x)=true:=by
    rw[List.any_eq_true]
    exact⟨l[k],jH hk,by simpa[hk]using hp⟩
   rw[this]
   simp[jak]
  .have:l.any (zmt x)=false:=by
    rw[List.any_eq_false]
    intro y hy
    obtain⟨j,hj,rfl⟩:=List.getElem_of_mem hy
    have:=hp j hj
    simp[hj]at this
    rw[this]
    simp
   rw[this]
   simp[T94]
theorem zuw{s:Ste}{x:Evn}(h:qpc s x=true):0<=x.idx:=by
 unfold qpc at h
 split at h
 .cases h
 .omega
set_option maxHeartbeats 1000000 in
theorem ev121{c:Ct}{s:Ste}(hS:Shp c s)(hs:s.small)(x:Evn)(hk:¬(x.kind<0\/2<x.kind))(hm:qpc s x=true):ev pg (.call (.fn 121 [] []) [s.v,x.v] [])=some { v:=(qen s x).v,st:=⟨[],[]⟩ }:=by
 have h130:=ev192 s hs
 have hi:=zuw hm
 unfold qpc at hm
 rw[if_neg (by omega)]at hm
 rw[qaa,pg121]
 unfold qen
 by_cases h0:x.kind=0
 .rw[if_neg (by omega),h0]at hm
  obtain⟨hi2,he⟩:=qus hm
  rw[if_pos h0]
  have hl:s.ends[x.idx.toNat]?=some s.ends[x.idx.toNat]:=jA hi2
  rcases he with he | he<;>simp[ir121,h130,h0,hi,hi2,hl,he]
 .have h0b:(x.kind==0)=false:=by simpa using h0
  rw[if_neg h0]
  by_cases h1:x.kind=1
  .rw[if_neg (by omega),h1]at hm
   obtain⟨hi2,he⟩:=qsi hm
   have hi3:x.idx.toNat<s.values.length:=by rw[hS.v,<-hS.t];exact hi2
   rw[if_pos h1]
   simp[qab,exT,qal,ir121,h130,h0,h1,hi,hi2,hi3]
  .have h1b:(x.kind==1)=false:=by simpa using h1
   rw[if_neg h1]
   have h2:x.kind=2:=by omega
   rw[if_pos h2]at hm
   have hi2:x.idx.toNat<s.inputs.length:=by
    rcases Nat.lt_or_ge x.idx.toNat s.inputs.length with h | h
    .exact h
    .rw[jY h]at hm;simp at hm
   simp[ir121,h130,h2,hi,hi2]
theorem ev62{c:Ct}{s:Ste}(h:Rdy c s)(x:Evn):ev pg (.call (.fn 62 [] []) [c.v,s.v,x.v] [])=some { v:=zag (qdy c s x),st:=⟨[],[]⟩ }:=by
 unfold qdy
 rw[qaa,pg62]
 by_cases hlo:x.kind<0
 .rw[if_pos (.inl hlo)]
  simp[ir62,hlo,zeroS]
 .by_cases hhi:2<x.kind
  .rw[if_pos (.inr hhi)]
   simp[ir62,hlo,hhi,zeroS]
  .have hk:¬(x.kind<0\/2<x.kind):=by omega
   rw[if_neg hk]
   have h94:=ev61 s h.small x hk
   cases hm:qpc s x with
   | false =>
    rw[hm]at h94
    simp[ir62,hlo,hhi,h94,zeroS]
   | true =>
    rw[hm]at h94
    have h95:=ev121 h.shp h.small x hk hm
    have h55:=ev118 (c:=c) (s:=qen s x) ⟨h.few,qgy h.st hk hm⟩
    generalize qen s x=u at *
    generalize qhd c u=z at *
    simp[qab,exT,qal,ir62,hlo,hhi,h94,h95,h55]
end Go.Proofs.YtbepbclaoohngaaGreat
