/- Strokes that are begun, and a run, by the reference. -/
import Derived.Test.YtbepbclaoohngaaGreatRe1
import Derived.KernelRfl
set_option linter.all false
namespace Go.Proofs.YtbepbclaoohngaaGreat
open Go Go.Am Go.Proofs
set_option maxRecDepth 100000
theorem ev150(c:Ct)(s:Ste)(hfew:c.small=true)(hs:s.small):ev pg (.call (.fn 150 [] []) [c.v,s.v] [])=some { v:=.tup [.bool (zbt c s).1,num (zbt c s).2],st:=⟨[],[]⟩ }:=by
 have e45:=ev147 c s hfew hs
 unfold zbt
 rw[qab,pg150]
 by_cases h:stE c s=0
 .have hR:Rdy c s:=⟨hfew,h⟩
  rw[if_pos h]
  rw[h]at e45
  unfold q6z
  cases hZ:qdh c s with
  | none =>
   have e46:=ev148_none hR hZ
   rw[qxy.2 hZ]
   simp[ir150,e45,e46,zeroS]
  | some x =>
   obtain⟨v,m⟩:=x
   have e46:=ev148_some hR hZ
   have hrv:qda c s=some (qlf (qhj c v),norm (qos c) (m++qpe c v)):=by unfold qda;rw[hZ];rfl
   have e47:=ev149 (qlf (qhj c v)) s (hR.round hrv).small
   rw[qth]at e47
   rw[hrv]
   simp only[Option.map_some,Option.getD_some]
   generalize qks s (qlf (qhj c v))=b at *
   generalize qlf (qhj c v)=u at *
   simp[ir150,e45,e46,e47]
 .rw[if_neg h]
  have hb:(stE c s==0)=false:=by simpa using h
  generalize stE c s=e at *
  simp[ir150,e45,h,hb]
theorem ev90(c:Ct)(s:Ste)(hfew:c.small=true)(hs:s.small):ev pg (.call (.fn 90 [] []) [c.v,s.v] [])=some { v:=num (quE c s),st:=⟨[],[]⟩ }:=by
 have e11:=ev150 c s hfew hs
 unfold zbt at e11
 unfold quE
 rw[qab,pg90]
 by_cases h:stE c s=0
 .rw[if_pos h]at e11 ⊢
  simp only at e11
  cases hb:q6z c s<;>rw[hb]at e11<;>simp[ir90,e11]
 .rw[if_neg h]at e11 ⊢
  simp only at e11
  have hb:(stE c s==0)=false:=by simpa using h
  generalize stE c s=e at *
  simp[ir90,e11,h,hb]
abbrev jep:List V:=[.sl 5 0 0 0 0,.fn 245 [] [.bptr 2 0],.bptr 4 0,.undef,.sl 6 0 0 0 0,.undef,.fn 245 [] [.bptr 2 0],.undef,.undef,.undef,.undef,.undef,.undef]
abbrev Mp(c:Ct)(s:Ste)(l:List Evn)(a:Nat×Nat):H:=[⟨0,.box c.cells⟩,⟨0,.box s.cells⟩,⟨0,.box s.cells⟩,⟨a.1,.arr a.2 (l.map Evn.row)⟩,⟨0,.box [.sl 3 a.1 a.2 0 l.length]⟩,o0,o0,⟨0,.loop jep [7] L244_0 L244_1 none⟩]
theorem z3w(c:Ct)(s:Ste)(l:List Evn)(a:Nat×Nat)(ha:gm3 a)(hl:l.length<=100000)(x:Evn):ev pg (.call (.yld 7) [.agg x.row] (Mp c s l a))=some { v:=.bool true,st:=⟨[],Mp c s (l++[x]) (a.1+1,3)⟩ }:=by
 obtain⟨g,m⟩:=a
 have hb:(l.length+1)*24<=140737488355328:=by omega
 have hmm:m=3\/m=0:=ha
 rw[qie]
 rcases hmm with rfl | rfl<;>simp[qce,L244_0,L244_1,hb]
def zsw(s:Ste)(k:Nat):Tm:=[some (.yld 7),bN 2,none,none,none,none,none,none,some (qes s.ends),some (num s.ends.length),nN k]++zN 36
def zlt(s:Ste)(k:Nat):Tm:=[some (.yld 7),bN 2]++zN 28++[some (qes s.timers),some (num s.timers.length),nN k]++zN 14
theorem jdk(c:Ct)(s:Ste)(hs:s.small){st:St}(a0:Nat×Nat)(g0:gm3 a0)(h0:At (zsw s 0) (Mp c s (qti 0 (qdg s 0) 0) a0) st):∃r,ev pg (.code (.going 8 L245_0) st)=some r/\∃a,gm3 a/\qbn (.exit 0) (zsw s s.ends.length) (Mp c s (qti 0 (qdg s 0) s.ends.length) a) r:=by
 have hse:=hs.e
 refine qev s.ends.length (fun k _=>zsw s k) (fun k a=>Mp c s (qti 0 (qdg s 0) k) a) (fun _ a=>gm3 a) _ ?_ ?_ a0 g0 h0
 .rintro k a f hf hk hG
  have hk':(k:Int)<s.ends.length:=by omega
  have wk:=qbs (k:=k) (by omega)
  have hsl:=qrs 0 (qdg s 0) k
  have hp:qdg s 0 k=(s.ends[k]==1||s.ends[k]==3):=by
   unfold qdg;rw[if_pos rfl,jA hk];rfl
  have hy:=z3w c s (qti 0 (qdg s 0) k) a hG (by omega) ⟨0,k,false⟩
  have hG':gm3 (a.1+1,3):=.inl rfl
  have hGa:gm3 a:=hG
  rw[q6s,hp]
  generalize qti 0 (qdg s 0) k=B at *
  unfold zsw
  obtain⟨g,m⟩:=a
  have hmm:m=3\/m=0:=hGa
  by_cases h1:s.ends[k]=1
  .rcases hmm with rfl | rfl<;>simp[L245_0,hk,hk',wk,h1,hy,hf.ne]
  .have h1b:(s.ends[k]==1)=false:=by simpa using h1
   by_cases h3:s.ends[k]=3
   .rcases hmm with rfl | rfl<;>simp[L245_0,hk,hk',wk,h3,hy,hf.ne]
   .have h3b:(s.ends[k]==3)=false:=by simpa using h3
    rcases hmm with rfl | rfl<;>simp[L245_0,hk,hk',wk,h1,h1b,h3,h3b,hf.ne]
 .rintro⟨g,m⟩ f hf hG
  unfold zsw
  generalize qti 0 (qdg s 0) s.ends.length=B at *
  have hmm:m=3\/m=0:=hG
  rcases hmm with rfl | rfl<;>simp[L245_0,hf.ne]
theorem jdl(c:Ct)(s:Ste)(hs:s.small){st:St}(a0:Nat×Nat)(g0:gm3 a0)(h0:At (zlt s 0) (Mp c s (qti 0 (qdg s 0) s.ends.length++qti 1 (qdg s 1) 0) a0) st):∃r,ev pg (.code (.going 8 L245_1) st)=some r/\∃a,gm3 a/\qbn (.exit 2) (zlt s s.timers.length) (Mp c s (qop s) a) r:=by
 have hse:=hs.e
 have hst:=hs.t
 rw[zbq]
 refine qev s.timers.length (fun k _=>zlt s k) (fun k a=>Mp c s (qti 0 (qdg s 0) s.ends.length++qti 1 (qdg s 1) k) a) (fun _ a=>gm3 a) _ ?_ ?_ a0 g0 h0
 .rintro k a f hf hk hG
  have hk':(k:Int)<s.timers.length:=by omega
  have wk:=qbs (k:=k) (by omega)
  have hsl:=qrs 1 (qdg s 1) k
  have hsl0:=qrs 0 (qdg s 0) s.ends.length
  have hp:qdg s 1 k=(s.timers[k]==1):=by
   unfold qdg;rw[if_neg (by omega),jA hk];rfl
  have hy:=z3w c s (qti 0 (qdg s 0) s.ends.length++qti 1 (qdg s 1) k) a hG (by simp;omega) ⟨1,k,false⟩
  have hGa:gm3 a:=hG
  rw[q6s,hp]
  generalize qti 0 (qdg s 0) s.ends.length=B0 at *
  generalize qti 1 (qdg s 1) k=B at *
  unfold zlt
  obtain⟨g,m⟩:=a
  have hmm:m=3\/m=0:=hGa
  by_cases h1:s.timers[k]=1
  .rcases hmm with rfl | rfl<;>simp[L245_1,hk,hk',wk,h1,hy,Nat.add_assoc,hf.ne]
  .have h1b:(s.timers[k]==1)=false:=by simpa using h1
   rcases hmm with rfl | rfl<;>simp[L245_1,hk,hk',wk,h1,h1b,hf.ne]
 .rintro⟨g,m⟩ f hf hG
  unfold zlt
  generalize qti 0 (qdg s 0) s.ends.length++qti 1 (qdg s 1) s.timers.length=B at *
  have hmm:m=3\/m=0:=hG
  rcases hmm with rfl | rfl<;>simp[L245_1,hf.ne]
theorem ev245(c:Ct)(s:Ste)(hs:s.small):∃a,gm3 a/\ev pg (.call (.fn 245 [] [.bptr 2 0]) [.yld 7] (Mp c s [] (0,0)))=some { v:=.tup [],st:=⟨[],Mp c s (qop s) a⟩ }:=by
 have hl1:=@jdk c s hs
 have hl2:=@jdl c s hs
 have z:qti 1 (qdg s 1) 0=[]:=rfl
 have z0:qti 0 (qdg s 0) 0=[]:=rfl
 rw[z,List.append_nil]at hl2
 rw[z0]at hl1
 generalize qti 0 (qdg s 0) s.ends.length=B0 at *
 generalize qop s=B at *
 have key:∃r a,ev pg (.call (.fn 245 [] [.bptr 2 0]) [.yld 7] (Mp c s [] (0,0)))=some r/\gm3 a/\r={ v:=.tup [],st:=⟨[],Mp c s B a⟩ }:=by
  rw[qab,pg245]
  simp[ir245,qam]
  generalize hr:ev pg (.code (.going _ L245_0) _)=o
  obtain⟨r,rfl,⟨g,m⟩,hm,f,hf,rfl⟩:∃r,o=some r/\_:=by rw[<-hr];exact hl1 (0,0) (.inr rfl) (by simp[zsw])
  clear hr
  have hmm:m=3\/m=0:=hm
  rcases hmm with rfl | rfl<;>simp[zsw,hf.ne]
  .generalize hr:ev pg (.code (.going _ L245_1) _)=o
   obtain⟨r,rfl,⟨g2,m2⟩,hm2,f2,hf2,rfl⟩:∃r,o=some r/\_:=by rw[<-hr];exact hl2 (g,3) (.inl rfl) (by simp[zlt,hf.ne])
   clear hr
   have hmm2:m2=3\/m2=0:=hm2
   rcases hmm2 with rfl | rfl<;>simp[zlt]
   all_goals first | exact⟨g2,3,.inl rfl,by simp⟩ | exact⟨g2,0,.inr rfl,by simp⟩
  .generalize hr:ev pg (.code (.going _ L245_1) _)=o
   obtain⟨r,rfl,⟨g2,m2⟩,hm2,f2,hf2,rfl⟩:∃r,o=some r/\_:=by rw[<-hr];exact hl2 (g,0) (.inr rfl) (by simp[zlt,hf.ne])
   clear hr
   have hmm2:m2=3\/m2=0:=hm2
   rcases hmm2 with rfl | rfl<;>simp[zlt]
   all_goals first | exact⟨g2,3,.inl rfl,by simp⟩ | exact⟨g2,0,.inr rfl,by simp⟩
 obtain⟨r,a,e,ha,rfl⟩:=key
 exact⟨a,ha,e⟩
theorem ev244(c:Ct)(s:Ste)(hs:s.small):ev pg (.call (.fn 244 [] []) [.nils,.fn 245 [] [.bptr 2 0]] [⟨0,.box c.cells⟩,⟨0,.box s.cells⟩,⟨0,.box s.cells⟩])=some { v:=evs (qop s),st:=⟨[],[⟨0,.box c.cells⟩,⟨0,.box s.cells⟩,⟨0,.box s.cells⟩]⟩ }:=by
 obtain⟨⟨g,m⟩,hm,e85⟩:=ev245 c s hs
 generalize qop s=B at *
 have hmm:m=3\/m=0:=hm
 have e85':ev pg (.call (.fn 245 [] [.bptr 2 0]) [.yld 7] [⟨0,.box c.cells⟩,⟨0,.box s.cells⟩,⟨0,.box s.cells⟩,o0,⟨0,.box [.sl 3 0 0 0 0]⟩,o0,o0,⟨0,.loop jep [7] L244_0 L244_1 none⟩])=_:=e85
 rw[qab,pg244]
 rcases hmm with rfl | rfl<;>simp[ir244,qga,e85']
theorem ev202(c:Ct)(s:Ste)(hs:s.small):ev pg (.call (.fn 202 [] []) [.fn 245 [] [.bptr 2 0]] [⟨0,.box c.cells⟩,⟨0,.box s.cells⟩,⟨0,.box s.cells⟩])=some { v:=evs (qop s),st:=⟨[],[⟨0,.box c.cells⟩,⟨0,.box s.cells⟩,⟨0,.box s.cells⟩]⟩ }:=by
 have e84:=ev244 c s hs
 generalize qop s=B at *
 rw[qab,pg202]
 simp[ir202,e84]
theorem ev203(c:Ct)(s:Ste):ev pg (.call (.fn 203 [] []) [s.v] [⟨0,.box c.cells⟩,⟨0,.box s.cells⟩])=some { v:=.fn 245 [] [.bptr 2 0],st:=⟨[],[⟨0,.box c.cells⟩,⟨0,.box s.cells⟩,⟨0,.box s.cells⟩]⟩ }:=by
 rw[qab,pg203]
 simp[ir203]
theorem ev132(c:Ct)(s:Ste)(hfew:c.small=true)(hs:s.small):ev pg (.call (.fn 132 [] []) [c.v,s.v] [])=some { v:=.tup [evs (qec c s).1,num (qec c s).2],st:=⟨[],[]⟩ }:=by
 have e49:=ev90 c s hfew hs
 have e50:=ev202 c s hs
 have e51:=ev203 c s
 unfold qec
 rw[qab,pg132]
 by_cases h:quE c s=0
 .rw[if_pos h]
  rw[h]at e49
  generalize qop s=p at *
  simp[ir132,e49,e50,e51]
 .rw[if_neg h]
  have hb:(quE c s==0)=false:=by simpa using h
  generalize quE c s=e at *
  simp[ir132,e49,h,hb]
abbrev h56(c:Ct)(A:Nat)(k:Nat):H:=[⟨0,.box c.cells⟩,o0,o0,o0,o0,o0,⟨0,.box (zop 1)⟩,⟨1,.arr 1 (List.replicate A [num 0])⟩,⟨1,.arr 1 (List.replicate A [.bool false])⟩,⟨1,.arr 1 (List.replicate c.inputs.length [.bool false])⟩,⟨1,.arr 1 ((ini c k).map qhq)⟩,⟨1,.arr 1 (List.replicate c.signals.length [num 0])⟩,o0,o0,o0,o0,o0,⟨0,.box [.sl 7 1 1 0 A,.sl 8 1 1 0 A,.sl 9 1 1 0 c.inputs.length,.sl 10 1 1 0 c.signals.length,.sl 11 1 1 0 c.signals.length]⟩]
def T56(c:Ct)(k:Nat):Tm:=[none,bN 0,bN 6,nN 0,none,none,bN 17]++zN 27++[some (.imm (c.signals.map Sg.row)),some (num c.signals.length),nN k]++zN 14
theorem jfr(c:Ct)(A:Nat)(hn:c.signals.length<=128){st:St}(h0:At (T56 c 0) (h56 c A 0) st):∃r,ev pg (.code (.going 18 L88_0) st)=some r/\qbn (.exit 0) (T56 c c.signals.length) (h56 c A c.signals.length) r:=by
 refine qnw c.signals.length (T56 c) (h56 c A) _ ?_ ?_ h0
 .intro k f hf hk
  have hk':(k:Int)<c.signals.length:=by omega
  have wk:=qbs (k:=k) (by omega)
  have hl:=zuj c (k:=k) (by omega)
  have e:=qxb (A:=c.signals.map Sg.init) (B:=List.replicate c.signals.length false) (by simp) (k:=k) (by simpa using hk)
  rw[List.getElem_map]at e
  unfold h56 T56 ini
  rw[<-e]
  unfold ini at hl
  generalize mix (c.signals.map Sg.init) (List.replicate c.signals.length false) k=W at *
  have hkW:k<W.length:=by omega
  simp[qaa,exT,qak,L88_0,hk,hk',wk,hkW,hf.ne]
 .intro f hf
  unfold h56 T56 ini
  generalize mix (c.signals.map Sg.init) (List.replicate c.signals.length false) c.signals.length=W at *
  simp[L88_0,hf.ne]
def zak(c:Ct):Ste×Int:=if c.check=0 then(qjr c,0)else(zeroS,c.check)
theorem ev88(c:Ct)(hfew:c.small=true):ev pg (.call (.fn 88 [] []) [c.v] [])=some { v:=.tup [(zak c).1.v,num (zak c).2],st:=⟨[],[]⟩ }:=by
 have e79:=ev87 c hfew
 unfold zak
 by_cases hc:c.check=0
 .have hF:=zdc hfew hc
  have hM:=hF.mid
  have e87:=ev146 hM (qjt c) hF.small hF.shp (zdg hc hfew)
  have hl:=@jfr c c.act.toNat hM.sig
  have hact:=hM.act
  have hhi:=hM.hi
  have hinp:=hM.inp
  have hsig:=hM.sig
  rw[if_pos hc]
  rw[hc]at e79
  unfold qjr
  generalize qfl c (qjt c)=u at *
  have z0:ini c 0=List.replicate c.signals.length false:=qra _ _
  have z1:ini c c.signals.length=c.signals.map Sg.init:=by
   have:=qwz (A:=c.signals.map Sg.init) (B:=List.replicate c.signals.length false) (by simp)
   rwa [List.length_map]at this
  unfold h56 at hl
  rw[z0,z1]at hl
  unfold qjt at e87
  generalize c.act.toNat=A at *
  have e87':ev pg (.call (.fn 146 [] []) [.agg [num c.act,.imm (c.inputs.map qoq),.imm (c.signals.map Sg.row),qes c.plus,qes c.minus],.agg [.imm (List.replicate A [num 0]),.imm (List.replicate A [.bool false]),.imm (List.replicate c.inputs.length [.bool false]),.imm (c.signals.map (qhq∘Sg.init)),.imm (List.replicate c.signals.length [num 0])]] [])=some { v:=u.v,st:=⟨[],[]⟩ }:=by
   rw[<-e87]
   simp only[Ste.v,Ste.cells,qes,qfi,List.map_replicate,List.map_map]
  rw[hact]at e87'
  have e79':ev pg (.call (.fn 87 [] []) [.agg [num (A:Int),.imm (c.inputs.map qoq),.imm (c.signals.map Sg.row),qes c.plus,qes c.minus]] [])=some { v:=num 0,st:=⟨[],[]⟩ }:=by rw[<-hact];exact e79
  have a1:A*8<=140737488355328:=by omega
  have a2:A<=4611686018427387904:=by omega
  have a3:A<=140737488355328:=by omega
  have i2:c.inputs.length<=4611686018427387904:=by omega
  have i3:c.inputs.length<=140737488355328:=by omega
  have s1:c.signals.length*8<=140737488355328:=by omega
  have s2:c.signals.length<=4611686018427387904:=by omega
  have s3:c.signals.length<=140737488355328:=by omega
  rw[qab,pg88]
  simp[qaa,exT,qak,ir88,e79',hact,a1,a2,a3,i2,i3,s1,s2,s3,qam]
  generalize hr:ev pg (.code (.going _ L88_0) _)=o
  obtain⟨r,rfl,f,hf,rfl⟩:∃r,o=some r/\_:=by rw[<-hr];exact hl (by simp[T56,hact])
  simp[T56,hact,e87']
 .rw[if_neg hc]
  have hb:(c.check==0)=false:=by simpa using hc
  rw[qab,pg88]
  generalize c.check=e at *
  simp[ir88,e79,hc,hb,zeroS]
theorem ev39(c:Ct)(hfew:c.small=true):ev pg (.call (.fn 39 [] []) [c.v] [])=some { v:=zwq (qcy c),st:=⟨[],[]⟩ }:=by
 have e56:=ev88 c hfew
 unfold zak at e56
 unfold qcy
 rw[qab,pg39]
 by_cases h:c.check=0
 .have hR:=qgg h
  have e16:=ev89 c (qjr c) hfew (Rdy.small ⟨hfew,hR⟩)
  unfold qpn at e16
  rw[if_pos hR]at e16
  rw[if_pos h]at e56 ⊢
  simp only at e56
  generalize qjf c (qjr c)=x at *
  generalize qjr c=b at *
  simp[ir39,e56,e16]
 .rw[if_neg h]at e56 ⊢
  simp only at e56
  have hb:(c.check==0)=false:=by simpa using h
  generalize c.check=e at *
  simp[ir39,e56,h,hb,zeroS]
abbrev Evn.v(x:Evn):V:=.agg x.row
theorem zbs{s:Ste}{y:Evn}:y∈qop s<->(∃i,i<s.ends.length/\qdg s 0 i=true/\y=⟨0,(i:Nat),false⟩)\/∃i,i<s.timers.length/\qdg s 1 i=true/\y=⟨1,(i:Nat),false⟩:=by
 unfold qop
 simp only[jQ,List.mem_map,List.mem_filter,List.mem_range]
 constructor
 .rintro(⟨i,⟨h1,h2⟩,rfl⟩ | ⟨i,⟨h1,h2⟩,rfl⟩)
  .exact .inl ⟨i,h1,h2,rfl⟩
  .exact .inr ⟨i,h1,h2,rfl⟩
 .rintro(⟨i,h1,h2,rfl⟩ | ⟨i,h1,h2,rfl⟩)
  .exact .inl ⟨i,⟨h1,h2⟩,rfl⟩
  .exact .inr ⟨i,⟨h1,h2⟩,rfl⟩
theorem zwh{s:Ste}{x:Evn}(h:qow s x=true):0<=x.idx:=by
 unfold qow at h
 split at h
 .cases h
 .omega
abbrev jap:List V:=[.fn 152 [.bptr 14 0] [],.fn 153 [.bptr 14 0] [],.fn 154 [.bptr 14 0] []]
abbrev hF(c:Ct)(s:Ste)(x:List V)(t:Ste):H:=[⟨0,.box c.cells⟩,⟨0,.box s.cells⟩,⟨0,.box x⟩,o0,o0,o0,o0,o0,⟨0,.box (zop 3)⟩]++ar5 t++[⟨0,.box (sl5 9 t)⟩,⟨0,.box jap⟩]
set_option maxHeartbeats 1000000 in
set_option maxHeartbeats 1000000 in
theorem ev152{c:Ct}{s:Ste}(hS:Shp c s)(id:Int)(vl:Bool):ev pg (.call (.fn 152 [.bptr 14 0] []) [.agg [num 0,num id,.bool vl]] (hF c s [num 0,num id,.bool vl] s))=some { v:=.bool (qow s ⟨0,id,vl⟩),st:=⟨[],hF c s [num 0,num id,.bool vl] (if qow s ⟨0,id,vl⟩=true then qer s ⟨0,id,vl⟩else s)⟩ }:=by
 have hvt:s.values.length=s.timers.length:=by rw[hS.v,hS.t]
 unfold qow qer
 simp only
 rw[qab,pg152]
 by_cases hi:id<0
 .simp[qaa,exT,qak,ir152,hi]
 .obtain⟨n,rfl⟩:∃n:Nat,id=n:=⟨id.toNat,by omega⟩
  have hi':¬(n:Int)<0:=by omega
  by_cases hl:s.ends.length<=n
  .have hn:¬n<s.ends.length:=by omega
   have hl':(s.ends.length:Int)<=n:=by omega
   simp[qaa,exT,qak,ir152,hi',hl,hl',hn,qdg]
  .have hn:n<s.ends.length:=by omega
   have hl':¬(s.ends.length:Int)<=n:=by omega
   by_cases h1:s.ends[n]=1
   .simp[qaa,exT,qak,ir152,hl,hl',hi',hn,h1,qdg]
   .have h1b:(s.ends[n]==1)=false:=by simpa using h1
    by_cases h3:s.ends[n]=3
    .simp[qaa,exT,qak,ir152,hl,hl',hi',hn,h3,qdg]
    .have h3b:(s.ends[n]==3)=false:=by simpa using h3
     simp[qaa,exT,qak,ir152,hl,hl',hi',hn,h1,h1b,h3,h3b,qdg]
set_option maxHeartbeats 1000000 in
theorem ev153{c:Ct}{s:Ste}(hS:Shp c s)(id:Int)(vl:Bool):ev pg (.call (.fn 153 [.bptr 14 0] []) [.agg [num 1,num id,.bool vl]] (hF c s [num 1,num id,.bool vl] s))=some { v:=.bool (qow s ⟨1,id,vl⟩),st:=⟨[],hF c s [num 1,num id,.bool vl] (if qow s ⟨1,id,vl⟩=true then qer s ⟨1,id,vl⟩else s)⟩ }:=by
 have hvt:s.values.length=s.timers.length:=by rw[hS.v,hS.t]
 unfold qow qer
 simp only
 rw[qab,pg153]
 by_cases hi:id<0
 .simp[qaa,exT,qak,ir153,hi]
 .obtain⟨n,rfl⟩:∃n:Nat,id=n:=⟨id.toNat,by omega⟩
  have hi':¬(n:Int)<0:=by omega
  by_cases hl:s.timers.length<=n
  .have hn:¬n<s.timers.length:=by omega
   have hl':(s.timers.length:Int)<=n:=by omega
   simp[qaa,exT,qak,ir153,hi',hl,hl',hn,qdg]
  .have hn:n<s.timers.length:=by omega
   have hl':¬(s.timers.length:Int)<=n:=by omega
   have hn2:n<s.values.length:=by omega
   by_cases h1:s.timers[n]=1
   .simp[qaa,exT,qak,ir153,hl,hl',hi',hn,hn2,h1,qdg]
   .have h1b:(s.timers[n]==1)=false:=by simpa using h1
    simp[qaa,exT,qak,ir153,hl,hl',hi',hn,h1,h1b,qdg]
set_option maxHeartbeats 1000000 in
theorem ev154{c:Ct}{s:Ste}(hS:Shp c s)(id:Int)(vl:Bool):ev pg (.call (.fn 154 [.bptr 14 0] []) [.agg [num 2,num id,.bool vl]] (hF c s [num 2,num id,.bool vl] s))=some { v:=.bool (qow s ⟨2,id,vl⟩),st:=⟨[],hF c s [num 2,num id,.bool vl] (if qow s ⟨2,id,vl⟩=true then qer s ⟨2,id,vl⟩else s)⟩ }:=by
 have hvt:s.values.length=s.timers.length:=by rw[hS.v,hS.t]
 unfold qow qer
 simp only
 rw[qab,pg154]
 by_cases hi:id<0
 .simp[qaa,exT,qak,ir154,hi]
 .obtain⟨n,rfl⟩:∃n:Nat,id=n:=⟨id.toNat,by omega⟩
  have hi':¬(n:Int)<0:=by omega
  by_cases hl:s.inputs.length<=n
  .have hn:¬n<s.inputs.length:=by omega
   have hl':(s.inputs.length:Int)<=n:=by omega
   simp[qaa,exT,qak,ir154,hi',hl,hl',hn,qdg]
  .have hn:n<s.inputs.length:=by omega
   have hl':¬(s.inputs.length:Int)<=n:=by omega
   generalize hb:s.inputs[n]=b
   cases b<;>cases vl<;>simp[qaa,exT,qak,ir154,hl,hl',hi',hn,hb]
abbrev zxj(p:Int×Bool):List V:=[num p.1,.bool p.2]
abbrev zsd(l:List (Int×Bool)):V:=.imm (l.map zxj)
def qiv(a b:Ste)(k:Nat):List (Int×Bool):=(List.range k).filterMap (qwd a b)
theorem q4y(a b:Ste)(k:Nat):qiv a b (k+1)=qiv a b k++(match qwd a b k with | some p=>[p] | none=>[]):=by
 unfold qiv
 rw[List.range_succ,List.filterMap_append]
 cases h:qwd a b k<;>simp[h]
theorem q8b(a b:Ste)(k:Nat):(qiv a b k).length<=k:=by
 unfold qiv
 exact Nat.le_trans (List.length_filterMap_le _ _) (by simp)
abbrev gm2(a:Nat×Nat):Prop:=a.2=2\/a.2=0
abbrev h64(x y:Ste)(k:Nat)(a:Nat×Nat):H:=[⟨0,.box x.cells⟩,⟨0,.box y.cells⟩,o0,⟨a.1,.arr a.2 ((qiv x y k).map zxj)⟩]
theorem q0x{c:Ct}:∀{d:Nat} {s:Ste} {l:List Int} {t:Ste} {m:List Int},qgp c d s l=some (t,m)->Lin (qos c) m
 | 0,_,_,_,_,h=>by cases h
 | d+1,s,l,t,m,h=>by
  rw[qgp]at h
  cases e:qda c s with
  | none=>rw[e]at h;cases h
  | some x =>
   rw[e]at h
   simp only at h
   split at h
   .cases h;exact Lin.norm _ _
   .exact q0x h
theorem q6k(c:Ct)(s:Ste):Lin (qos c) (qjf c s).2.1:=by
 unfold qjf
 cases e:qlq c s with
 | none=>exact Lin.nil _
 | some x=>exact q0x (show qgp c 65 s []=some (x.1,x.2)from e)
theorem zcq(c:Ct)(s:Ste)(x:Evn):Lin (qos c) (qbk c s x).2.1:=by
 unfold qbk
 split
 .exact Lin.nil _
 .split
  .exact q6k _ _
  .exact Lin.nil _
abbrev zyd(l:List (Int×Bool)):List V:=[zsd l]
abbrev Crs.v(r:Crs):V:=.agg (r.st.cells++[.imm (r.strokes.map zyd),qes r.conf])
abbrev cr7(b:Nat):List V:=[.sl b 0 0 0 0,.sl (b+1) 0 0 0 0,.sl (b+2) 0 0 0 0,.sl (b+3) 0 0 0 0,.sl (b+4) 0 0 0 0,.sl (b+5) 0 0 0 0,.sl (b+6) 0 0 0 0]
theorem zkl{c:Ct}{x:Evn}{l:List Evn}{i:Nat}{r:Crs}(h:¬(qbk c r.st x).2.2=0):qjg c (x :: l) i r=(qkj,(i:Int),(qbk c r.st x).2.2):=by
 rw[qjg,if_neg h]
def zln(c:Ct)(s:Ste)(l:List Evn):Crs×Int×Int:=if quE c s=0 then(if 4096<l.length then(qkj,0,5)else qjg c l 0 ⟨s,[],[]⟩)else(qkj,0,quE c s)
theorem q3a{c:Ct}{s:Ste}(hfew:c.small=true)(h:quE c s=0):Rdy c s:=by
 unfold quE at h
 split at h
 .exact⟨hfew,by assumption⟩
 .rename_i h2;exact absurd h h2
end Go.Proofs.YtbepbclaoohngaaGreat
