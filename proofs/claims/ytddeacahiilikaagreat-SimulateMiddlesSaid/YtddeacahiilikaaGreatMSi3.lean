/- A plant's check, by the program and by the reference: the loops. What is due in a course, by the program. -/
import Derived.Test.YtddeacahiilikaaGreatMPc1
import Derived.KernelRfl
import Derived.Test.YtddeacahiilikaaGreatMMi1
import Derived.Test.YtddeacahiilikaaGreatMRu2
set_option linter.all false
namespace Go.Proofs.YtddeacahiilikaaGreat
open Go Go.Am Go.Proofs
set_option maxRecDepth 100000
def zis(l:List Trv)(k:Nat):Tm:=[none,some (.bptr 0 0),some (num 0)]++List.replicate 16 none++[some (q0x l),some (num l.length),some (num k)]++List.replicate 21 none
theorem z7h(l:List Trv)(hl:l.length<=4096){st:St}(h0:At (zis l 0) (zhm l) st):∃r,ev pg (.code (.going 1 L52_1) st)=some r/\Res (.exit 0) (zis l l.length) (zhm l) zes (qln l) r:=by
 generalize hZ:qln l=Z
 refine qco (α:=Unit) l.length (fun k _=>zis l k) (fun _ _=>zhm l) (fun k _=>qln (l.drop k)=Z) _ ?_ ?_ () hZ h0
 .rintro k-f hf hk hG
  have hk':(k:Int)<l.length:=by omega
  have wk:=qab (n:=(k:Int)+1) (by omega) (by omega)
  have hi:=@z7g l k l[k]
  rw[jL hk,qln]at hG
  simp[zis,L52_1,hk,hk',qaf,hf.ne]
  generalize hr:ev pg (.code (.going _ L52_0) _)=o
  obtain⟨r,rfl,hQ⟩:∃r,o=some r/\_:=by rw[<-hr];exact hi (by simp[q6g,hf.ne])
  clear hr
  cases hQ with
  | no he h1 =>
   obtain⟨f2,hf2,rfl⟩:=h1
   rw[if_pos he]at hG
   simp[q6g,wk,hf2.ne]
   exact hG
  | yes he h' h1 =>
   obtain⟨f2,hf2,rfl⟩:=h1
   rw[if_neg he]at hG
   subst hG
   simp[zes]
   exact .yes he h' (by simp[zes,hf2.ne])
 .rintro-f hf hG
  simp only[List.drop_length,qln]at hG
  simp[zis,L52_1,hf.ne]
  exact .no hG.symm (by simp[zis,hf.ne])
theorem ev52(l:List Trv):ev pg (.call (.fn 52 [] []) [.agg [q0x l]] [])=some { v:=num (qda l),st:=⟨[],[]⟩ }:=by
 unfold qda
 rw[qac,pg52]
 by_cases h1:l.length<1
 .rw[if_pos (.inl h1)]
  have:l=[]:=List.eq_nil_of_length_eq_zero (by omega)
  subst this
  simp[ir52]
 .have h1':¬(l.length:Int)<1:=by omega
  by_cases h2:6<l.length
  .rw[if_pos (.inr h2)]
   have h2':(6:Int)<l.length:=by omega
   simp[ir52,h1',h2']
  .rw[if_neg (by omega)]
   have h2':¬(6:Int)<l.length:=by omega
   have hl:=@z7h l (by omega)
   generalize qln l=e at *
   simp[ir52,h1',h2',qaf]
   generalize hr:ev pg (.code (.going _ L52_1) _)=o
   obtain⟨r,rfl,hQ⟩:∃r,o=some r/\_:=by rw[<-hr];exact hl (by simp[zis])
   clear hr
   cases hQ with
   | no he h1 =>
    obtain⟨f2,hf2,rfl⟩:=h1
    simp[zis,he]
   | yes he h' h1 =>
    obtain⟨f2,hf2,rfl⟩:=h1
    simp[zes]
def q6h(l:List Trv)(k:Nat)(x:Trv)(i:Nat):Tm:=[none,some (.bptr 0 0),some (num 0),some (num k)]++List.replicate 32 none++[some (.imm [[num x.a,num x.b],[num x.c,num x.d]]),some (num 2),some (num i)]++List.replicate 12 none
def zet(e:Int):Tm:=[none,none,some (num e)]++List.replicate 48 none
theorem z7i(l:List Trv)(k:Nat)(x:Trv){st:St}(h0:At (q6h l k x 0) (zhm l) st):∃r,ev pg (.code (.going 1 L55_0) st)=some r/\Res (.exit 2) (q6h l k x 2) (zhm l) zet x.bad r:=by
 refine qco (α:=Unit) 2 (fun i _=>q6h l k x i) (fun _ _=>zhm l) (fun i _=>(i=1->qiy x.a x.b=0)/\(i=2->x.bad=0)) _ ?_ ?_ () ⟨by simp,by simp⟩ h0
 .rintro i-f hf hi ⟨hG,-⟩
  have w1:IntKind.i64.wrap 1=1:=by decide
  have w2:IntKind.i64.wrap 2=2:=by decide
  have hi2:i=0\/i=1:=by omega
  rcases hi2 with rfl | rfl
  .have e77:=ev127 x.a x.b
   have hh:qiy x.a x.b=if qjk x.a x.b=0 then(if x.a<1 then 2 else 0)else qjk x.a x.b:=rfl
   unfold Trv.bad
   generalize qjk x.a x.b=e at *
   generalize qiy x.a x.b=g at *
   generalize qiy x.c x.d=m at *
   by_cases he:e=0
   .rw[if_pos he]at hh
    subst he
    by_cases h1:x.a<1
    .rw[if_pos h1]at hh
     subst hh
     simp[q6h,L55_0,e77,h1,hf.ne]
     exact .yes (by omega) _ (by simp[zet,hf.ne];rfl)
    .rw[if_neg h1]at hh
     subst hh
     simp[q6h,L55_0,e77,h1,w1,hf.ne]
   .rw[if_neg he]at hh
    subst hh
    have hb:(g==0)=false:=by simpa using he
    simp[q6h,L55_0,e77,he,hb,hf.ne]
    exact .yes he _ (by simp[zet,hf.ne];rfl)
  .have e77:=ev127 x.c x.d
   have hh:qiy x.c x.d=if qjk x.c x.d=0 then(if x.c<1 then 2 else 0)else qjk x.c x.d:=rfl
   have hG:=hG rfl
   unfold Trv.bad
   rw[if_pos hG]
   generalize qjk x.c x.d=e at *
   generalize qiy x.a x.b=g at *
   generalize qiy x.c x.d=m at *
   by_cases he:e=0
   .rw[if_pos he]at hh
    subst he
    by_cases h1:x.c<1
    .rw[if_pos h1]at hh
     subst hh
     simp[q6h,L55_0,e77,h1,hf.ne]
     exact .yes (by omega) _ (by simp[zet,hf.ne];rfl)
    .rw[if_neg h1]at hh
     subst hh
     simp[q6h,L55_0,e77,h1,w2,hf.ne]
   .rw[if_neg he]at hh
    subst hh
    have hb:(m==0)=false:=by simpa using he
    simp[q6h,L55_0,e77,he,hb,hf.ne]
    exact .yes he _ (by simp[zet,hf.ne];rfl)
 .rintro-f hf ⟨-,hG⟩
  have hG:=hG rfl
  simp[q6h,L55_0,hf.ne]
  exact .no hG (by simp[q6h,hf.ne])
def zit(l:List Trv)(k:Nat):Tm:=[none,some (.bptr 0 0),some (num 0),some (num k)]++List.replicate 47 none
theorem z7j(l:List Trv)(hl:l.length<=4096){st:St}(h0:At (zit l 0) (zhm l) st):∃r,ev pg (.code (.going 1 L55_1) st)=some r/\Res (.exit 0) (zit l l.length) (zhm l) zet (qln l) r:=by
 generalize hZ:qln l=Z
 refine qco (α:=Unit) l.length (fun k _=>zit l k) (fun _ _=>zhm l) (fun k _=>qln (l.drop k)=Z) _ ?_ ?_ () hZ h0
 .rintro k-f hf hk hG
  have hk':(k:Int)<l.length:=by omega
  have wk:=qab (n:=(k:Int)+1) (by omega) (by omega)
  have hi:=@z7i l k l[k]
  rw[jL hk,qln]at hG
  simp[qaa,exT,qad,zit,L55_1,hk,hk',qaf,hf.ne]
  generalize hr:ev pg (.code (.going _ L55_0) _)=o
  obtain⟨r,rfl,hQ⟩:∃r,o=some r/\_:=by rw[<-hr];exact hi (by simp[q6h,hf.ne])
  clear hr
  cases hQ with
  | no he h1 =>
   obtain⟨f2,hf2,rfl⟩:=h1
   rw[if_pos he]at hG
   simp[q6h,wk,hf2.ne]
   exact hG
  | yes he h' h1 =>
   obtain⟨f2,hf2,rfl⟩:=h1
   rw[if_neg he]at hG
   subst hG
   simp[zet]
   exact .yes he h' (by simp[zet,hf2.ne])
 .rintro-f hf hG
  simp only[List.drop_length,qln]at hG
  simp[zit,L55_1,hf.ne]
  exact .no hG.symm (by simp[zit,hf.ne])
theorem ev55(l:List Trv):ev pg (.call (.fn 55 [] []) [.agg [q0x l]] [])=some { v:=num (qda l),st:=⟨[],[]⟩ }:=by
 unfold qda
 rw[qac,pg55]
 by_cases h1:l.length<1
 .rw[if_pos (.inl h1)]
  have:l=[]:=List.eq_nil_of_length_eq_zero (by omega)
  subst this
  simp[ir55]
 .have h1':¬(l.length:Int)<1:=by omega
  by_cases h2:6<l.length
  .rw[if_pos (.inr h2)]
   have h2':(6:Int)<l.length:=by omega
   simp[ir55,h1',h2']
  .rw[if_neg (by omega)]
   have h2':¬(6:Int)<l.length:=by omega
   have hl:=@z7j l (by omega)
   generalize qln l=e at *
   simp[ir55,h1',h2',qaf]
   generalize hr:ev pg (.code (.going _ L55_1) _)=o
   obtain⟨r,rfl,hQ⟩:∃r,o=some r/\_:=by rw[<-hr];exact hl (by simp[zit])
   clear hr
   cases hQ with
   | no he h1 =>
    obtain⟨f2,hf2,rfl⟩:=h1
    simp[zit,he]
   | yes he h' h1 =>
    obtain⟨f2,hf2,rfl⟩:=h1
    simp[zet]
structure Due where
 t:Int
 e:Evn
abbrev Due.row(d:Due):List V:=[num d.t,num d.e.kind,num d.e.idx,.bool d.e.val]
abbrev Due.v(d:Due):V:=.agg d.row
abbrev zum(l:List Due):V:=.imm (l.map Due.row)
inductive Sl (h:H) (l:List Int):V->Prop
 | imm:Sl h l (qck l)
 | own (i g:Nat) (hi:h[i]?=some ⟨g,.arr 1 (l.map qej)⟩):Sl h l (.sl i g 1 0 l.length)
abbrev qkb(m:Mch)(s:Ste)(ve vt:V)(l:List Prs):List V:=[num m.c.act,.imm (m.c.inputs.map qqm),.imm (m.c.signals.map Sg.row),qck m.c.plus,qck m.c.minus,tms m.ts,qck s.ends,qem s.valves,qem s.inputs,qem s.values,qck s.timers,ve,vt,prs l]
def qhd:List Prs->List Due
 | []=>[]
 | p :: _=>[⟨p.t,⟨2,p.i,p.b⟩⟩]
theorem qcd{h:H}{i:Nat}{o:Ob}(e:h[i]?=some o):i<h.length:=(jG.1 e).1
theorem qcz{h r:H}{i:Nat}{o:Ob}(e:h[i]?=some o):(h++r)[i]?=some o:=by rw[jI (qcd e)];exact e
theorem qbe{h r:H}{k:Nat}:(h++r)[h.length+k]?=r[k]?:=by rw[jJ (by omega),Nat.add_sub_cancel_left]
theorem qbd{h r:H}:(h++r)[h.length]?=r[0]?:=qbe (k:=0)
theorem ev335{h:H}{x:Nat}{m:Mch}{s:Ste}{ve vt:V}{l:List Prs}(hx:h[x]?=some ⟨0,.box (qkb m s ve vt l)⟩)(hc:qcj h):ev pg (.call (.fn 335 [.agg [.bptr x 0]] []) [] h)=some { v:=zum (qhd l),st:=⟨[],h⟩ }:=by
 have hck:=qdg hc
 have hxr:=fun r=>qcz (r:=r) hx
 have hne:=Nat.ne_of_lt (qcd hx)
 rw[qac,pg335]
 cases l with
 | nil=>simp[-qan,ir335,hck,hxr,qbe,qbd,qhd]
 | cons p l =>
  have hz:¬((l.length:Int)+1=0):=by omega
  simp[-qan,hz,ir335,hck,hxr,qbe,qbd,qhd]
def qri(m:Mch)(s:Ste)(e:List Int)(i:Nat):Option Due :=
 if(s.ends[i]?).getD 0=1 then some ⟨(e[i]?).getD 0+((m.ts[i]?).getD (0,0)).1,⟨0,i,false⟩⟩
 else if(s.ends[i]?).getD 0=3 then some ⟨(e[i]?).getD 0+((m.ts[i]?).getD (0,0)).2,⟨0,i,false⟩⟩else none
def upD(f:Nat->Option Due)(k:Nat):List Due:=(List.range k).filterMap f
theorem q5u(f:Nat->Option Due)(k:Nat):upD f (k+1)=upD f k++(f k).toList:=by
 unfold upD
 rw[List.range_succ,List.filterMap_append]
 cases h:f k<;>simp[h]
theorem qph(f:Nat->Option Due)(k:Nat):(upD f k).length<=k:=by
 unfold upD
 have:=List.length_filterMap_le f (List.range k)
 simpa using this
structure Tim(m:Mch)(s:Ste)(e t:List Int):Prop where
 le:e.length=s.ends.length
 lt:t.length=s.timers.length
 lm:m.ts.length=s.ends.length
 ls:m.c.signals.length=s.timers.length
 ne:s.ends.length<=4096
 nt:s.timers.length<=4096
 be:∀u∈e,0<=u/\u<=10000000
 bt:∀u∈t,0<=u/\u<=10000000
 bm:∀q∈m.ts,1<=q.1/\q.1<=1000000/\1<=q.2/\q.2<=1000000
 bd:∀g∈m.c.signals,0<=g.delay/\g.delay<=1000000
def qtn(n:Nat)(s:Ste)(D:List Due)(g w k:Nat):Tm:=[none,some (.bptr n 0),none,some (.sl (n+2) g w 0 D.length)]++List.replicate 8 none++[some (qck s.ends),some (num s.ends.length),some (num k)]++List.replicate 47 none
abbrev q8i(h:H)(x:Nat)(D:List Due)(g w:Nat):H:=h++[⟨0,.box [.bptr x 0]⟩,⟨0,.arr 0 []⟩,⟨g,.arr w (D.map Due.row)⟩]
theorem zyb{h:H}{x:Nat}{m:Mch}{s:Ste}{e t:List Int}{ve vt:V}{l:List Prs}(hx:h[x]?=some ⟨0,.box (qkb m s ve vt l)⟩)(hc:qcj h)(hve:Sl h e ve)(hT:Tim m s e t){st:St}(h0:At (qtn h.length s [] 0 0 0) (q8i h x [] 0 0) st) :
  ∃r,ev pg (.code (.going (h.length+3) L336_0) st)=some r/\∃g w,qai (.exit 0) (qtn h.length s (upD (qri m s e) s.ends.length) g w s.ends.length) (q8i h x (upD (qri m s e) s.ends.length) g w) r:=by
 have hxr:=fun r=>qcz (r:=r) hx
 have hne:=Nat.ne_of_lt (qcd hx)
 have hlt:=qcd hx
 refine qco (α:=Nat×Nat) s.ends.length (fun k a=>qtn h.length s (upD (qri m s e) k) a.1 a.2 k) (fun k a=>q8i h x (upD (qri m s e) k) a.1 a.2) (fun _ a=>a.2=4\/a.2=0) _ ?_ ?_ (0,0) (.inr rfl) h0
 .rintro k ⟨g,w⟩ f hf hk hw
  have hk':(k:Int)<s.ends.length:=by omega
  have hke:k<e.length:=by have:=hT.le;omega
  have hkm:k<m.ts.length:=by have:=hT.lm;omega
  have hn:=hT.ne
  have wk:=qab (n:=(k:Int)+1) (by omega) (by omega)
  have b1:=hT.be _ (jH hke)
  have b2:=hT.bm _ (jH hkm)
  have w1:=qab (n:=e[k]+m.ts[k].1) (by omega) (by omega)
  have w2:=qab (n:=e[k]+m.ts[k].2) (by omega) (by omega)
  have hD:=q5u (qri m s e) k
  have hle:=qph (qri m s e) k
  have hap:((upD (qri m s e) k).length+1)*32<=140737488355328:=by omega
  have hdk:qri m s e k=if s.ends[k]=1 then some ⟨e[k]+m.ts[k].1,⟨0,k,false⟩⟩else if s.ends[k]=3 then some ⟨e[k]+m.ts[k].2,⟨0,k,false⟩⟩else none:=by simp[qri,hk,hke,hkm]
  generalize upD (qri m s e) k=D at *
  generalize upD (qri m s e) (k+1)=D' at *
  generalize qri m s e k=dk at *
  have hcl:∀(rows:List (List V)) (g2 w2:Nat),qay (h.length+3) (h++[⟨0,.box [.bptr x 0]⟩,⟨0,.arr 0 []⟩,⟨g2,.arr w2 rows⟩])=h++[⟨0,.box [.bptr x 0]⟩,⟨0,.arr 0 []⟩,⟨g2,.arr w2 rows⟩]:=fun rows g2 w2=>by
   have:=qga (h:=h++[⟨0,.box [.bptr x 0]⟩,⟨0,.arr 0 []⟩,⟨g2,.arr w2 rows⟩]) (qdm hc (by simp[qbm];omega))
   rwa [show(h++[⟨0,.box [.bptr x 0]⟩,⟨0,.arr 0 []⟩,⟨g2,.arr w2 rows⟩]:H).length=h.length+3 by simp]at this
  by_cases h1:s.ends[k]=1
  .rw[if_pos h1]at hdk
   subst hdk
   simp only[Option.toList_some]at hD
   subst hD
   rcases hve with _ | ⟨i,gi,hi⟩
   .rcases hw with rfl | rfl<;>(simp[-qay,qtn,L336_0,hk,hk',hke,hkm,h1,w1,wk,hxr,qbe,qbd,hap,hf.ne];rw[hcl];simp)
   .have hir:=fun r=>qcz (r:=r) hi
    rcases hw with rfl | rfl<;>(simp[-qay,qtn,L336_0,hk,hk',hke,hkm,h1,w1,wk,hxr,hir,qbe,qbd,hap,hf.ne];rw[hcl];simp)
  .rw[if_neg h1]at hdk
   have h1b:(s.ends[k]==1)=false:=by simpa using h1
   by_cases h3:s.ends[k]=3
   .rw[if_pos h3]at hdk
    subst hdk
    simp only[Option.toList_some]at hD
    subst hD
    rcases hve with _ | ⟨i,gi,hi⟩
    .rcases hw with rfl | rfl<;>(simp[-qay,qtn,L336_0,hk,hk',hke,hkm,h3,w2,wk,hxr,qbe,qbd,hap,hf.ne];rw[hcl];simp)
    .have hir:=fun r=>qcz (r:=r) hi
     rcases hw with rfl | rfl<;>(simp[-qay,qtn,L336_0,hk,hk',hke,hkm,h3,w2,wk,hxr,hir,qbe,qbd,hap,hf.ne];rw[hcl];simp)
   .rw[if_neg h3]at hdk
    subst hdk
    simp only[Option.toList_none,List.append_nil]at hD
    subst hD
    have h3b:(s.ends[k]==3)=false:=by simpa using h3
    rcases hw with rfl | rfl<;>simp[-qay,qtn,L336_0,hk,hk',h1,h3,h1b,h3b,wk,hf.ne,hcl]
 .rintro⟨g,w⟩ f hf hw
  simp[-qay,qtn,L336_0,hf.ne]
theorem ev336{h:H}{x:Nat}{m:Mch}{s:Ste}{e t:List Int}{ve vt:V}{l:List Prs}(hx:h[x]?=some ⟨0,.box (qkb m s ve vt l)⟩)(hc:qcj h)(hve:Sl h e ve)(hT:Tim m s e t):ev pg (.call (.fn 336 [.agg [.bptr x 0]] []) [] h)=some { v:=zum (upD (qri m s e) s.ends.length),st:=⟨[],h⟩ }:=by
 have hck:=qdg hc
 have hxr:=fun r=>qcz (r:=r) hx
 have hne:=Nat.ne_of_lt (qcd hx)
 have hlp:=@zyb h x m s e t ve vt l hx hc hve hT
 generalize upD (qri m s e) s.ends.length=D at *
 rw[qac,pg336]
 simp[-qan,ir336,hck,hxr,qbe,qbd,qaf]
 generalize hr:ev pg (.code (.going _ L336_0) _)=o
 obtain⟨r,rfl,g,w,f,hf,rfl⟩:∃r,o=some r/\_:=by rw[<-hr];exact hlp (by simp[qtn])
 clear hr
 simp[-qan,qtn,hck,qbe,qbd]
def qts(m:Mch)(s:Ste)(t:List Int)(i:Nat):Option Due :=
 if(s.timers[i]?).getD 0=1 then some ⟨(t[i]?).getD 0+((m.c.signals[i]?).map Sg.delay).getD 0,⟨1,i,false⟩⟩else none
def qxw(n:Nat)(s:Ste)(D:List Due)(g w k:Nat):Tm:=[none,some (.bptr n 0),none,some (.sl (n+2) g w 0 D.length)]++List.replicate 7 none++[some (qck s.timers),some (num s.timers.length),some (num k)]++List.replicate 34 none
theorem zyc{h:H}{x:Nat}{m:Mch}{s:Ste}{e t:List Int}{ve vt:V}{l:List Prs}(hx:h[x]?=some ⟨0,.box (qkb m s ve vt l)⟩)(hc:qcj h)(hvt:Sl h t vt)(hT:Tim m s e t){st:St}(h0:At (qxw h.length s [] 0 0 0) (q8i h x [] 0 0) st) :
  ∃r,ev pg (.code (.going (h.length+3) L337_0) st)=some r/\∃g w,qai (.exit 0) (qxw h.length s (upD (qts m s t) s.timers.length) g w s.timers.length) (q8i h x (upD (qts m s t) s.timers.length) g w) r:=by
 have hxr:=fun r=>qcz (r:=r) hx
 have hne:=Nat.ne_of_lt (qcd hx)
 have hlt:=qcd hx
 refine qco (α:=Nat×Nat) s.timers.length (fun k a=>qxw h.length s (upD (qts m s t) k) a.1 a.2 k) (fun k a=>q8i h x (upD (qts m s t) k) a.1 a.2) (fun _ a=>a.2=4\/a.2=0) _ ?_ ?_ (0,0) (.inr rfl) h0
 .rintro k ⟨g,w⟩ f hf hk hw
  have hk':(k:Int)<s.timers.length:=by omega
  have hke:k<t.length:=by have:=hT.lt;omega
  have hkm:k<m.c.signals.length:=by have:=hT.ls;omega
  have hn:=hT.nt
  have wk:=qab (n:=(k:Int)+1) (by omega) (by omega)
  have b1:=hT.bt _ (jH hke)
  have b2:=hT.bd _ (jH hkm)
  have w1:=qab (n:=t[k]+m.c.signals[k].delay) (by omega) (by omega)
  have hD:=q5u (qts m s t) k
  have hle:=qph (qts m s t) k
  have hap:((upD (qts m s t) k).length+1)*32<=140737488355328:=by omega
  have hdk:qts m s t k=if s.timers[k]=1 then some ⟨t[k]+m.c.signals[k].delay,⟨1,k,false⟩⟩else none:=by simp[qts,hk,hke,hkm]
  generalize upD (qts m s t) k=D at *
  generalize upD (qts m s t) (k+1)=D' at *
  generalize qts m s t k=dk at *
  have hcl:∀(rows:List (List V)) (g2 w2:Nat),qay (h.length+3) (h++[⟨0,.box [.bptr x 0]⟩,⟨0,.arr 0 []⟩,⟨g2,.arr w2 rows⟩])=h++[⟨0,.box [.bptr x 0]⟩,⟨0,.arr 0 []⟩,⟨g2,.arr w2 rows⟩]:=fun rows g2 w2=>by
   have:=qga (h:=h++[⟨0,.box [.bptr x 0]⟩,⟨0,.arr 0 []⟩,⟨g2,.arr w2 rows⟩]) (qdm hc (by simp[qbm];omega))
   rwa [show(h++[⟨0,.box [.bptr x 0]⟩,⟨0,.arr 0 []⟩,⟨g2,.arr w2 rows⟩]:H).length=h.length+3 by simp]at this
  by_cases h1:s.timers[k]=1
  .rw[if_pos h1]at hdk
   subst hdk
   simp only[Option.toList_some]at hD
   subst hD
   rcases hvt with _ | ⟨i,gi,hi⟩
   .rcases hw with rfl | rfl<;>(simp[-qay,qaa,exT,qad,qxw,L337_0,hk,hk',hke,hkm,h1,w1,wk,hxr,qbe,qbd,hap,hf.ne];rw[hcl];simp)
   .have hir:=fun r=>qcz (r:=r) hi
    rcases hw with rfl | rfl<;>(simp[-qay,qaa,exT,qad,qxw,L337_0,hk,hk',hke,hkm,h1,w1,wk,hxr,hir,qbe,qbd,hap,hf.ne];rw[hcl];simp)
  .rw[if_neg h1]at hdk
   have h1b:(s.timers[k]==1)=false:=by simpa using h1
   subst hdk
   simp only[Option.toList_none,List.append_nil]at hD
   subst hD
   rcases hw with rfl | rfl<;>simp[-qay,qxw,L337_0,hk,hk',h1,h1b,wk,hf.ne,hcl]
 .rintro⟨g,w⟩ f hf hw
  simp[-qay,qxw,L337_0,hf.ne]
theorem ev337{h:H}{x:Nat}{m:Mch}{s:Ste}{e t:List Int}{ve vt:V}{l:List Prs}(hx:h[x]?=some ⟨0,.box (qkb m s ve vt l)⟩)(hc:qcj h)(hvt:Sl h t vt)(hT:Tim m s e t):ev pg (.call (.fn 337 [.agg [.bptr x 0]] []) [] h)=some { v:=zum (upD (qts m s t) s.timers.length),st:=⟨[],h⟩ }:=by
 have hck:=qdg hc
 have hxr:=fun r=>qcz (r:=r) hx
 have hne:=Nat.ne_of_lt (qcd hx)
 have hlp:=@zyc h x m s e t ve vt l hx hc hvt hT
 generalize upD (qts m s t) s.timers.length=D at *
 rw[qac,pg337]
 simp[-qan,ir337,hck,hxr,qbe,qbd,qaf]
 generalize hr:ev pg (.code (.going _ L337_0) _)=o
 obtain⟨r,rfl,g,w,f,hf,rfl⟩:∃r,o=some r/\_:=by rw[<-hr];exact hlp (by simp[qxw])
 clear hr
 simp[-qan,qxw,hck,qbe,qbd]
end Go.Proofs.YtddeacahiilikaaGreat
