/- What is due in a course, by the program. What is next in a course, by the program. What is next in a course, by the program. Since when something goes on, by the program. -/
import Derived.Test.YtlhciedghbmjjaaGreatSi2
import Derived.Test.YtlhciedghbmjjaaGreatSt2
import Derived.KernelRfl
import Derived.Test.YtlhciedghbmjjaaGreatSa1
set_option linter.all false
namespace Go.Proofs.YtlhciedghbmjjaaGreat
open Go Go.Am Go.Proofs
set_option maxRecDepth 100000
structure Due where
 t:Int
 e:Evn
abbrev Due.row(d:Due):List V:=[num d.t,num d.e.kind,num d.e.idx,.bool d.e.val]
abbrev Due.v(d:Due):V:=.agg d.row
abbrev zzo(l:List Due):V:=.imm (l.map Due.row)
inductive Sl (h:H) (l:List Int):V->Prop
 | imm:Sl h l (qbx l)
 | own (i g:Nat) (hi:h[i]?=some ⟨g,.arr 1 (l.map qdc)⟩):Sl h l (.sl i g 1 0 l.length)
abbrev qlh(m:Mch)(s:Ste)(ve vt:V)(l:List Prs):List V:=[num m.c.act,.imm (m.c.inputs.map q3t),.imm (m.c.signals.map Sg.row),qbx m.c.plus,qbx m.c.minus,tms m.ts,qbx s.ends,qcy s.valves,qcy s.inputs,qcy s.values,qbx s.timers,ve,vt,prs l]
def qga:List Prs->List Due
 | []=>[]
 | p :: _=>[⟨p.t,⟨2,p.i,p.b⟩⟩]
theorem qar{h:H}{i:Nat}{o:Ob}(e:h[i]?=some o):i<h.length:=(jG.1 e).1
theorem qbj{h r:H}{i:Nat}{o:Ob}(e:h[i]?=some o):(h++r)[i]?=some o:=by rw[jI (qar e)];exact e
theorem qap{h r:H}{k:Nat}:(h++r)[h.length+k]?=r[k]?:=by rw[jJ (by omega),Nat.add_sub_cancel_left]
theorem qal{h r:H}:(h++r)[h.length]?=r[0]?:=qap (k:=0)
theorem ev223{h:H}{x:Nat}{m:Mch}{s:Ste}{ve vt:V}{l:List Prs}(hx:h[x]?=some ⟨0,.box (qlh m s ve vt l)⟩)(hc:qck h):ev pg (.call (.fn 223 [.agg [.bptr x 0]] []) [] h)=some { v:=zzo (qga l),st:=⟨[],h⟩ }:=by
 have hck:=qdd hc
 have hxr:=fun r=>qbj (r:=r) hx
 have hne:=Nat.ne_of_lt (qar hx)
 rw[qac,pg223]
 cases l with
 | nil=>simp[-qaq,ir223,hck,hxr,qap,qal,qga]
 | cons p l =>
  have hz:¬((l.length:Int)+1=0):=by omega
  simp[-qaq,hz,ir223,hck,hxr,qap,qal,qga]
def qfz(m:Mch)(s:Ste)(e:List Int)(i:Nat):Option Due :=
 if(s.ends[i]?).getD 0=1 then some ⟨(e[i]?).getD 0+((m.ts[i]?).getD (0,0)).1,⟨0,i,false⟩⟩
 else if(s.ends[i]?).getD 0=3 then some ⟨(e[i]?).getD 0+((m.ts[i]?).getD (0,0)).2,⟨0,i,false⟩⟩else none
def upD(f:Nat->Option Due)(k:Nat):List Due:=(List.range k).filterMap f
theorem qsp(f:Nat->Option Due)(k:Nat):upD f (k+1)=upD f k++(f k).toList:=by
 unfold upD
 rw[List.range_succ,List.filterMap_append]
 cases h:f k<;>simp[h]
theorem qgx(f:Nat->Option Due)(k:Nat):(upD f k).length<=k:=by
 unfold upD
 have:=List.length_filterMap_le f (List.range k)
 simpa using this
structure Tim(m:Mch)(s:Ste)(e t:List Int):Prop where
 le:e.length=s.ends.length
 lt:t.length=s.timers.length
 lm:m.ts.length=s.ends.length
 ls:m.c.signals.length=s.timers.length
 ne:s.ends.length<=4096
 nt:s.timers.length<=4096
 be:∀u∈e,0<=u/\u<=10000000
 bt:∀u∈t,0<=u/\u<=10000000
 bm:∀q∈m.ts,1<=q.1/\q.1<=1000000/\1<=q.2/\q.2<=1000000
 bd:∀g∈m.c.signals,0<=g.delay/\g.delay<=1000000
def que(n:Nat)(s:Ste)(D:List Due)(g w k:Nat):Tm:=[none,some (.bptr n 0),none,some (.sl (n+2) g w 0 D.length)]++List.replicate 8 none++[some (qbx s.ends),some (num s.ends.length),some (num k)]++List.replicate 47 none
abbrev zad(h:H)(x:Nat)(D:List Due)(g w:Nat):H:=h++[⟨0,.box [.bptr x 0]⟩,⟨0,.arr 0 []⟩,⟨g,.arr w (D.map Due.row)⟩]
theorem zzu{h:H}{x:Nat}{m:Mch}{s:Ste}{e t:List Int}{ve vt:V}{l:List Prs}(hx:h[x]?=some ⟨0,.box (qlh m s ve vt l)⟩)(hc:qck h)(hve:Sl h e ve)(hT:Tim m s e t){st:St}(h0:At (que h.length s [] 0 0 0) (zad h x [] 0 0) st) :
  ∃r,ev pg (.code (.going (h.length+3) L224_0) st)=some r/\∃g w,qag (.exit 0) (que h.length s (upD (qfz m s e) s.ends.length) g w s.ends.length) (zad h x (upD (qfz m s e) s.ends.length) g w) r:=by
 have hxr:=fun r=>qbj (r:=r) hx
 have hne:=Nat.ne_of_lt (qar hx)
 have hlt:=qar hx
 refine qbn (α:=Nat×Nat) s.ends.length (fun k a=>que h.length s (upD (qfz m s e) k) a.1 a.2 k) (fun k a=>zad h x (upD (qfz m s e) k) a.1 a.2) (fun _ a=>a.2=4\/a.2=0) _ ?_ ?_ (0,0) (.inr rfl) h0
 .rintro k ⟨g,w⟩ f hf hk hw
  have hk':(k:Int)<s.ends.length:=by omega
  have hke:k<e.length:=by have:=hT.le;omega
  have hkm:k<m.ts.length:=by have:=hT.lm;omega
  have hn:=hT.ne
  have wk:=qab (n:=(k:Int)+1) (by omega) (by omega)
  have b1:=hT.be _ (jH hke)
  have b2:=hT.bm _ (jH hkm)
  have w1:=qab (n:=e[k]+m.ts[k].1) (by omega) (by omega)
  have w2:=qab (n:=e[k]+m.ts[k].2) (by omega) (by omega)
  have hD:=qsp (qfz m s e) k
  have hle:=qgx (qfz m s e) k
  have hap:((upD (qfz m s e) k).length+1)*32<=140737488355328:=by omega
  have hdk:qfz m s e k=if s.ends[k]=1 then some ⟨e[k]+m.ts[k].1,⟨0,k,false⟩⟩else if s.ends[k]=3 then some ⟨e[k]+m.ts[k].2,⟨0,k,false⟩⟩else none:=by simp[qfz,hk,hke,hkm]
  generalize upD (qfz m s e) k=D at *
  generalize upD (qfz m s e) (k+1)=D' at *
  generalize qfz m s e k=dk at *
  have hcl:∀(rows:List (List V)) (g2 w2:Nat),qav (h.length+3) (h++[⟨0,.box [.bptr x 0]⟩,⟨0,.arr 0 []⟩,⟨g2,.arr w2 rows⟩])=h++[⟨0,.box [.bptr x 0]⟩,⟨0,.arr 0 []⟩,⟨g2,.arr w2 rows⟩]:=fun rows g2 w2=>by
   have:=qej (h:=h++[⟨0,.box [.bptr x 0]⟩,⟨0,.arr 0 []⟩,⟨g2,.arr w2 rows⟩]) (qcl hc (by simp[qbg];omega))
   rwa [show(h++[⟨0,.box [.bptr x 0]⟩,⟨0,.arr 0 []⟩,⟨g2,.arr w2 rows⟩]:H).length=h.length+3 by simp]at this
  by_cases h1:s.ends[k]=1
  .rw[if_pos h1]at hdk
   subst hdk
   simp only[Option.toList_some]at hD
   subst hD
   rcases hve with _ | ⟨i,gi,hi⟩
   .rcases hw with rfl | rfl<;>(simp[-qav,que,L224_0,hk,hk',hke,hkm,h1,w1,wk,hxr,qap,qal,hap,hf.ne];rw[hcl];simp)
   .have hir:=fun r=>qbj (r:=r) hi
    rcases hw with rfl | rfl<;>(simp[-qav,que,L224_0,hk,hk',hke,hkm,h1,w1,wk,hxr,hir,qap,qal,hap,hf.ne];rw[hcl];simp)
  .rw[if_neg h1]at hdk
   have h1b:(s.ends[k]==1)=false:=by simpa using h1
   by_cases h3:s.ends[k]=3
   .rw[if_pos h3]at hdk
    subst hdk
    simp only[Option.toList_some]at hD
    subst hD
    rcases hve with _ | ⟨i,gi,hi⟩
    .rcases hw with rfl | rfl<;>(simp[-qav,que,L224_0,hk,hk',hke,hkm,h3,w2,wk,hxr,qap,qal,hap,hf.ne];rw[hcl];simp)
    .have hir:=fun r=>qbj (r:=r) hi
     rcases hw with rfl | rfl<;>(simp[-qav,que,L224_0,hk,hk',hke,hkm,h3,w2,wk,hxr,hir,qap,qal,hap,hf.ne];rw[hcl];simp)
   .rw[if_neg h3]at hdk
    subst hdk
    simp only[Option.toList_none,List.append_nil]at hD
    subst hD
    have h3b:(s.ends[k]==3)=false:=by simpa using h3
    rcases hw with rfl | rfl<;>simp[-qav,que,L224_0,hk,hk',h1,h3,h1b,h3b,wk,hf.ne,hcl]
 .rintro⟨g,w⟩ f hf hw
  simp[-qav,que,L224_0,hf.ne]
theorem ev224{h:H}{x:Nat}{m:Mch}{s:Ste}{e t:List Int}{ve vt:V}{l:List Prs}(hx:h[x]?=some ⟨0,.box (qlh m s ve vt l)⟩)(hc:qck h)(hve:Sl h e ve)(hT:Tim m s e t):ev pg (.call (.fn 224 [.agg [.bptr x 0]] []) [] h)=some { v:=zzo (upD (qfz m s e) s.ends.length),st:=⟨[],h⟩ }:=by
 have hck:=qdd hc
 have hxr:=fun r=>qbj (r:=r) hx
 have hne:=Nat.ne_of_lt (qar hx)
 have hlp:=@zzu h x m s e t ve vt l hx hc hve hT
 generalize upD (qfz m s e) s.ends.length=D at *
 rw[qac,pg224]
 simp[-qaq,ir224,hck,hxr,qap,qal,qaf]
 generalize hr:ev pg (.code (.going _ L224_0) _)=o
 obtain⟨r,rfl,g,w,f,hf,rfl⟩:∃r,o=some r/\_:=by rw[<-hr];exact hlp (by simp[que])
 clear hr
 simp[-qaq,que,hck,qap,qal]
def qgw(m:Mch)(s:Ste)(t:List Int)(i:Nat):Option Due :=
 if(s.timers[i]?).getD 0=1 then some ⟨(t[i]?).getD 0+((m.c.signals[i]?).map Sg.delay).getD 0,⟨1,i,false⟩⟩else none
def qyq(n:Nat)(s:Ste)(D:List Due)(g w k:Nat):Tm:=[none,some (.bptr n 0),none,some (.sl (n+2) g w 0 D.length)]++List.replicate 7 none++[some (qbx s.timers),some (num s.timers.length),some (num k)]++List.replicate 34 none
theorem z2e{h:H}{x:Nat}{m:Mch}{s:Ste}{e t:List Int}{ve vt:V}{l:List Prs}(hx:h[x]?=some ⟨0,.box (qlh m s ve vt l)⟩)(hc:qck h)(hvt:Sl h t vt)(hT:Tim m s e t){st:St}(h0:At (qyq h.length s [] 0 0 0) (zad h x [] 0 0) st) :
  ∃r,ev pg (.code (.going (h.length+3) L225_0) st)=some r/\∃g w,qag (.exit 0) (qyq h.length s (upD (qgw m s t) s.timers.length) g w s.timers.length) (zad h x (upD (qgw m s t) s.timers.length) g w) r:=by
 have hxr:=fun r=>qbj (r:=r) hx
 have hne:=Nat.ne_of_lt (qar hx)
 have hlt:=qar hx
 refine qbn (α:=Nat×Nat) s.timers.length (fun k a=>qyq h.length s (upD (qgw m s t) k) a.1 a.2 k) (fun k a=>zad h x (upD (qgw m s t) k) a.1 a.2) (fun _ a=>a.2=4\/a.2=0) _ ?_ ?_ (0,0) (.inr rfl) h0
 .rintro k ⟨g,w⟩ f hf hk hw
  have hk':(k:Int)<s.timers.length:=by omega
  have hke:k<t.length:=by have:=hT.lt;omega
  have hkm:k<m.c.signals.length:=by have:=hT.ls;omega
  have hn:=hT.nt
  have wk:=qab (n:=(k:Int)+1) (by omega) (by omega)
  have b1:=hT.bt _ (jH hke)
  have b2:=hT.bd _ (jH hkm)
  have w1:=qab (n:=t[k]+m.c.signals[k].delay) (by omega) (by omega)
  have hD:=qsp (qgw m s t) k
  have hle:=qgx (qgw m s t) k
  have hap:((upD (qgw m s t) k).length+1)*32<=140737488355328:=by omega
  have hdk:qgw m s t k=if s.timers[k]=1 then some ⟨t[k]+m.c.signals[k].delay,⟨1,k,false⟩⟩else none:=by simp[qgw,hk,hke,hkm]
  generalize upD (qgw m s t) k=D at *
  generalize upD (qgw m s t) (k+1)=D' at *
  generalize qgw m s t k=dk at *
  have hcl:∀(rows:List (List V)) (g2 w2:Nat),qav (h.length+3) (h++[⟨0,.box [.bptr x 0]⟩,⟨0,.arr 0 []⟩,⟨g2,.arr w2 rows⟩])=h++[⟨0,.box [.bptr x 0]⟩,⟨0,.arr 0 []⟩,⟨g2,.arr w2 rows⟩]:=fun rows g2 w2=>by
   have:=qej (h:=h++[⟨0,.box [.bptr x 0]⟩,⟨0,.arr 0 []⟩,⟨g2,.arr w2 rows⟩]) (qcl hc (by simp[qbg];omega))
   rwa [show(h++[⟨0,.box [.bptr x 0]⟩,⟨0,.arr 0 []⟩,⟨g2,.arr w2 rows⟩]:H).length=h.length+3 by simp]at this
  by_cases h1:s.timers[k]=1
  .rw[if_pos h1]at hdk
   subst hdk
   simp only[Option.toList_some]at hD
   subst hD
   rcases hvt with _ | ⟨i,gi,hi⟩
   .rcases hw with rfl | rfl<;>(simp[-qav,qaa,exT,qae,qyq,L225_0,hk,hk',hke,hkm,h1,w1,wk,hxr,qap,qal,hap,hf.ne];rw[hcl];simp)
   .have hir:=fun r=>qbj (r:=r) hi
    rcases hw with rfl | rfl<;>(simp[-qav,qaa,exT,qae,qyq,L225_0,hk,hk',hke,hkm,h1,w1,wk,hxr,hir,qap,qal,hap,hf.ne];rw[hcl];simp)
  .rw[if_neg h1]at hdk
   have h1b:(s.timers[k]==1)=false:=by simpa using h1
   subst hdk
   simp only[Option.toList_none,List.append_nil]at hD
   subst hD
   rcases hw with rfl | rfl<;>simp[-qav,qyq,L225_0,hk,hk',h1,h1b,wk,hf.ne,hcl]
 .rintro⟨g,w⟩ f hf hw
  simp[-qav,qyq,L225_0,hf.ne]
theorem ev225{h:H}{x:Nat}{m:Mch}{s:Ste}{e t:List Int}{ve vt:V}{l:List Prs}(hx:h[x]?=some ⟨0,.box (qlh m s ve vt l)⟩)(hc:qck h)(hvt:Sl h t vt)(hT:Tim m s e t):ev pg (.call (.fn 225 [.agg [.bptr x 0]] []) [] h)=some { v:=zzo (upD (qgw m s t) s.timers.length),st:=⟨[],h⟩ }:=by
 have hck:=qdd hc
 have hxr:=fun r=>qbj (r:=r) hx
 have hne:=Nat.ne_of_lt (qar hx)
 have hlp:=@z2e h x m s e t ve vt l hx hc hvt hT
 generalize upD (qgw m s t) s.timers.length=D at *
 rw[qac,pg225]
 simp[-qaq,ir225,hck,hxr,qap,qal,qaf]
 generalize hr:ev pg (.code (.going _ L225_0) _)=o
 obtain⟨r,rfl,g,w,f,hf,rfl⟩:∃r,o=some r/\_:=by rw[<-hr];exact hlp (by simp[qyq])
 clear hr
 simp[-qaq,qyq,hck,qap,qal]
def qtz(d:Due)(r:List Due):Due:=r.foldl (fun m x=>if x.t<m.t then x else m) d
def Due.ok(d:Due):Prop:=-100000000<=d.t/\d.t<=100000000
theorem zcx:∀{r:List Due} {d:Due},d.ok->(∀x∈r,x.ok)->(qtz d r).ok
 | [],d,h,_=>h
 | x :: r,d,h,hr=>by
  unfold qtz
  rw[List.foldl_cons]
  refine zcx (r:=r) ?_ fun y hy=>hr y (by simp[hy])
  split
  .exact hr x (by simp)
  .exact h
theorem q1o{d:Due}{r:List Due}{k:Nat}(hk:k<r.length):qtz d (r.take (k+1))=if r[k].t<(qtz d (r.take k)).t then r[k]else qtz d (r.take k):=by
 unfold qtz
 rw[jK hk,List.foldl_append]
 rfl
theorem ev65{a b:Due}(ha:a.ok)(hb:b.ok):ev pg (.call (.fn 65 [] []) [a.v,b.v] [])=some { v:=num (a.t-b.t),st:=⟨[],[]⟩ }:=by
 obtain⟨a1,a2⟩:=ha
 obtain⟨b1,b2⟩:=hb
 have w:=qab (n:=a.t-b.t) (by omega) (by omega)
 rw[qac,pg65]
 simp[ir65,w]
abbrev zD:List V:=[num 0,num 0,num 0,.bool false]
def zmh(d:Due)(r:List Due)(k:Nat):Tm:=[some (zzo (d :: r)),some (.fn 65 [] []),none,none,some (.bptr 0 0),some (.bptr 1 0),some (num ((k:Int)+1))]++List.replicate 26 none
abbrev jbn(x:Due):H:=[⟨0,.box zD⟩,⟨0,.box x.row⟩]
theorem z9w{d:Due}{r:List Due}(hd:d.ok)(hr:∀x∈r,x.ok)(hl:r.length<=100000){st:St}(h0:At (zmh d r 0) (jbn d) st):∃q,ev pg (.code (.going 2 L64_0) st)=some q/\qag (.exit 0) (zmh d r r.length) (jbn (qtz d r)) q:=by
 refine qcd r.length (zmh d r) (fun k=>jbn (qtz d (r.take k))) _ ?_ ?_ h0
 .intro k f hf hk
  have hk':(k:Int)<r.length:=by omega
  have wk:=qab (n:=(k:Int)+1+1) (by omega) (by omega)
  have hs:=q1o (d:=d) hk
  have hm:(qtz d (r.take k)).ok:=zcx hd fun x hx=>hr x (List.mem_of_mem_take hx)
  have hx:=hr _ (jH hk)
  have h65:=ev65 hx hm
  generalize qtz d (r.take k)=M at *
  generalize qtz d (r.take (k+1))=M' at *
  subst hs
  have hk00:(0:Int)<=(k:Int)+1:=by omega
  by_cases h1:r[k].t<M.t
  .have h2:r[k].t-M.t<0:=by omega
   simp[qaa,exT,qae,zmh,L64_0,hk,hk',hk00,h65,h1,h2,wk,hf.ne]
  .have h2:¬r[k].t-M.t<0:=by omega
   simp[qaa,exT,qae,zmh,L64_0,hk,hk',hk00,h65,h1,h2,wk,hf.ne]
 .intro f hf
  rw[List.take_length]
  simp[zmh,L64_0,hf.ne]
theorem ev64{d:Due}{r:List Due}(hd:d.ok)(hr:∀x∈r,x.ok)(hl:r.length<=100000):ev pg (.call (.fn 64 [] []) [zzo (d :: r),.fn 65 [] []] [])=some { v:=(qtz d r).v,st:=⟨[],[]⟩ }:=by
 have hlp:=@z9w d r hd hr hl
 generalize qtz d r=M at *
 have h1:¬((r.length:Int)+1<1):=by omega
 rw[qac,pg64]
 simp[ir64,h1,qaf]
 generalize hq:ev pg (.code (.going _ L64_0) _)=o
 obtain⟨q,rfl,f,hf,rfl⟩:∃q,o=some q/\_:=by rw[<-hq];exact hlp (by simp[zmh])
 clear hq
 simp[zmh]
def qpr(m:Mch)(s:Ste)(e t:List Int)(l:List Prs):List Due:=qga l++(upD (qfz m s e) s.ends.length++upD (qgw m s t) s.timers.length)
def qky:List Due->Option Due
 | []=>none
 | d :: r=>some (qtz d r)
def zah:Due:=⟨0,⟨0,0,false⟩⟩
theorem qpv(l:List Due):qio 4 (l.map Due.row)=true:=by simp[qio]
theorem quy(l:List Due):qcn (l.map Due.row)=true:=by simp[qcn]
def zvd(m:Mch)(s:Ste)(e t:List Int)(l:List Prs):Nat->List Due
 | 0=>[]
 | 1=>qga l
 | 2=>qga l++upD (qfz m s e) s.ends.length
 | _=>qpr m s e t l
abbrev ifc(t x:Nat):V:=.fn t [.agg [.bptr x 0]] []
def zgk(x n:Nat)(D:List Due)(g w k:Nat):Tm:=[some (.bptr x 0),none,some (.bptr n 0),some (.bool false),some (.sl (n+1) g w 0 D.length)]++List.replicate 11 none++[some (.agg [ifc 1000145 x,ifc 1000146 x,ifc 1000147 x]),some (num k)]++List.replicate 13 none
abbrev jcr(h:H)(D:List Due)(g w:Nat):H:=h++[⟨0,.box zD⟩,⟨g,.arr w (D.map Due.row)⟩]
theorem jcs{h:H}{x:Nat}{m:Mch}{s:Ste}{e t:List Int}{ve vt:V}{l:List Prs}(hx:h[x]?=some ⟨0,.box (qlh m s ve vt l)⟩)(hc:qck h)(hve:Sl h e ve)(hvt:Sl h t vt)(hT:Tim m s e t){st:St}(h0:At (zgk x h.length [] 0 0 0) (jcr h [] 0 0) st) :
  ∃r,ev pg (.code (.going (h.length+2) L40_0) st)=some r/\qag (.exit 0) (zgk x h.length (qpr m s e t l) 3 4 3) (jcr h (qpr m s e t l) 3 4) r:=by
 have hlt:=qar hx
 have hne:=Nat.ne_of_lt hlt
 have hcl:∀(rows:List (List V)) (g w:Nat),qck (h++[⟨0,.box zD⟩,⟨g,.arr w rows⟩]):=fun rows g w=>qcl hc (by simp[qbg])
 have hcut:∀(rows:List (List V)) (g w:Nat),qav (h.length+2) (h++[⟨0,.box zD⟩,⟨g,.arr w rows⟩])=h++[⟨0,.box zD⟩,⟨g,.arr w rows⟩]:=fun rows g w=>by
  have:=qej (hcl rows g w)
  rwa [show(h++[⟨0,.box zD⟩,⟨g,.arr w rows⟩]:H).length=h.length+2 by simp]at this
 have slm:∀{a:List Int} {v:V} (r:H),Sl h a v->Sl (h++r) a v:=fun r hv=>by
  rcases hv with _ | ⟨i,g,hi⟩
  .exact .imm
  .exact .own i g (qbj hi)
 have e1:∀(rows:List (List V)) (g w:Nat),_:=fun rows g w=>ev223 (h:=h++[⟨0,.box zD⟩,⟨g,.arr w rows⟩]) (x:=x) (qbj hx) (hcl rows g w)
 have e2:∀(rows:List (List V)) (g w:Nat),_:=fun rows g w=>ev224 (h:=h++[⟨0,.box zD⟩,⟨g,.arr w rows⟩]) (x:=x) (qbj hx) (hcl rows g w) (slm _ hve) hT
 have e3:∀(rows:List (List V)) (g w:Nat),_:=fun rows g w=>ev225 (h:=h++[⟨0,.box zD⟩,⟨g,.arr w rows⟩]) (x:=x) (qbj hx) (hcl rows g w) (slm _ hvt) hT
 have n1:(qga l).length<=1:=by cases l<;>simp[qga]
 have n2:=qgx (qfz m s e) s.ends.length
 have n3:=qgx (qgw m s t) s.timers.length
 have n4:=hT.ne
 have n5:=hT.nt
 have hall:qpr m s e t l=qga l++(upD (qfz m s e) s.ends.length++upD (qgw m s t) s.timers.length):=rfl
 have s1:zvd m s e t l 1=qga l:=rfl
 have s2:zvd m s e t l 2=qga l++upD (qfz m s e) s.ends.length:=rfl
 have s3:zvd m s e t l 3=qpr m s e t l:=rfl
 have s0:zvd m s e t l 0=[]:=rfl
 generalize qpr m s e t l=Z at *
 generalize qga l=A at *
 generalize upD (qfz m s e) s.ends.length=B at *
 generalize upD (qgw m s t) s.timers.length=C at *
 subst hall
 have z1:=qpv A
 have z2:=qpv B
 have z3:=qpv C
 have p1:=quy A
 have p2:=quy B
 have p3:=quy C
 have a1:A.length*32<=140737488355328:=by omega
 have a2:(A.length+B.length)*32<=140737488355328:=by omega
 have a3:(A.length+B.length+C.length)*32<=140737488355328:=by omega
 refine qcd 3 (fun k=>zgk x h.length (zvd m s e t l k) k (if k=0 then 0 else 4) k) (fun k=>jcr h (zvd m s e t l k) k (if k=0 then 0 else 4)) _ ?_ ?_ (by rw[s0];exact h0)
 .intro k f hf hk
  have hk3:k=0\/k=1\/k=2:=by omega
  have hx2:x<h.length+2:=by omega
  have w1:IntKind.i64.wrap 1=1:=by decide
  have w2:IntKind.i64.wrap 2=2:=by decide
  have w3:IntKind.i64.wrap 3=3:=by decide
  rcases hk3 with rfl | rfl | rfl
  .simp[-qav,-qio,-qcn,zgk,L40_0,s0,s1,e1,z1,p1,a1,hx2,w1,qap,qal,hf.ne]
   exact hcut _ _ _
  .simp[-qav,-qio,-qcn,zgk,L40_0,s1,s2,e2,z2,p2,a2,hx2,w2,qap,qal,hf.ne]
   rw[hcut]
   simp
  .simp[-qav,-qio,-qcn,zgk,L40_0,s2,s3,e3,z3,p3,a3,hx2,w3,qap,qal,hf.ne]
   refine⟨by omega,?_⟩
   rw[hcut]
   simp
 .intro f hf
  simp[-qav,zgk,L40_0,s3,hf.ne]
theorem qdk{h r:H}{k:Nat}{o:Ob}:(h++r).set (h.length+k) o=h++r.set k o:=by rw[List.set_append_right _ _ (by omega),Nat.add_sub_cancel_left]
theorem qcv{h r:H}{o:Ob}:(h++r).set h.length o=h++r.set 0 o:=qdk (k:=0)
theorem ev40{h:H}{x:Nat}{m:Mch}{s:Ste}{e t:List Int}{ve vt:V}{l:List Prs}(hx:h[x]?=some ⟨0,.box (qlh m s ve vt l)⟩)(hc:qck h)(hve:Sl h e ve)(hvt:Sl h t vt)(hT:Tim m s e t)(hok:∀d∈qpr m s e t l,d.ok) :
  ev pg (.call (.fn 40 [.bptr x 0] []) [] h)=some { v:=.tup [((qky (qpr m s e t l)).getD zah).v,.bool (qky (qpr m s e t l)).isSome],st:=⟨[],h⟩ }:=by
 have hck:=qdd hc
 have hlp:=@jcs h x m s e t ve vt l hx hc hve hvt hT
 have n1:(qga l).length<=1:=by cases l<;>simp[qga]
 have n2:=qgx (qfz m s e) s.ends.length
 have n3:=qgx (qgw m s t) s.timers.length
 have n4:=hT.ne
 have n5:=hT.nt
 have hlen:(qpr m s e t l).length<=10000:=by simp[qpr];omega
 generalize qpr m s e t l=Z at *
 rw[qac,pg40]
 simp[-qaq,ir40,hck,qaf]
 generalize hr:ev pg (.code (.going _ L40_0) _)=o
 obtain⟨r,rfl,f,hf,rfl⟩:∃r,o=some r/\_:=by rw[<-hr];exact hlp (by simp[zgk])
 clear hr
 cases Z with
 | nil=>simp[-qaq,zgk,qky,hck,qap,qal,qdk,qcv,zah]
 | cons d Z =>
  have e64:ev pg (.call (.fn 64 [] []) [.imm (d.row :: Z.map Due.row),.fn 65 [] []] [])=_:=ev64 (d:=d) (r:=Z) (hok d (by simp)) (fun x hx=>hok x (by simp[hx])) (by simp at hlen;omega)
  have h1:¬((Z.length:Int)+1=0):=by omega
  simp[-qaq,zgk,qky,hck,e64,h1,qap,qal,qdk,qcv]
def zgf(d:Due)(kd i:Int):Bool:=decide (d.e.kind=kd)&&decide (d.e.idx=i)
theorem ev68{h:H}{b:Nat}{d:Due}(hb:h[b]?=some ⟨0,.box d.row⟩)(hc:qck h)(kd i:Int):ev pg (.call (.fn 68 [] [.bptr b 0]) [num kd,num i] h)=some { v:=.bool (zgf d kd i),st:=⟨[],h⟩ }:=by
 have hck:=qeb hc
 rw[qac,pg68]
 unfold zgf
 by_cases h1:d.e.kind=kd
 .by_cases h2:d.e.idx=i
  .simp[-qaq,ir68,hb,hck,h1,h2]
  .have h2b:(d.e.idx==i)=false:=by simpa using h2
   simp[-qaq,ir68,hb,hck,h1,h2,h2b]
 .have h1b:(d.e.kind==kd)=false:=by simpa using h1
  simp[-qaq,ir68,hb,hck,h1,h1b]
structure Hap(h:H)(x nb pb ob db:Nat)(m:Mch)(s n:Ste)(ve vt:V)(l:List Prs)(d:Due):Prop where
 cm:qck h
 hx:h[x]?=some ⟨0,.box (qlh m s ve vt l)⟩
 hn:h[nb]?=some ⟨0,.box n.cells⟩
 hp:h[pb]?=some ⟨0,.box [.bptr x 0]⟩
 ho:h[ob]?=some ⟨0,.box [.fn 68 [] [.bptr db 0]]⟩
 hd:h[db]?=some ⟨0,.box d.row⟩
def onE(s n:Ste)(d:Due)(i:Nat):Bool:=decide ((n.ends[i]?).getD 0=(s.ends[i]?).getD 0) && !zgf d 0 i
def onT(s n:Ste)(d:Due)(i:Nat):Bool:=decide ((n.timers[i]?).getD 0=(s.timers[i]?).getD 0) && !zgf d 1 i
theorem ev70{h:H}{x nb pb ob db:Nat}{m:Mch}{s n:Ste}{ve vt:V}{l:List Prs}{d:Due}(hh:Hap h x nb pb ob db m s n ve vt l d){i:Nat}(h1:i<s.ends.length)(h2:i<n.ends.length) :
  ev pg (.call (.fn 70 [] [.bptr nb 0,.bptr pb 0,.bptr ob 0]) [num i] h)=some { v:=.bool (onE s n d i),st:=⟨[],h⟩ }:=by
 have hck:=qeb hh.cm
 have hx:=hh.hx
 have hn:=hh.hn
 have hp:=hh.hp
 have ho:=hh.ho
 have e68:=ev68 hh.hd hh.cm 0 i
 have hlt:=qar hh.hd
 have hg:onE s n d i=(decide (n.ends[i]=s.ends[i]) && !zgf d 0 i):=by simp[onE,h1,h2]
 rw[hg]
 clear hg
 generalize zgf d 0 i=B at *
 rw[qac,pg70]
 by_cases h3:n.ends[i]=s.ends[i]
 .cases B<;>simp[-qaq,qaa,exT,qae,ir70,hx,hn,hp,ho,e68,hck,h1,h2,h3,hlt]
 .have h3b:(n.ends[i]==s.ends[i])=false:=by simpa using h3
  simp[-qaq,qaa,exT,qae,ir70,hx,hn,hp,ho,e68,hck,h1,h2,h3,h3b,hlt]
theorem ev71{h:H}{x nb pb ob db:Nat}{m:Mch}{s n:Ste}{ve vt:V}{l:List Prs}{d:Due}(hh:Hap h x nb pb ob db m s n ve vt l d){i:Nat}(h1:i<s.timers.length)(h2:i<n.timers.length) :
  ev pg (.call (.fn 71 [] [.bptr nb 0,.bptr pb 0,.bptr ob 0]) [num i] h)=some { v:=.bool (onT s n d i),st:=⟨[],h⟩ }:=by
 have hck:=qeb hh.cm
 have hx:=hh.hx
 have hn:=hh.hn
 have hp:=hh.hp
 have ho:=hh.ho
 have e68:=ev68 hh.hd hh.cm 1 i
 have hlt:=qar hh.hd
 have hg:onT s n d i=(decide (n.timers[i]=s.timers[i]) && !zgf d 1 i):=by simp[onT,h1,h2]
 rw[hg]
 clear hg
 generalize zgf d 1 i=B at *
 rw[qac,pg71]
 by_cases h3:n.timers[i]=s.timers[i]
 .cases B<;>simp[-qaq,qaa,exT,qae,ir71,hx,hn,hp,ho,e68,hck,h1,h2,h3,hlt]
 .have h3b:(n.timers[i]==s.timers[i])=false:=by simpa using h3
  simp[-qaq,qaa,exT,qae,ir71,hx,hn,hp,ho,e68,hck,h1,h2,h3,h3b,hlt]
def qkz(l:List Int)(now:Int)(p:Nat->Bool)(k:Nat):List Int:=(List.range l.length).map fun i=>if i<k/\p i=false then now else(l[i]?).getD 0
theorem qoq(l:List Int)(now:Int)(p:Nat->Bool)(k:Nat):(qkz l now p k).length=l.length:=by simp[qkz]
theorem quk(l:List Int)(now:Int)(p:Nat->Bool):qkz l now p 0=l:=by
 apply List.ext_getElem
 .simp[qkz]
 .intro i h1 h2
  simp[qkz,h2]
theorem qzy{l:List Int}{now:Int}{p:Nat->Bool}{k:Nat}(hp:p k=true):qkz l now p (k+1)=qkz l now p k:=by
 unfold qkz
 apply List.map_congr_left
 intro i hi
 by_cases h:i=k
 .subst h;simp[hp]
 .have:i<k+1<->i<k:=by omega
  simp[this]
theorem q4s{l:List Int}{now:Int}{p:Nat->Bool}{k:Nat}(hp:p k=false):qkz l now p (k+1)=(qkz l now p k).set k now:=by
 apply List.ext_getElem
 .simp[qkz]
 .intro i h1 h2
  simp only[qkz,List.getElem_set,List.getElem_map,List.getElem_range]
  by_cases h:k=i
  .subst h;simp[hp]
  .have:i<k+1<->i<k:=by omega
   simp[this,h]
def zgh(f:Nat)(caps:List V)(n:Nat)(now:Int)(N k:Nat):Tm:=[none,some (num now),some (.fn f [] caps),none,none,none,none,some (.sl n 0 1 0 N)]++List.replicate 4 none++[some (num N),some (num k)]++List.replicate 12 none
theorem z9z{f:Nat}{caps:List V}{h:H}{l:List Int}{now:Int}{p:Nat->Bool}(hl:l.length<=4096)(hlow:qfm 0 caps=false)(hcap:qfm (h.length+2) caps=true)(hc:qck h)
  (hcl:∀(rows:List (List V)) (i:Nat),i<l.length->ev pg (.call (.fn f [] caps) [num i] (h++[⟨0,.arr 1 rows⟩,⟨0,.arr 0 []⟩]))=some { v:=.bool (p i),st:=⟨[],h++[⟨0,.arr 1 rows⟩,⟨0,.arr 0 []⟩]⟩ }) {st:St} (h0:At (zgh f caps h.length now l.length 0) (h++[⟨0,.arr 1 (l.map qdc)⟩,⟨0,.arr 0 []⟩]) st) :
  ∃r,ev pg (.code (.going (h.length+2) L69_0) st)=some r/\qag (.exit 0) (zgh f caps h.length now l.length l.length) (h++[⟨0,.arr 1 ((qkz l now p l.length).map qdc)⟩,⟨0,.arr 0 []⟩]) r:=by
 have hcut:∀(rows:List (List V)),qav (h.length+2) (h++[⟨0,.arr 1 rows⟩,⟨0,.arr 0 []⟩])=h++[⟨0,.arr 1 rows⟩,⟨0,.arr 0 []⟩]:=fun rows=>by
  have:=qej (h:=h++[⟨0,.arr 1 rows⟩,⟨0,.arr 0 []⟩]) (qcl hc (by simp[qbg]))
  rwa [show(h++[⟨0,.arr 1 rows⟩,⟨0,.arr 0 []⟩]:H).length=h.length+2 by simp]at this
 refine qcd l.length (zgh f caps h.length now l.length) (fun k=>h++[⟨0,.arr 1 ((qkz l now p k).map qdc)⟩,⟨0,.arr 0 []⟩]) _ ?_ ?_ (by rw[quk];exact h0)
 .intro k g hg hk
  have hk':(k:Int)<l.length:=by omega
  have wk:=qab (n:=(k:Int)+1) (by omega) (by omega)
  have e:=hcl ((qkz l now p k).map qdc) k hk
  have hln:=qoq l now p k
  cases hp:p k with
  | true =>
   rw[hp]at e
   have hs:=qzy (l:=l) (now:=now) hp
   generalize qkz l now p (k+1)=M' at *
   generalize qkz l now p k=M at *
   subst hs
   simp[-qav,zgh,L69_0,hk,hk',wk,e,hlow,hcap,hg.ne]
   exact hcut _
  | false =>
   rw[hp]at e
   have hs:=q4s (l:=l) (now:=now) hp
   generalize qkz l now p (k+1)=M' at *
   generalize qkz l now p k=M at *
   subst hs
   simp[-qav,zgh,L69_0,hk,hk',wk,e,hlow,hcap,hln,qap,qal,hg.ne]
   exact hcut _
 .intro g hg
  simp[-qav,zgh,L69_0,hg.ne]
def qbc(l:List Int)(now:Int)(p:Nat->Bool):List Int:=qkz l now p l.length
theorem ev69{f:Nat}{caps:List V}{h:H}{l:List Int}{ve:V}(now:Int){p:Nat->Bool}(hve:Sl h l ve)(hl:l.length<=4096)(hlow:qfm 0 caps=false)(hcap:qfm h.length caps=true)(hc:qck h)
  (hcl:∀(rows:List (List V)) (i:Nat),i<l.length->ev pg (.call (.fn f [] caps) [num i] (h++[⟨0,.arr 1 rows⟩,⟨0,.arr 0 []⟩]))=some { v:=.bool (p i),st:=⟨[],h++[⟨0,.arr 1 rows⟩,⟨0,.arr 0 []⟩]⟩ }) :
  ev pg (.call (.fn 69 [] []) [ve,num now,.fn f [] caps] h)=some { v:=qbx (qbc l now p),st:=⟨[],h⟩ }:=by
 have hck:=qdd hc
 have hcap1:qfm (h.length+2) caps=true:=qdi (Nat.le_add_right _ 2) _ hcap
 have e92:=ev92 l hl
 have hlp:=@z9z f caps h l now p hl hlow hcap1 hc hcl
 have hln:=qoq l now p l.length
 unfold qbc
 generalize qkz l now p l.length=M at *
 rw[qac,pg69]
 rcases hve with _ | ⟨i,g,hi⟩
 .simp[-qaq,ir69,hck,e92,qaf]
  generalize hr:ev pg (.code (.going _ L69_0) _)=o
  obtain⟨r,rfl,q,hq,rfl⟩:∃r,o=some r/\_:=by rw[<-hr];exact hlp (by simp[zgh])
  clear hr
  simp[-qaq,zgh,hck,qap,qal,hln]
 .have hir:=fun r=>qbj (r:=r) hi
  have hlt:=qar hi
  simp[-qaq,ir69,hck,e92,hi,hir,qaf]
  generalize hr:ev pg (.code (.going _ L69_0) _)=o
  obtain⟨r,rfl,q,hq,rfl⟩:∃r,o=some r/\_:=by rw[<-hr];exact hlp (by simp[zgh])
  clear hr
  simp[-qaq,zgh,hck,qap,qal,hln]
end Go.Proofs.YtlhciedghbmjjaaGreat
