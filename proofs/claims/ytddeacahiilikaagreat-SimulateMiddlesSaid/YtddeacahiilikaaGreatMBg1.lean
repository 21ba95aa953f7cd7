/- What is next in a course, by the program. What is next in a course, by the program. Since when something goes on, by the program. The examples of the law of plant. The law PlantRuns, in Am: it returns true. Strokes begun, with the check of the ends: by the program and by the reference. -/
import Derived.Test.YtddeacahiilikaaGreatMSi3
import Derived.KernelRfl
import Derived.Test.YtddeacahiilikaaGreatMCl1
import Derived.Test.YtddeacahiilikaaGreatMPc1
import Derived.Test.YtddeacahiilikaaGreatMSv1
set_option linter.all false
namespace Go.Proofs.YtddeacahiilikaaGreat
open Go Go.Am Go.Proofs
set_option maxRecDepth 100000
def qxz(d:Due)(r:List Due):Due:=r.foldl (fun m x=>if x.t<m.t then x else m) d
def Due.ok(d:Due):Prop:=-100000000<=d.t/\d.t<=100000000
theorem zch:∀{r:List Due} {d:Due},d.ok->(∀x∈r,x.ok)->(qxz d r).ok
 | [],d,h,_=>h
 | x :: r,d,h,hr=>by
  unfold qxz
  rw[List.foldl_cons]
  refine zch (r:=r) ?_ fun y hy=>hr y (by simp[hy])
  split
  .exact hr x (by simp)
  .exact h
theorem zci{d:Due}{r:List Due}{k:Nat}(hk:k<r.length):qxz d (r.take (k+1))=if r[k].t<(qxz d (r.take k)).t then r[k]else qxz d (r.take k):=by
 unfold qxz
 rw[jK hk,List.foldl_append]
 rfl
theorem ev151{a b:Due}(ha:a.ok)(hb:b.ok):ev pg (.call (.fn 151 [] []) [a.v,b.v] [])=some { v:=num (a.t-b.t),st:=⟨[],[]⟩ }:=by
 obtain⟨a1,a2⟩:=ha
 obtain⟨b1,b2⟩:=hb
 have w:=qab (n:=a.t-b.t) (by omega) (by omega)
 rw[qac,pg151]
 simp[ir151,w]
abbrev zD:List V:=[num 0,num 0,num 0,.bool false]
def zjy(d:Due)(r:List Due)(k:Nat):Tm:=[some (zum (d :: r)),some (.fn 151 [] []),none,none,some (.bptr 0 0),some (.bptr 1 0),some (num ((k:Int)+1))]++List.replicate 26 none
abbrev z7t(x:Due):H:=[⟨0,.box zD⟩,⟨0,.box x.row⟩]
theorem z8g{d:Due}{r:List Due}(hd:d.ok)(hr:∀x∈r,x.ok)(hl:r.length<=100000){st:St}(h0:At (zjy d r 0) (z7t d) st):∃q,ev pg (.code (.going 2 L150_0) st)=some q/\qai (.exit 0) (zjy d r r.length) (z7t (qxz d r)) q:=by
 refine qfd r.length (zjy d r) (fun k=>z7t (qxz d (r.take k))) _ ?_ ?_ h0
 .intro k f hf hk
  have hk':(k:Int)<r.length:=by omega
  have wk:=qab (n:=(k:Int)+1+1) (by omega) (by omega)
  have hs:=zci (d:=d) hk
  have hm:(qxz d (r.take k)).ok:=zch hd fun x hx=>hr x (List.mem_of_mem_take hx)
  have hx:=hr _ (jH hk)
  have h65:=ev151 hx hm
  generalize qxz d (r.take k)=M at *
  generalize qxz d (r.take (k+1))=M' at *
  subst hs
  have hk00:(0:Int)<=(k:Int)+1:=by omega
  by_cases h1:r[k].t<M.t
  .have h2:r[k].t-M.t<0:=by omega
   simp[qaa,exT,qad,zjy,L150_0,hk,hk',hk00,h65,h1,h2,wk,hf.ne]
  .have h2:¬r[k].t-M.t<0:=by omega
   simp[qaa,exT,qad,zjy,L150_0,hk,hk',hk00,h65,h1,h2,wk,hf.ne]
 .intro f hf
  rw[List.take_length]
  simp[zjy,L150_0,hf.ne]
theorem ev150{d:Due}{r:List Due}(hd:d.ok)(hr:∀x∈r,x.ok)(hl:r.length<=100000):ev pg (.call (.fn 150 [] []) [zum (d :: r),.fn 151 [] []] [])=some { v:=(qxz d r).v,st:=⟨[],[]⟩ }:=by
 have hlp:=@z8g d r hd hr hl
 generalize qxz d r=M at *
 have h1:¬((r.length:Int)+1<1):=by omega
 rw[qac,pg150]
 simp[ir150,h1,qaf]
 generalize hq:ev pg (.code (.going _ L150_0) _)=o
 obtain⟨q,rfl,f,hf,rfl⟩:∃q,o=some q/\_:=by rw[<-hq];exact hlp (by simp[zjy])
 clear hq
 simp[zjy]
def qyk(m:Mch)(s:Ste)(e t:List Int)(l:List Prs):List Due:=qhd l++(upD (qri m s e) s.ends.length++upD (qts m s t) s.timers.length)
def qxb:List Due->Option Due
 | []=>none
 | d :: r=>some (qxz d r)
def q8j:Due:=⟨0,⟨0,0,false⟩⟩
theorem qon(l:List Due):qhp 4 (l.map Due.row)=true:=by simp[qhp]
theorem qrj(l:List Due):qcc (l.map Due.row)=true:=by simp[qcc]
def ztk(m:Mch)(s:Ste)(e t:List Int)(l:List Prs):Nat->List Due
 | 0=>[]
 | 1=>qhd l
 | 2=>qhd l++upD (qri m s e) s.ends.length
 | _=>qyk m s e t l
abbrev ifc(t x:Nat):V:=.fn t [.agg [.bptr x 0]] []
def zem(x n:Nat)(D:List Due)(g w k:Nat):Tm:=[some (.bptr x 0),none,some (.bptr n 0),some (.bool false),some (.sl (n+1) g w 0 D.length)]++List.replicate 11 none++[some (.agg [ifc 1000247 x,ifc 1000248 x,ifc 1000249 x]),some (num k)]++List.replicate 13 none
abbrev z7s(h:H)(D:List Due)(g w:Nat):H:=h++[⟨0,.box zD⟩,⟨g,.arr w (D.map Due.row)⟩]
theorem z8d{h:H}{x:Nat}{m:Mch}{s:Ste}{e t:List Int}{ve vt:V}{l:List Prs}(hx:h[x]?=some ⟨0,.box (qkb m s ve vt l)⟩)(hc:qcj h)(hve:Sl h e ve)(hvt:Sl h t vt)(hT:Tim m s e t){st:St}(h0:At (zem x h.length [] 0 0 0) (z7s h [] 0 0) st) :
  ∃r,ev pg (.code (.going (h.length+2) L77_0) st)=some r/\qai (.exit 0) (zem x h.length (qyk m s e t l) 3 4 3) (z7s h (qyk m s e t l) 3 4) r:=by
 have hlt:=qcd hx
 have hne:=Nat.ne_of_lt hlt
 have hcl:∀(rows:List (List V)) (g w:Nat),qcj (h++[⟨0,.box zD⟩,⟨g,.arr w rows⟩]):=fun rows g w=>qdm hc (by simp[qbm])
 have hcut:∀(rows:List (List V)) (g w:Nat),qay (h.length+2) (h++[⟨0,.box zD⟩,⟨g,.arr w rows⟩])=h++[⟨0,.box zD⟩,⟨g,.arr w rows⟩]:=fun rows g w=>by
  have:=qga (hcl rows g w)
  rwa [show(h++[⟨0,.box zD⟩,⟨g,.arr w rows⟩]:H).length=h.length+2 by simp]at this
 have slm:∀{a:List Int} {v:V} (r:H),Sl h a v->Sl (h++r) a v:=fun r hv=>by
  rcases hv with _ | ⟨i,g,hi⟩
  .exact .imm
  .exact .own i g (qcz hi)
 have e1:∀(rows:List (List V)) (g w:Nat),_:=fun rows g w=>ev335 (h:=h++[⟨0,.box zD⟩,⟨g,.arr w rows⟩]) (x:=x) (qcz hx) (hcl rows g w)
 have e2:∀(rows:List (List V)) (g w:Nat),_:=fun rows g w=>ev336 (h:=h++[⟨0,.box zD⟩,⟨g,.arr w rows⟩]) (x:=x) (qcz hx) (hcl rows g w) (slm _ hve) hT
 have e3:∀(rows:List (List V)) (g w:Nat),_:=fun rows g w=>ev337 (h:=h++[⟨0,.box zD⟩,⟨g,.arr w rows⟩]) (x:=x) (qcz hx) (hcl rows g w) (slm _ hvt) hT
 have n1:(qhd l).length<=1:=by cases l<;>simp[qhd]
 have n2:=qph (qri m s e) s.ends.length
 have n3:=qph (qts m s t) s.timers.length
 have n4:=hT.ne
 have n5:=hT.nt
 have hall:qyk m s e t l=qhd l++(upD (qri m s e) s.ends.length++upD (qts m s t) s.timers.length):=rfl
 have s1:ztk m s e t l 1=qhd l:=rfl
 have s2:ztk m s e t l 2=qhd l++upD (qri m s e) s.ends.length:=rfl
 have s3:ztk m s e t l 3=qyk m s e t l:=rfl
 have s0:ztk m s e t l 0=[]:=rfl
 generalize qyk m s e t l=Z at *
 generalize qhd l=A at *
 generalize upD (qri m s e) s.ends.length=B at *
 generalize upD (qts m s t) s.timers.length=C at *
 subst hall
 have z1:=qon A
 have z2:=qon B
 have z3:=qon C
 have p1:=qrj A
 have p2:=qrj B
 have p3:=qrj C
 have a1:A.length*32<=140737488355328:=by omega
 have a2:(A.length+B.length)*32<=140737488355328:=by omega
 have a3:(A.length+B.length+C.length)*32<=140737488355328:=by omega
 refine qfd 3 (fun k=>zem x h.length (ztk m s e t l k) k (if k=0 then 0 else 4) k) (fun k=>z7s h (ztk m s e t l k) k (if k=0 then 0 else 4)) _ ?_ ?_ (by rw[s0];exact h0)
 .intro k f hf hk
  have hk3:k=0\/k=1\/k=2:=by omega
  have hx2:x<h.length+2:=by omega
  have w1:IntKind.i64.wrap 1=1:=by decide
  have w2:IntKind.i64.wrap 2=2:=by decide
  have w3:IntKind.i64.wrap 3=3:=by decide
  rcases hk3 with rfl | rfl | rfl
  .simp[-qay,-qhp,-qcc,zem,L77_0,s0,s1,e1,z1,p1,a1,hx2,w1,qbe,qbd,hf.ne]
   exact hcut _ _ _
  .simp[-qay,-qhp,-qcc,zem,L77_0,s1,s2,e2,z2,p2,a2,hx2,w2,qbe,qbd,hf.ne]
   rw[hcut]
   simp
  .simp[-qay,-qhp,-qcc,zem,L77_0,s2,s3,e3,z3,p3,a3,hx2,w3,qbe,qbd,hf.ne]
   refine⟨by omega,?_⟩
   rw[hcut]
   simp
 .intro f hf
  simp[-qay,zem,L77_0,s3,hf.ne]
theorem qik{h r:H}{k:Nat}{o:Ob}:(h++r).set (h.length+k) o=h++r.set k o:=by rw[List.set_append_right _ _ (by omega),Nat.add_sub_cancel_left]
theorem qil{h r:H}{o:Ob}:(h++r).set h.length o=h++r.set 0 o:=qik (k:=0)
theorem ev77{h:H}{x:Nat}{m:Mch}{s:Ste}{e t:List Int}{ve vt:V}{l:List Prs}(hx:h[x]?=some ⟨0,.box (qkb m s ve vt l)⟩)(hc:qcj h)(hve:Sl h e ve)(hvt:Sl h t vt)(hT:Tim m s e t)(hok:∀d∈qyk m s e t l,d.ok) :
  ev pg (.call (.fn 77 [.bptr x 0] []) [] h)=some { v:=.tup [((qxb (qyk m s e t l)).getD q8j).v,.bool (qxb (qyk m s e t l)).isSome],st:=⟨[],h⟩ }:=by
 have hck:=qdg hc
 have hlp:=@z8d h x m s e t ve vt l hx hc hve hvt hT
 have n1:(qhd l).length<=1:=by cases l<;>simp[qhd]
 have n2:=qph (qri m s e) s.ends.length
 have n3:=qph (qts m s t) s.timers.length
 have n4:=hT.ne
 have n5:=hT.nt
 have hlen:(qyk m s e t l).length<=10000:=by simp[qyk];omega
 generalize qyk m s e t l=Z at *
 rw[qac,pg77]
 simp[-qan,ir77,hck,qaf]
 generalize hr:ev pg (.code (.going _ L77_0) _)=o
 obtain⟨r,rfl,f,hf,rfl⟩:∃r,o=some r/\_:=by rw[<-hr];exact hlp (by simp[zem])
 clear hr
 cases Z with
 | nil=>simp[-qan,zem,qxb,hck,qbe,qbd,qik,qil,q8j]
 | cons d Z =>
  have e64:ev pg (.call (.fn 150 [] []) [.imm (d.row :: Z.map Due.row),.fn 151 [] []] [])=_:=ev150 (d:=d) (r:=Z) (hok d (by simp)) (fun x hx=>hok x (by simp[hx])) (by simp at hlen;omega)
  have h1:¬((Z.length:Int)+1=0):=by omega
  simp[-qan,zem,qxb,hck,e64,h1,qbe,qbd,qik,qil]
def zjo(d:Due)(kd i:Int):Bool:=decide (d.e.kind=kd)&&decide (d.e.idx=i)
theorem ev152{h:H}{b:Nat}{d:Due}(hb:h[b]?=some ⟨0,.box d.row⟩)(hc:qcj h)(kd i:Int):ev pg (.call (.fn 152 [] [.bptr b 0]) [num kd,num i] h)=some { v:=.bool (zjo d kd i),st:=⟨[],h⟩ }:=by
 have hck:=qdh hc
 rw[qac,pg152]
 unfold zjo
 by_cases h1:d.e.kind=kd
 .by_cases h2:d.e.idx=i
  .simp[-qan,ir152,hb,hck,h1,h2]
  .have h2b:(d.e.idx==i)=false:=by simpa using h2
   simp[-qan,ir152,hb,hck,h1,h2,h2b]
 .have h1b:(d.e.kind==kd)=false:=by simpa using h1
  simp[-qan,ir152,hb,hck,h1,h1b]
structure Hap(h:H)(x nb pb ob db:Nat)(m:Mch)(s n:Ste)(ve vt:V)(l:List Prs)(d:Due):Prop where
 cm:qcj h
 hx:h[x]?=some ⟨0,.box (qkb m s ve vt l)⟩
 hn:h[nb]?=some ⟨0,.box n.cells⟩
 hp:h[pb]?=some ⟨0,.box [.bptr x 0]⟩
 ho:h[ob]?=some ⟨0,.box [.fn 152 [] [.bptr db 0]]⟩
 hd:h[db]?=some ⟨0,.box d.row⟩
def onE(s n:Ste)(d:Due)(i:Nat):Bool:=decide ((n.ends[i]?).getD 0=(s.ends[i]?).getD 0) && !zjo d 0 i
def onT(s n:Ste)(d:Due)(i:Nat):Bool:=decide ((n.timers[i]?).getD 0=(s.timers[i]?).getD 0) && !zjo d 1 i
theorem ev154{h:H}{x nb pb ob db:Nat}{m:Mch}{s n:Ste}{ve vt:V}{l:List Prs}{d:Due}(hh:Hap h x nb pb ob db m s n ve vt l d){i:Nat}(h1:i<s.ends.length)(h2:i<n.ends.length) :
  ev pg (.call (.fn 154 [] [.bptr nb 0,.bptr pb 0,.bptr ob 0]) [num i] h)=some { v:=.bool (onE s n d i),st:=⟨[],h⟩ }:=by
 have hck:=qdh hh.cm
 have hx:=hh.hx
 have hn:=hh.hn
 have hp:=hh.hp
 have ho:=hh.ho
 have e68:=ev152 hh.hd hh.cm 0 i
 have hlt:=qcd hh.hd
 have hg:onE s n d i=(decide (n.ends[i]=s.ends[i]) && !zjo d 0 i):=by simp[onE,h1,h2]
 rw[hg]
 clear hg
 generalize zjo d 0 i=B at *
 rw[qac,pg154]
 by_cases h3:n.ends[i]=s.ends[i]
 .cases B<;>simp[-qan,qaa,exT,qad,ir154,hx,hn,hp,ho,e68,hck,h1,h2,h3,hlt]
 .have h3b:(n.ends[i]==s.ends[i])=false:=by simpa using h3
  simp[-qan,qaa,exT,qad,ir154,hx,hn,hp,ho,e68,hck,h1,h2,h3,h3b,hlt]
theorem ev155{h:H}{x nb pb ob db:Nat}{m:Mch}{s n:Ste}{ve vt:V}{l:List Prs}{d:Due}(hh:Hap h x nb pb ob db m s n ve vt l d){i:Nat}(h1:i<s.timers.length)(h2:i<n.timers.length) :
  ev pg (.call (.fn 155 [] [.bptr nb 0,.bptr pb 0,.bptr ob 0]) [num i] h)=some { v:=.bool (onT s n d i),st:=⟨[],h⟩ }:=by
 have hck:=qdh hh.cm
 have hx:=hh.hx
 have hn:=hh.hn
 have hp:=hh.hp
 have ho:=hh.ho
 have e68:=ev152 hh.hd hh.cm 1 i
 have hlt:=qcd hh.hd
 have hg:onT s n d i=(decide (n.timers[i]=s.timers[i]) && !zjo d 1 i):=by simp[onT,h1,h2]
 rw[hg]
 clear hg
 generalize zjo d 1 i=B at *
 rw[qac,pg155]
 by_cases h3:n.timers[i]=s.timers[i]
 .cases B<;>simp[-qan,qaa,exT,qad,ir155,hx,hn,hp,ho,e68,hck,h1,h2,h3,hlt]
 .have h3b:(n.timers[i]==s.timers[i])=false:=by simpa using h3
  simp[-qan,qaa,exT,qad,ir155,hx,hn,hp,ho,e68,hck,h1,h2,h3,h3b,hlt]
def qtq(l:List Int)(now:Int)(p:Nat->Bool)(k:Nat):List Int:=(List.range l.length).map fun i=>if i<k/\p i=false then now else(l[i]?).getD 0
theorem qxp(l:List Int)(now:Int)(p:Nat->Bool)(k:Nat):(qtq l now p k).length=l.length:=by simp[qtq]
theorem zdi(l:List Int)(now:Int)(p:Nat->Bool):qtq l now p 0=l:=by
 apply List.ext_getElem
 .simp[qtq]
 .intro i h1 h2
  simp[qtq,h2]
theorem zhz{l:List Int}{now:Int}{p:Nat->Bool}{k:Nat}(hp:p k=true):qtq l now p (k+1)=qtq l now p k:=by
 unfold qtq
 apply List.map_congr_left
 intro i hi
 by_cases h:i=k
 .subst h;simp[hp]
 .have:i<k+1<->i<k:=by omega
  simp[this]
theorem zsr{l:List Int}{now:Int}{p:Nat->Bool}{k:Nat}(hp:p k=false):qtq l now p (k+1)=(qtq l now p k).set k now:=by
 apply List.ext_getElem
 .simp[qtq]
 .intro i h1 h2
  simp only[qtq,List.getElem_set,List.getElem_map,List.getElem_range]
  by_cases h:k=i
  .subst h;simp[hp]
  .have:i<k+1<->i<k:=by omega
   simp[this,h]
def zen(f:Nat)(caps:List V)(n:Nat)(now:Int)(N k:Nat):Tm:=[none,some (num now),some (.fn f [] caps),none,none,none,none,some (.sl n 0 1 0 N)]++List.replicate 4 none++[some (num N),some (num k)]++List.replicate 12 none
theorem z8h{f:Nat}{caps:List V}{h:H}{l:List Int}{now:Int}{p:Nat->Bool}(hl:l.length<=4096)(hlow:qew 0 caps=false)(hcap:qew (h.length+2) caps=true)(hc:qcj h)
  (hcl:∀(rows:List (List V)) (i:Nat),i<l.length->ev pg (.call (.fn f [] caps) [num i] (h++[⟨0,.arr 1 rows⟩,⟨0,.arr 0 []⟩]))=some { v:=.bool (p i),st:=⟨[],h++[⟨0,.arr 1 rows⟩,⟨0,.arr 0 []⟩]⟩ }) {st:St} (h0:At (zen f caps h.length now l.length 0) (h++[⟨0,.arr 1 (l.map qej)⟩,⟨0,.arr 0 []⟩]) st) :
  ∃r,ev pg (.code (.going (h.length+2) L153_0) st)=some r/\qai (.exit 0) (zen f caps h.length now l.length l.length) (h++[⟨0,.arr 1 ((qtq l now p l.length).map qej)⟩,⟨0,.arr 0 []⟩]) r:=by
 have hcut:∀(rows:List (List V)),qay (h.length+2) (h++[⟨0,.arr 1 rows⟩,⟨0,.arr 0 []⟩])=h++[⟨0,.arr 1 rows⟩,⟨0,.arr 0 []⟩]:=fun rows=>by
  have:=qga (h:=h++[⟨0,.arr 1 rows⟩,⟨0,.arr 0 []⟩]) (qdm hc (by simp[qbm]))
  rwa [show(h++[⟨0,.arr 1 rows⟩,⟨0,.arr 0 []⟩]:H).length=h.length+2 by simp]at this
 refine qfd l.length (zen f caps h.length now l.length) (fun k=>h++[⟨0,.arr 1 ((qtq l now p k).map qej)⟩,⟨0,.arr 0 []⟩]) _ ?_ ?_ (by rw[zdi];exact h0)
 .intro k g hg hk
  have hk':(k:Int)<l.length:=by omega
  have wk:=qab (n:=(k:Int)+1) (by omega) (by omega)
  have e:=hcl ((qtq l now p k).map qej) k hk
  have hln:=qxp l now p k
  cases hp:p k with
  | true =>
   rw[hp]at e
   have hs:=zhz (l:=l) (now:=now) hp
   generalize qtq l now p (k+1)=M' at *
   generalize qtq l now p k=M at *
   subst hs
   simp[-qay,zen,L153_0,hk,hk',wk,e,hlow,hcap,hg.ne]
   exact hcut _
  | false =>
   rw[hp]at e
   have hs:=zsr (l:=l) (now:=now) hp
   generalize qtq l now p (k+1)=M' at *
   generalize qtq l now p k=M at *
   subst hs
   simp[-qay,zen,L153_0,hk,hk',wk,e,hlow,hcap,hln,qbe,qbd,hg.ne]
   exact hcut _
 .intro g hg
  simp[-qay,zen,L153_0,hg.ne]
def qhj(l:List Int)(now:Int)(p:Nat->Bool):List Int:=qtq l now p l.length
theorem ev153{f:Nat}{caps:List V}{h:H}{l:List Int}{ve:V}(now:Int){p:Nat->Bool}(hve:Sl h l ve)(hl:l.length<=4096)(hlow:qew 0 caps=false)(hcap:qew h.length caps=true)(hc:qcj h)
  (hcl:∀(rows:List (List V)) (i:Nat),i<l.length->ev pg (.call (.fn f [] caps) [num i] (h++[⟨0,.arr 1 rows⟩,⟨0,.arr 0 []⟩]))=some { v:=.bool (p i),st:=⟨[],h++[⟨0,.arr 1 rows⟩,⟨0,.arr 0 []⟩]⟩ }) :
  ev pg (.call (.fn 153 [] []) [ve,num now,.fn f [] caps] h)=some { v:=qck (qhj l now p),st:=⟨[],h⟩ }:=by
 have hck:=qdg hc
 have hcap1:qew (h.length+2) caps=true:=qct (Nat.le_add_right _ 2) _ hcap
 have e92:=ev106 l hl
 have hlp:=@z8h f caps h l now p hl hlow hcap1 hc hcl
 have hln:=qxp l now p l.length
 unfold qhj
 generalize qtq l now p l.length=M at *
 rw[qac,pg153]
 rcases hve with _ | ⟨i,g,hi⟩
 .simp[-qan,ir153,hck,e92,qaf]
  generalize hr:ev pg (.code (.going _ L153_0) _)=o
  obtain⟨r,rfl,q,hq,rfl⟩:∃r,o=some r/\_:=by rw[<-hr];exact hlp (by simp[zen])
  clear hr
  simp[-qan,zen,hck,qbe,qbd,hln]
 .have hir:=fun r=>qcz (r:=r) hi
  have hlt:=qcd hi
  simp[-qan,ir153,hck,e92,hi,hir,qaf]
  generalize hr:ev pg (.code (.going _ L153_0) _)=o
  obtain⟨r,rfl,q,hq,rfl⟩:∃r,o=some r/\_:=by rw[<-hr];exact hlp (by simp[zen])
  clear hr
  simp[-qan,zen,hck,qbe,qbd,hln]
end Go.Proofs.YtddeacahiilikaaGreat
namespace Go.Proofs.YtddeacahiilikaaGreat
open Go Go.Am Go.Proofs
set_option maxRecDepth 1000000
def one:Ct:=⟨1,[[115,116,97,114,116]],[⟨[109],1,.mk 3 0 [.mk 1 2 [],.mk 1 0 []],.mk 1 1 [],0,false⟩,⟨[103],0,.mk 2 0 [.mk 1 3 []],.mk 0 0 [],0,false⟩],[3],[4]⟩
theorem zrz:evN pg 200 (.call (.fn 49 [] []) [] [])=some { v:=one.v,st:=⟨[],[]⟩ }:=by kernel_rfl
theorem ev49:ev pg (.call (.fn 49 [] []) [] [])=some { v:=one.v,st:=⟨[],[]⟩ }:=zlg zrz
theorem zry:one.small=true:=by kernel_rfl
@[simp] theorem zui(l:List (List (Int×Bool))):qto (l.map z7k) (l.map z7k)=true:=qfu (fun x=>by simp[qfu (row:=zst)]) l
def begE(a b:Ste):Int:=if a.ends.length≠b.ends.length\/6<a.ends.length then 8 else if(a.ends++b.ends).any (qes 4)=true then 1 else 0
def zkm(a b:Ste):List (Int×Bool):=if begE a b=0 then qgb a b else []
def T38(n k:Nat):Tm:=[none,none,some (.bptr 0 0),some (.bptr 1 0),none,some (num 0)]++List.replicate 20 none++[some (.sl 2 0 1 0 n),some (num n),some (num k)]++List.replicate 13 none
def zyo:Tm:=[none,none,none,none,some .nils,some (num 1)]++List.replicate 36 none
abbrev h38(a b:Ste)(l:List Int):H:=[⟨0,.box a.cells⟩,⟨0,.box b.cells⟩,⟨0,.arr 1 (l.map qej)⟩,o0]
theorem z9k(a b:Ste)(l:List Int)(hl:l.length<=100000){st:St}(h0:At (T38 l.length 0) (h38 a b l) st):∃r,ev pg (.code (.going 4 L48_0) st)=some r/\qju l.length (fun k=>qes 4 ((l[k]?).getD 0)) (fun _=>qai .ret zyo (h38 a b l)) (qai (.exit 0) (T38 l.length l.length) (h38 a b l)) r:=by
 refine qcx _ _ (T38 l.length) (h38 a b l) _ _ ?_ ?_ ?_ h0
 .intro k f hf hk hp
  have hk':(k:Int)<l.length:=by omega
  have wk:=qab (n:=(k:Int)+1) (by omega) (by omega)
  have hp':¬l[k]<0/\¬4<=l[k]:=by simpa[qes,hk]using hp
  simp[T38,L48_0,hk,hk',wk,hp',hf.ne]
 .intro k f hf hk hp
  have hk':(k:Int)<l.length:=by omega
  have hp':l[k]<0\/4<=l[k]:=by simpa[qes,hk]using hp
  by_cases h1:l[k]<0
  .simp[T38,zyo,L48_0,hk,hk',h1,hf.ne]
  .have h2:4<=l[k]:=by omega
   simp[T38,zyo,L48_0,hk,hk',h1,h2,hf.ne]
 .intro f hf
  simp[T38,L48_0,hf.ne]
theorem zba{l:List Int}{X:Nat->R->Prop}{Y:R->Prop}{r:R}(h:qju l.length (fun k=>qes 4 ((l[k]?).getD 0)) X Y r):(l.any (qes 4)=true/\∃k,X k r)\/(l.any (qes 4)=false/\Y r):=by
 rcases h with⟨k,hk,hp,-,hX⟩ | ⟨hp,hY⟩
 .refine .inl ⟨List.any_eq_true.2 ⟨l[k],jH hk,by simpa[hk]using hp⟩,k,hX⟩
 .refine .inr ⟨?_,hY⟩
  rw[List.any_eq_false]
  intro x hx
  obtain⟨k,hk,rfl⟩:=List.getElem_of_mem hx
  have:=hp k hk
  simpa[hk]using this
theorem q9g{a b:Ste}(h:a.ends.length≠b.ends.length\/6<a.ends.length):begE a b=8:=by unfold begE;rw[if_pos h]
theorem q9f{a b:Ste}(h1:a.ends.length=b.ends.length)(h2:¬6<a.ends.length):begE a b=if(a.ends++b.ends).any (qes 4)=true then 1 else 0:=by unfold begE;rw[if_neg (by omega)]
theorem ev48(a b:Ste)(ha:a.small)(hb:b.small):ev pg (.call (.fn 48 [] []) [a.v,b.v] [])=some { v:=.tup [q5r (zkm a b),num (begE a b)],st:=⟨[],[]⟩ }:=by
 unfold zkm
 rw[qac,pg48]
 by_cases h1:a.ends.length=b.ends.length
 .have h1':(a.ends.length:Int)=b.ends.length:=by omega
  by_cases h2:6<a.ends.length
  .rw[q9g (.inr h2)]
   have h2b:(6:Int)<b.ends.length:=by omega
   simp[ir48,h1',h2b]
  .rw[q9f h1 h2]
   have h2b:¬(6:Int)<b.ends.length:=by omega
   have e62:=ev121 a b ha h1.symm
   have e32:=ev120c [a.ends,b.ends] (by simp) (by simp) (by simp;have:=ha.e;have:=hb.e;omega)
   have hl:=@z9k a b (a.ends++b.ends) (by simp;have:=ha.e;have:=hb.e;omega)
   simp only[zbv,List.map_cons,List.map_nil,List.flatten_cons,List.flatten_nil,List.append_nil]at e32
   generalize a.ends++b.ends=l at *
   generalize qgb a b=F at *
   generalize hB:l.any (qes 4)=B
   simp[ir48,h1',h2b,e32,qaf,qcf,qdw,qkf,qdt]
   generalize hr:ev pg (.code (.going _ L48_0) _)=o
   obtain⟨r,rfl,hQ⟩:∃r,o=some r/\_:=by rw[<-hr];exact hl (by simp[T38])
   clear hr
   have hfa:=zba hQ
   rw[hB]at hfa
   clear hQ
   rcases hfa with⟨rfl,k,f,hf,rfl⟩ | ⟨rfl,f,hf,rfl⟩
   .simp[zyo,qcf,qdw,qkf,qdt]
   .simp[T38,e62,qcf,qdw,qkf,qdt]
 .rw[q9g (.inl h1)]
  have h1':¬(a.ends.length:Int)=b.ends.length:=by omega
  have hne:((a.ends.length:Int) != (b.ends.length:Int))=true:=by rw[bne_iff_ne];exact h1'
  simp[ir48,h1',hne]
end Go.Proofs.YtddeacahiilikaaGreat
