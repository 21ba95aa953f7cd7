/- The reference: whether what is behind a pair is among some. -/
import Derived.Test.YtbepbclaoohngaaGreatVSa1
import Derived.Test.YtbepbclaoohngaaGreatVDt7
import Derived.KernelRfl
set_option linter.all false
namespace Go.Am
def qdm{α β γ:Type}(step:α->β->α×Option γ):α->List β->α×Option γ
 | a,[]=>(a,none)
 | a,x :: l=>match step a x with
  | (a',none)=>qdm step a' l
  | (a',some z)=>(a',some z)
theorem qkj{P:Prg}{nx:Nat}{c:C}{α β γ:Type}(step:α->β->α×Option γ)(I:Nat->α->St->Prop)(Z:γ->R->Prop)(Lq:α->R->Prop)(E:List β)
  (go:∀j a st x,E[j]?=some x->I j a st->∃r,ev P (.code c st)=some r/\((step a x).2=none->r.x=.normal/\I (j+1) (step a x).1 (qtc nx r.st))/\(∀z,(step a x).2=some z->r.x ≠ .normal/\Z z r))
  (last:∀a st,I E.length a st->∃r,ev P (.code c st)=some r/\r.x ≠ .normal/\Lq a r) {st:St} (a:α) (h0:I 0 a st) :
  ∃r,ev P (.code (.going nx c) st)=some r/\((qdm step a E).2=none->Lq (qdm step a E).1 r)/\(∀z,(qdm step a E).2=some z->Z z r):=by
 refine qau (fun j st=>∃a',I j a' st/\qdm step a E=qdm step a' (E.drop j)) E.length _ ⟨a,h0,by simp⟩ ?_ ?_
 .rintro j st hj ⟨a',hI,hf⟩
  obtain⟨r,e,h1,h2⟩:=go j a' st E[j] (jA hj) hI
  rw[jL hj]at hf
  simp only[qdm]at hf
  refine⟨r,e,?_⟩
  generalize step a' E[j]=y at *
  obtain⟨b,z⟩:=y
  cases z with
  | none =>
   obtain⟨hx,hI'⟩:=h1 rfl
   exact .inl ⟨hx,b,hI',hf⟩
  | some z =>
   obtain⟨hx,hZ⟩:=h2 z rfl
   rw[hf]
   exact .inr ⟨hx,by simp,fun z' hz=>by cases hz;exact hZ⟩
 .rintro st ⟨a',hI,hf⟩
  rw[List.drop_length]at hf
  obtain⟨r,e,hx,hL⟩:=last a' st hI
  rw[hf]
  exact⟨r,e,hx,fun _=>hL,fun z hz=>by simp[qdm]at hz⟩
end Go.Am
namespace Go.Proofs.YtbepbclaoohngaaGreat
open Go Go.Am Go.Proofs
set_option maxRecDepth 100000
set_option maxHeartbeats 4000000
theorem ev500120(s:Ste)(hs:s.small):∃m,(m=3\/m=0)/\ev pg (.call (.fn 500120 [] []) [s.v] [])=some { v:=.sl 0 0 m 0 (qdg s).length,st:=⟨[],[⟨0,.arr m ((qdg s).map Evn.row)⟩]⟩ }:=by
 have hl1:=@zzy s hs
 have hl2:=@zzz s hs
 have z:qig 1 (qbm s 1) 0=[]:=rfl
 have z0:qig 0 (qbm s 0) 0=[]:=rfl
 unfold zrl at hl2
 unfold zrk at hl1
 rw[z,List.append_nil,<-qjp]at hl2
 rw[z0]at hl1
 generalize qig 0 (qbm s 0) s.ends.length=B0 at *
 generalize qdg s=B at *
 have c0:L500120_0=L120_0:=rfl
 have c1:L500120_1=L120_1:=rfl
 simp only[qaa,pg500120]
 simp[ir500120,qah,c0,c1]
 generalize hr:ev pg (.code (.going _ L120_0) _)=o
 obtain⟨r,rfl,⟨g,m⟩,hm,f,hf,rfl⟩:∃r,o=some r/\_:=by rw[<-hr];exact hl1 (0,0) (.inr rfl) (by simp)
 clear hr
 have hmm:m=3\/m=0:=hm
 rcases hmm with rfl | rfl<;>simp[hf.ne]
 .generalize hr:ev pg (.code (.going _ L120_1) _)=o
  obtain⟨r,rfl,⟨g2,m2⟩,hm2,f2,hf2,rfl⟩:∃r,o=some r/\_:=by rw[<-hr];exact hl2 (g,3) (.inl rfl) (by simp[hf.ne])
  clear hr
  have hmm2:m2=3\/m2=0:=hm2
  rcases hmm2 with rfl | rfl<;>simp[qcn,qex,qei,quc]
 .generalize hr:ev pg (.code (.going _ L120_1) _)=o
  obtain⟨r,rfl,⟨g2,m2⟩,hm2,f2,hf2,rfl⟩:∃r,o=some r/\_:=by rw[<-hr];exact hl2 (g,0) (.inr rfl) (by simp[hf.ne])
  clear hr
  have hmm2:m2=3\/m2=0:=hm2
  rcases hmm2 with rfl | rfl<;>simp[qcn,qex,qei,quc]
abbrev jbb(s:Ste)(l:List Evn)(a:Nat×Nat):H:=[⟨0,.box s.cells⟩,⟨a.1,.arr a.2 (l.map Evn.row)⟩,o0]
def zrm(k n:Nat)(a:Nat×Nat):Tm:=[none,some (.bool true),bN 0,none,some (.sl 2 0 0 0 0),some (.sl 1 a.1 a.2 0 n),nN k]++zN 24
theorem zob{s:Ste}{k:Nat}(hk:k<s.inputs.length):(qpr s).take (k+1)=(qpr s).take k++[⟨2,(k:Int),!s.inputs[k]⟩]:=by
 have h:k<(qpr s).length:=by simp[qpr,hk]
 rw[jK h]
 simp[qpr]
theorem jdx(s:Ste)(hs:s.small)(B:List Evn)(hB:B.length<=8192){st:St}(a0:Nat×Nat)(g0:gm3 a0)(h0:At (zrm 0 B.length a0) (jbb s B a0) st) :
  ∃r,ev pg (.code (.going 3 L79_0) st)=some r/\∃a,gm3 a/\qaq (.exit 0) (zrm s.inputs.length (B++qpr s).length a) (jbb s (B++qpr s) a) r:=by
 have hi:=hs.i
 have hT:(qpr s).take s.inputs.length=qpr s:=kB (by simp[qpr])
 refine qdb s.inputs.length (fun k a=>zrm k (B++(qpr s).take k).length a) (fun k a=>jbb s (B++(qpr s).take k) a) (fun _ a=>gm3 a) _ ?_ ?_ a0 g0 (by simpa using h0)
 .rintro k ⟨g,m⟩ f hf hk hG
  have hk':(k:Int)<s.inputs.length:=by omega
  have wk:=qbb (k:=k) (by omega)
  have hsl:((qpr s).take k).length<=k:=List.length_take_le _ _
  unfold zrm
  rw[zob hk]
  generalize (qpr s).take k=C at *
  have hb1:(B.length+(C.length+1))*24<=140737488355328:=by omega
  have hb2:(B.length+C.length+1)*24<=140737488355328:=by omega
  have hmm:m=3\/m=0:=hG
  rcases hmm with rfl | rfl<;>simp[L79_0,hk,hk',wk,hb1,hb2,hf.ne,Nat.add_assoc]
 .rintro⟨g,m⟩ f hf hG
  rw[hT]
  unfold zrm
  generalize qpr s=C at *
  have hmm:m=3\/m=0:=hG
  rcases hmm with rfl | rfl<;>simp[L79_0,hf.ne]
theorem ev79(s:Ste)(hs:s.small):ev pg (.call (.fn 79 [] []) [s.v,.bool true] [])=some { v:=evs (qdg s++qpr s),st:=⟨[],[]⟩ }:=by
 obtain⟨m,hm,e1⟩:=ev500120 s hs
 have hlen:(qdg s).length<=8192:=by
  rw[qjp,jF]
  have:=qez 0 (qbm s 0) s.ends.length
  have:=qez 1 (qbm s 1) s.timers.length
  have:=hs.e
  have:=hs.t
  omega
 have q:=fun st=>jdx s hs (qdg s) hlen (0,m) hm (st:=st)
 generalize qdg s=B at *
 generalize qpr s=C at *
 rw[qaa,pg79]
 simp[ir79,qah,e1]
 generalize hr:ev pg (.code (.going _ L79_0) _)=o
 obtain⟨r,rfl,⟨g,m2⟩,hm2,f,hf,rfl⟩:∃r,o=some r/\_:=by rw[<-hr];exact q _ (by simp[zrm])
 clear hr
 have hmm:m2=3\/m2=0:=hm2
 rcases hmm with rfl | rfl<;>simp[zrm]
theorem q9b{w:Ct×Ct}{p:Ste×Ste}(h:LieP w p):qqa w p=qdg p.1++qpr p.1:=by
 unfold qqa qok
 rw[h.g.events]
theorem q9a{w:Ct×Ct}{p:Ste×Ste}(h:PS p):(qqa w p).length<=100000:=by
 unfold qqa
 rw[jF]
 have:=qxr w.1 p.1 h.g
 have:(qpr p.1).length=p.1.inputs.length:=by simp[qpr]
 have:=h.g.i
 omega
def qlt(w:Ct×Ct)(l:List (Ste×Ste))(p:Ste×Ste)(b:Bool)(x:Evn):Bool×Option Int :=
 if(quz w p x).2.2=0 then(b&&((quz w p x).2.1&&q2t l (quz w p x).1),none)else(b,some (quz w p x).2.2)
def q5y(w:Ct×Ct)(l:List (Ste×Ste))(b:Bool)(p:Ste×Ste):Bool×Option Int:=qdm (qlt w l p) (b && !zwn w p) (qqa w p)
def zba(w:Ct×Ct)(l:List (Ste×Ste))(b:Bool):Bool×Option Int:=qdm (q5y w l) b l
def q6d(b:Bool):Int:=if b=true then 0 else 15
def q2k(x:Bool×Option Int):Int:=match x.2 with
 | none=>q6d x.1
 | some e=>e
def qwe(w:Ct×Ct):List (Ste×Ste)->Int
 | []=>0
 | p :: l=>if(qcq w.1 p.1).2=0 then(if(qcq w.2 p.2).2=0 then qwe w l else(qcq w.2 p.2).2)else(qcq w.1 p.1).2
def zwz(w:Ct×Ct)(l:List (Ste×Ste)):Int :=
 if l=[]then 13
 else if 16384<l.length then 5
 else if qwe w l=0 then
  (if(qid w).2.2=0 then q2k (zba w l ((qid w).2.1&&q2t l (qid w).1))else(qid w).2.2)
 else qwe w l
def qxs(c:Ct)(k i:Int)(l:List (Ste×Ste)):Int:=if qoi c k i=0 then zwz (c,q6c c k i) l else qoi c k i
theorem qtd{c:Ct}{s:Ste}(hc:c.small=true)(h:(qcq c s).2=0):Lie c s:=by
 unfold qcq at h
 split at h
 .rename_i hq;exact zvn hc hq
 .rename_i hq;exact absurd h hq
theorem q4l{w:Ct×Ct}(hw:WS w):∀{l:List (Ste×Ste)},qwe w l=0->∀p∈l,LieP w p
 | [],_,p,hp=>by cases hp
 | q :: l,h,p,hp=>by
  simp only[qwe]at h
  split at h
  .rename_i h1
   split at h
   .rename_i h2
    rcases List.mem_cons.1 hp with rfl | hp
    .exact⟨qtd hw.g h1,qtd hw.b h2⟩
    .exact q4l hw h p hp
   .rename_i h2;exact absurd h h2
  .rename_i h1;exact absurd h h1
theorem q0f(w:Ct×Ct)(l:List (Ste×Ste))(p:Ste×Ste):∀E,(qdm (qlt w l p) false E).1=false
 | []=>rfl
 | x :: E=>by
  have ih:=q0f w l p E
  simp only[qdm,qlt]
  split
  .rename_i h;simp only[Bool.false_and]at h;split at h<;>cases h;exact ih
  .rename_i h;split at h<;>cases h;rfl
theorem q2j(w:Ct×Ct)(l:List (Ste×Ste))(p:Ste×Ste):∀E b c,(qdm (qlt w l p) b E).2=(qdm (qlt w l p) c E).2/\((qdm (qlt w l p) b E).2=none->(qdm (qlt w l p) (c&&b) E).1=(c&&(qdm (qlt w l p) b E).1))
 | [],b,c=>by simp[qdm]
 | x :: E,b,c=>by
  simp only[qdm,qlt]
  by_cases he:(quz w p x).2.2=0
  .simp only[if_pos he]
   obtain⟨-,h2⟩:=q2j w l p E (b&&((quz w p x).2.1&&q2t l (quz w p x).1)) c
   obtain⟨h1,-⟩:=q2j w l p E (b&&((quz w p x).2.1&&q2t l (quz w p x).1)) (c&&((quz w p x).2.1&&q2t l (quz w p x).1))
   refine⟨h1,fun h=>?_⟩
   rw[<-h2 h]
   rw[Bool.and_assoc]
  .simp[he]
theorem zeh{c:Ct}{s:Ste}{x:Evn}:(qdy c s x).2.2≠15:=by
 unfold qdy
 split
 .simp
 .split
  .unfold qhd
   split<;>simp
  .simp
theorem zrv{w:Ct×Ct}{p:Ste×Ste}(h:LieP w p)(x:Evn):(quz w p x).2.2≠15:=by
 unfold quz
 split
 .simp
 .rw[h.g.next1];exact zeh
theorem q3v{α β γ:Type}{step:α->β->α×Option γ}{Q:γ->Prop}:∀{E:List β} {a:α},(∀a x,x∈E->∀z,(step a x).2=some z->Q z)->∀z,(qdm step a E).2=some z->Q z
 | [],a,h,z,hz=>by cases hz
 | x :: E,a,h,z,hz=>by
  simp only[qdm]at hz
  cases hy:step a x with
  | mk a' o =>
   rw[hy]at hz
   cases o with
   | none=>exact q3v (fun a y hy=>h a y (List.mem_cons_of_mem _ hy)) z hz
   | some u =>
    simp only[jC]at hz
    rw[<-hz]
    exact h a x List.mem_cons_self u (by rw[hy])
theorem zof{w:Ct×Ct}{l:List (Ste×Ste)}{p:Ste×Ste}(h:LieP w p)(E:List Evn)(b:Bool):∀z,(qdm (qlt w l p) b E).2=some z->z≠0/\z≠15:=by
 refine q3v fun b x _ z hz=>?_
 unfold qlt at hz
 split at hz
 .cases hz
 .rename_i he
  simp only[jC]at hz
  rw[<-hz]
  exact⟨he,zrv h x⟩
abbrev zwt(w:Ct×Ct)(p:Ste×Ste):H:=[⟨0,.box w.1.cells⟩,⟨0,.box w.2.cells⟩,⟨0,.box (qbw p)⟩]
def zbj(l:List (Ste×Ste))(E:List Evn)(j:Nat)(b:Bool):Tm:=[none,none,some (prs l),none,bN 0,bN 1,none,bN 2,none,nN (q6d b)]++zN 7++[some (evs E),nN E.length,nN j]++zN 25
def zqx(e:Int)(r:R):Prop:=∃S H,r={ x:=.ret,st:=⟨S,H⟩ }/\qai S 8=num e
@[simp] theorem zyf{e:Int}{x:X}{st:St}:zqx e { x:=x,v:=.undef,st:=st }<->x=.ret/\qai st.s 8=num e:=by
 constructor
 .rintro⟨S,H,h,h2⟩
  cases h
  exact⟨rfl,h2⟩
 .rintro⟨rfl,h⟩
  exact⟨st.s,st.h,rfl,h⟩
theorem jdy(w:Ct×Ct)(hW:Wld w)(l:List (Ste×Ste))(hl:l.length<=100000)(hS:∀q∈l,PS q)(p:Ste×Ste)(hp:LieP w p)(E:List Evn)(hE:E.length<=100000)(b:Bool){st:St}(h0:At (zbj l E 0 b) (zwt w p) st) :
  ∃r,ev pg (.code (.going 3 L80_0) st)=some r/\((qdm (qlt w l p) b E).2=none->qaq (.exit 0) (zbj l E E.length (qdm (qlt w l p) b E).1) (zwt w p) r)/\(∀e,(qdm (qlt w l p) b E).2=some e->zqx e r):=by
 refine qkj (qlt w l p) (fun j b st=>At (zbj l E j b) (zwt w p) st) zqx (fun b r=>qaq (.exit 0) (zbj l E E.length b) (zwt w p) r) E ?_ ?_ b h0
 .rintro j b st x hx h
  obtain⟨f,hf,rfl⟩:=h.eq
  obtain⟨hj,hxj⟩:=jG.1 hx
  have hj':(j:Int)<E.length:=by omega
  have wj:=qbb (k:=j) (by omega)
  have e1:=ev70 w p hp x
  have e2:=fun q=>ev78 l hl hS q
  unfold qlt
  unfold znm at e1
  generalize quz w p x=y at *
  obtain⟨q,r,e⟩:=y
  have e3:=e2 q
  clear e2
  simp only at *
  refine(?_:∃r,ev pg (.code L80_0 ⟨fill f 0 (zbj l E j b),zwt w p⟩)=some r/\_/\_)
  by_cases he:e=0
  .subst he
   cases r with
   | true =>
    cases hh:q2t l q with
    | true =>
     rw[hh]at e3
     cases b<;>simp[zbj,L80_0,q6d,hj,hxj,hj',e1,e3,wj,hf.ne]
    | false =>
     rw[hh]at e3
     cases b<;>simp[zbj,L80_0,q6d,hj,hxj,hj',e1,e3,wj,hf.ne]
   | false =>
    cases b<;>simp[zbj,L80_0,q6d,hj,hxj,hj',e1,wj,hf.ne]
  .have heb:(e==0)=false:=by simpa using he
   simp[zbj,L80_0,hj,hxj,hj',e1,he,heb,hf.ne]
 .rintro b st h
  obtain⟨f,hf,rfl⟩:=h.eq
  refine(?_:∃r,ev pg (.code L80_0 ⟨fill f 0 (zbj l E E.length b),zwt w p⟩)=some r/\_/\_)
  simp[zbj,L80_0,hf.ne]
theorem ev80(w:Ct×Ct)(hW:Wld w)(l:List (Ste×Ste))(hl:l.length<=100000)(hS:∀q∈l,PS q)(p:Ste×Ste)(hp:LieP w p):ev pg (.call (.fn 80 [] []) [w.1.v,w.2.v,prs l,.agg (qbw p)] [])=some { v:=num (q2k (qdm (qlt w l p) true (qqa w p))),st:=⟨[],[]⟩ }:=by
 have e1:=ev79 p.1 hp.small.g
 rw[<-q9b hp]at e1
 have q:=fun st=>jdy w hW l hl hS p hp (qqa w p) (q9a hp.small) true (st:=st)
 generalize qqa w p=E at *
 rw[qaa,pg80]
 simp[ir80,qah,e1]
 generalize hr:ev pg (.code (.going _ L80_0) _)=o
 obtain⟨r,rfl,h1,h2⟩:∃r,o=some r/\_:=by rw[<-hr];exact q _ (by simp[zbj,q6d])
 clear hr q
 generalize qdm (qlt w l p) true E=z at *
 obtain⟨b,z⟩:=z
 cases z with
 | none =>
  obtain⟨f,hf,rfl⟩:=h1 rfl
  simp[zbj,q2k]
 | some e =>
  obtain⟨S,H,rfl,h3⟩:=h2 e rfl
  simp[h3,q2k]
end Go.Proofs.YtbepbclaoohngaaGreat
