/- Clones; is a text in a list? Are lists equal? Are expressions and controls equal? The faulty control, by the program: names and signals. The faulty control, by the program: pilots and fresh names. The faulty control, by the program: a constant. Are lists, expressions and controls equal, by the reference? Loops of Am, by a picture of the slots and of the memory. States: how they stand in Am's memory; equal states, by the reference. -/
import Derived.Test.YtddeacahiilikaaGreatRTo2
import Derived.Test.YtddeacahiilikaaGreatREn6
set_option linter.all false
namespace Go.Proofs.YtddeacahiilikaaGreat
open Go Go.Am Go.Proofs
set_option maxRecDepth 100000
theorem ev106(l:List Int)(hl:l.length<=4096):ev pg (.call (.fn 106 [] []) [qel l] [])=some { v:=.sl 0 0 1 0 l.length,st:=⟨[],[⟨0,.arr 1 (l.map qdw)⟩]⟩ }:=by
 rw[qac,pg106]
 cases l with
 | nil=>simp[ir106,qbv,qdq,qdl]
 | cons x l =>
  have h47:(l.length+1)*8<=140737488355328:=by
   simp only[List.length_cons]at hl
   omega
  simp[ir106,h47,qbv,qdq,qdl]
def I38(a b:List Int)(k:Nat)(st:St):Prop:=st.h=[]/\st.s.length=26/\qao st.s 0=.imm (a.map qdw)/\qao st.s 1=.imm (b.map qdw)/\qao st.s 12=num a.length/\qao st.s 13=num k/\decide (a=b)=decide (a.drop k=b.drop k)
def Q38(a b:List Int)(r:R):Prop:=r.st.s.length=26/\r.st.h=[]/\((r.x=.exit 0/\decide (a=b)=true)\/(r.x=.ret/\qao r.st.s 4=.bool false/\decide (a=b)=false))
theorem zrw(a b:List Int)(hab:b.length=a.length)(ha:a.length<=4096)(st:St)(h0:I38 a b 0 st):∃r,ev pg (.code (.going 0 L40_0) st)=some r/\Q38 a b r:=by
 refine qbh (I38 a b) a.length (Q38 a b) h0 ?_ ?_
 .rintro k ⟨s,hh⟩ hk ⟨rfl,hl,e0,e1,e12,e13,he⟩
  simp only at hl e0 e1 e12 e13
  have hk':(k:Int)<a.length:=by omega
  have hkb:k<b.length:=by omega
  have wk:=qab (n:=(k:Int)+1) (by omega) (by omega)
  rw[jL hk,jL hkb]at he
  rw[qag hl]
  by_cases hb:a[k]=b[k]
  .have he':decide (a=b)=decide (a.drop (k+1)=b.drop (k+1)):=by rw[he];simp only[List.cons.injEq,hb,true_and]
   simp[L40_0,I38,List.range,List.range.loop,e0,e1,e12,e13,hk,hk',hkb,hb,wk]
   simpa using he'
  .have he':decide (a=b)=false:=by rw[he];simp only[List.cons.injEq,hb,false_and,decide_false]
   simp[L40_0,Q38,List.range,List.range.loop,e0,e1,e12,e13,hk,hk',hkb,hb]
   simpa using he'
 .rintro⟨s,hh⟩ ⟨rfl,hl,e0,e1,e12,e13,he⟩
  simp only[List.drop_length]at hl e0 e1 e12 e13 he
  rw[show List.drop a.length b=[]by rw[<-hab];exact List.drop_length]at he
  have he':decide (a=b)=true:=by rw[he];rfl
  rw[qag hl]
  simp[L40_0,Q38,List.range,List.range.loop,e0,e1,e12,e13]
  simpa using he'
theorem ev40(a b:List Int)(ha:a.length<=4096):ev pg (.call (.fn 40 [] []) [.imm (a.map qdw),.imm (b.map qdw)] [])=some { v:=.bool (decide (a=b)),st:=⟨[],[]⟩ }:=by
 by_cases hab:b.length=a.length
 .have hloop:=zrw a b hab ha
  have hab':(b.length:Int)=a.length:=by omega
  unfold Q38 at hloop
  have hI:∀st:St,I38 a b 0 st<->(st.h=[]/\st.s.length=26/\qao st.s 0=.imm (a.map qdw)/\qao st.s 1=.imm (b.map qdw)/\qao st.s 12=num a.length/\qao st.s 13=num 0):=fun st=>by
   unfold I38
   exact⟨fun h=>⟨h.1,h.2.1,h.2.2.1,h.2.2.2.1,h.2.2.2.2.1,h.2.2.2.2.2.1⟩,fun h=>⟨h.1,h.2.1,h.2.2.1,h.2.2.2.1,h.2.2.2.2.1,h.2.2.2.2.2,rfl⟩⟩
  generalize decide (a=b)=B at *
  rw[qac,pg40]
  simp[ir40,qaf,hab']
  generalize hr:ev pg (.code (.going _ L40_0) _)=o
  obtain⟨r,rfl,hl,hh,hQ⟩:∃r,o=some r/\_:=by
   rw[<-hr]
   exact hloop _ ((hI _).2 ⟨by simp,by simp,by simp,by simp,by simp,by simp⟩)
  rcases hQ with⟨hx,rfl⟩ | ⟨hx,h4,rfl⟩
  .simp[hx,hh,hl]
  .simp[hx,h4]
 .have hd:decide (a=b)=false:=by
   rw[decide_eq_false_iff_not]
   intro e
   exact hab (by rw[e])
  have hne:((a.length:Int) != (b.length:Int))=true:=by
   rw[bne_iff_ne];omega
  rw[hd,qac,pg40]
  simp[ir40,hne]
mutual
def Ex.same:Ex->Ex->Bool
 | .mk o i l,.mk o' i' l'=>o==o'&&(i==i'&&zsq l l')
def zsq:List Ex->List Ex->Bool
 | [],[]=>true
 | x :: l,y :: l'=>x.same y&&zsq l l'
 | _,_=>false
end
abbrev h83(c:Ct)(k i:Int)(cells:List V)(B:List V)(P M S:Ob)(t:H):H:=⟨0,.box c.cells⟩ :: ⟨0,.box [num k,num i]⟩ :: ⟨0,.arr 0 []⟩ :: ⟨0,.arr 0 []⟩ :: ⟨0,.arr 0 []⟩ :: ⟨0,.arr 0 []⟩ :: ⟨0,.box [num 0,.sl 2 0 0 0 0,.sl 3 0 0 0 0,.sl 4 0 0 0 0,.sl 5 0 0 0 0]⟩ :: ⟨0,.box cells⟩ :: ⟨0,.box (kC 8)⟩ :: kTa (⟨0,.arr 0 []⟩ :: ⟨0,.arr 0 []⟩ :: ⟨0,.arr 0 []⟩ :: ⟨0,.arr 0 []⟩ :: ⟨0,.box B⟩ :: ⟨0,.arr 1 (c.inputs.map zai)⟩ :: P :: M :: S :: t)
structure Keep83(li:Int)(st:List V):Prop where
 nn:qde st
 len:st.length=157
 t2:qao st 2=.bptr 0 0
 t3:qao st 3=.bptr 1 0
 t4:qao st 4=.bptr 6 0
 t5:qao st 5=.sl 26 0 0 0 0
 t6:qao st 6=.bptr 7 0
 t7:qao st 7=num li
 t8:qao st 8=.bptr 21 0
abbrev qen(b:Bool):List V:=[.bool b]
abbrev z3f:V:=.imm [[.str [115,116,117,99,107,48]],[.str [115,116,117,99,107,49]]]
structure Keep83v(li:Int)(v:Int)(gk mk nk gv mv nv:Nat)(st:List V):Prop where
 keep:Keep83 li st
 t9:qao st 9=.sl 27 gk mk 0 nk
 t15:qao st 15=.sl 28 gv mv 0 nv
 t92:qao st 92=z3f
 t93:qao st 93=num 2
 t94:qao st 94=num v
structure Keep83w(li v:Int)(gk mk nk gv mv nv:Nat)(st:List V):Prop where
 keep:Keep83v li v gk mk nk gv mv nv st
 t16:qao st 16=num v
theorem Keep83.set{li:Int}{s:List V}(h:Keep83 li s)(j:Nat)(x:V)(hx:x ≠ .nils)(hj:j∉[2,3,4,5,6,7,8]):Keep83 li (qhi s j x):=by
 simp only[List.mem_cons,List.not_mem_nil,or_false,not_or]at hj
 obtain⟨h2,h3,h4,h5,h6,h7,h8⟩:=hj
 exact⟨qed h.nn hx,by rw[qmj,h.len],by rw[qat h2,h.t2],by rw[qat h3,h.t3],by rw[qat h4,h.t4],by rw[qat h5,h.t5],by rw[qat h6,h.t6],by rw[qat h7,h.t7],by rw[qat h8,h.t8]⟩
theorem Keep83v.set{li v:Int}{gk mk nk gv mv nv:Nat}{s:List V}(h:Keep83v li v gk mk nk gv mv nv s)(j:Nat)(x:V)(hx:x ≠ .nils)(hj:j∉[2,3,4,5,6,7,8])(hj2:j∉[9,15,92,93,94]):Keep83v li v gk mk nk gv mv nv (qhi s j x):=by
 simp only[List.mem_cons,List.not_mem_nil,or_false,not_or]at hj2
 obtain⟨h9,h15,h92,h93,h94⟩:=hj2
 exact⟨h.keep.set j x hx hj,by rw[qat h9,h.t9],by rw[qat h15,h.t15],by rw[qat h92,h.t92],by rw[qat h93,h.t93],by rw[qat h94,h.t94]⟩
theorem Keep83w.set{li v:Int}{gk mk nk gv mv nv:Nat}{s:List V}(h:Keep83w li v gk mk nk gv mv nv s)(j:Nat)(x:V)(hx:x ≠ .nils)(hj:j∉[2,3,4,5,6,7,8])(hj2:j∉[9,15,92,93,94])(hj3:j≠16):Keep83w li v gk mk nk gv mv nv (qhi s j x) :=
 ⟨h.keep.set j x hx hj hj2,by rw[qat hj3,h.t16]⟩
def I39(a b:List Int)(k:Nat)(st:St):Prop:=st.h=[]/\st.s.length=26/\qao st.s 0=.imm (a.map qdw)/\qao st.s 1=.imm (b.map qdw)/\qao st.s 5=num k/\decide (a=b)=decide (a.drop k=b.drop k)
def Q39(a b:List Int)(r:R):Prop:=r.st.s.length=26/\r.st.h=[]/\((r.x=.exit 0/\decide (a=b)=true)\/(r.x=.ret/\qao r.st.s 4=.bool false/\decide (a=b)=false))
theorem zrx(a b:List Int)(hab:b.length=a.length)(ha:a.length<=4096)(st:St)(h0:I39 a b 0 st):∃r,ev pg (.code (.going 0 L61_0) st)=some r/\Q39 a b r:=by
 refine qbh (I39 a b) a.length (Q39 a b) h0 ?_ ?_
 .rintro k ⟨s,hh⟩ hk ⟨rfl,hl,e0,e1,e5,he⟩
  simp only at hl e0 e1 e5
  have hk':(k:Int)<a.length:=by omega
  have hkb:k<b.length:=by omega
  have wk:=qab (n:=(k:Int)+1) (by omega) (by omega)
  rw[jL hk,jL hkb]at he
  rw[qag hl]
  by_cases hb:a[k]=b[k]
  .have he':decide (a=b)=decide (a.drop (k+1)=b.drop (k+1)):=by rw[he];simp only[List.cons.injEq,hb,true_and]
   simp[L61_0,I39,List.range,List.range.loop,e0,e1,e5,hk,hk',hkb,hb,wk]
   simpa using he'
  .have he':decide (a=b)=false:=by rw[he];simp only[List.cons.injEq,hb,false_and,decide_false]
   simp[L61_0,Q39,List.range,List.range.loop,e0,e1,e5,hk,hk',hkb,hb]
   simpa using he'
 .rintro⟨s,hh⟩ ⟨rfl,hl,e0,e1,e5,he⟩
  simp only[List.drop_length]at hl e0 e1 e5 he
  rw[show List.drop a.length b=[]by rw[<-hab];exact List.drop_length]at he
  have he':decide (a=b)=true:=by rw[he];rfl
  rw[qag hl]
  simp[L61_0,Q39,List.range,List.range.loop,e0,e1,e5]
  simpa using he'
theorem ev61(a b:List Int)(ha:a.length<=4096):ev pg (.call (.fn 61 [] []) [.imm (a.map qdw),.imm (b.map qdw)] [])=some { v:=.bool (decide (a=b)),st:=⟨[],[]⟩ }:=by
 by_cases hab:b.length=a.length
 .have hloop:=zrx a b hab ha
  have hab':(b.length:Int)=a.length:=by omega
  unfold Q39 at hloop
  have hI:∀st:St,I39 a b 0 st<->(st.h=[]/\st.s.length=26/\qao st.s 0=.imm (a.map qdw)/\qao st.s 1=.imm (b.map qdw)/\qao st.s 5=num 0):=fun st=>by
   unfold I39
   exact⟨fun h=>⟨h.1,h.2.1,h.2.2.1,h.2.2.2.1,h.2.2.2.2.1⟩,fun h=>⟨h.1,h.2.1,h.2.2.1,h.2.2.2.1,h.2.2.2.2,rfl⟩⟩
  generalize decide (a=b)=B at *
  rw[qac,pg61]
  simp[ir61,qaf,hab']
  generalize hr:ev pg (.code (.going _ L61_0) _)=o
  obtain⟨r,rfl,hl,hh,hQ⟩:∃r,o=some r/\_:=by
   rw[<-hr]
   exact hloop _ ((hI _).2 ⟨by simp,by simp,by simp,by simp,by simp⟩)
  rcases hQ with⟨hx,rfl⟩ | ⟨hx,h4,rfl⟩
  .simp[hx,hh,hl]
  .simp[hx,h4]
 .have hd:decide (a=b)=false:=by
   rw[decide_eq_false_iff_not]
   intro e
   exact hab (by rw[e])
  have hne:((a.length:Int) != (b.length:Int))=true:=by
   rw[bne_iff_ne];omega
  rw[hd,qac,pg61]
  simp[ir61,hne]
end Go.Proofs.YtddeacahiilikaaGreat
namespace Go.Am
abbrev Tm:=List (Option V)
def fill(f:Nat->V):Nat->Tm->List V
 | _,[]=>[]
 | i,some v :: t=>v :: fill f (i+1) t
 | i,none :: t=>f i :: fill f (i+1) t
def qlm:Tm->List V->Prop
 | [],[]=>True
 | some v :: t,x :: s=>x=v/\qlm t s
 | none :: t,x :: s=>x ≠ .nils/\qlm t s
 | _,_=>False
def Junk(f:Nat->V):Prop:=∀i,f i ≠ .nils
theorem qrj:∀{t:Tm} {s:List V} (n:Nat),qlm t s->∃f,Junk f/\s=fill f n t
 | [],[],_,_=>⟨fun _=>.undef,fun _=>by simp,rfl⟩
 | [],_ :: _,_,h=>by simp[qlm]at h
 | some _ :: _,[],_,h=>by simp[qlm]at h
 | none :: _,[],_,h=>by simp[qlm]at h
 | some v :: t,x :: s,n,h=>by
  obtain⟨rfl,h2⟩:=h
  obtain⟨f,hf,rfl⟩:=qrj (n+1) h2
  exact⟨f,hf,rfl⟩
 | none :: t,x :: s,n,h=>by
  obtain⟨hx,h2⟩:=h
  obtain⟨f,hf,rfl⟩:=qrj (n+1) h2
  refine⟨fun i=>if i=n then x else f i,fun i=>?_,?_⟩
  .simp only
   split
   .exact hx
   .exact hf i
  .have:∀(t:Tm) (m:Nat),n<m->fill (fun i=>if i=n then x else f i) m t=fill f m t:=by
    intro t
    induction t with
    | nil=>intro m _;rfl
    | cons o t ih =>
     intro m hm
     cases o with
     | none=>simp only[fill,ih (m+1) (by omega)];rw[if_neg (by omega)]
     | some v=>simp only[fill,ih (m+1) (by omega)]
   simp only[fill,if_true]
   rw[this t (n+1) (by omega)]
structure At(T:Tm)(h:H)(st:St):Prop where
 s:qlm T st.s
 h:st.h=h
theorem At.eq{T:Tm}{h:H}{st:St}(a:At T h st):∃f,Junk f/\st=⟨fill f 0 T,h⟩:=by
 obtain⟨f,hf,e⟩:=qrj 0 a.s
 refine⟨f,hf,?_⟩
 obtain⟨s,h'⟩:=st
 obtain rfl:h'=h:=a.h
 obtain rfl:s=fill f 0 T:=e
 rfl
theorem qci{P:Prg}{nx:Nat}{c:C}{α:Type}(N:Nat)(T:Nat->α->Tm)(Hp:Nat->α->H)(G:Nat->α->Prop)(Q:R->Prop)
  (step:∀k a f,Junk f->k<N->G k a->∃r,ev P (.code c ⟨fill f 0 (T k a),Hp k a⟩)=some r/\((r.x=.normal/\∃a',G (k+1) a'/\At (T (k+1) a') (Hp (k+1) a') (qta nx r.st))\/(r.x ≠ .normal/\Q r)))
  (last:∀a f,Junk f->G N a->∃r,ev P (.code c ⟨fill f 0 (T N a),Hp N a⟩)=some r/\r.x ≠ .normal/\Q r)
  {st:St} (a0:α) (g0:G 0 a0) (h0:At (T 0 a0) (Hp 0 a0) st):∃r,ev P (.code (.going nx c) st)=some r/\Q r:=by
 refine qbh (fun k st=>∃a,G k a/\At (T k a) (Hp k a) st) N Q ⟨a0,g0,h0⟩ ?_ ?_
 .rintro k st hk ⟨a,g,h⟩
  obtain⟨f,hf,rfl⟩:=h.eq
  exact step k a f hf hk g
 .rintro st ⟨a,g,h⟩
  obtain⟨f,hf,rfl⟩:=h.eq
  exact last a f hf g
theorem qfc{P:Prg}{nx:Nat}{c:C}(N:Nat)(T:Nat->Tm)(Hp:Nat->H)(Q:R->Prop)
  (step:∀k f,Junk f->k<N->∃r,ev P (.code c ⟨fill f 0 (T k),Hp k⟩)=some r/\((r.x=.normal/\At (T (k+1)) (Hp (k+1)) (qta nx r.st))\/(r.x ≠ .normal/\Q r)))
  (last:∀f,Junk f->∃r,ev P (.code c ⟨fill f 0 (T N),Hp N⟩)=some r/\r.x ≠ .normal/\Q r)
  {st:St} (h0:At (T 0) (Hp 0) st):∃r,ev P (.code (.going nx c) st)=some r/\Q r :=
 qci (α:=Unit) N (fun k _=>T k) (fun k _=>Hp k) (fun _ _=>True) Q
  (fun k _ f hf hk _=>by
   obtain⟨r,e,h⟩:=step k f hf hk
   refine⟨r,e,?_⟩
   rcases h with⟨hx,h⟩ | h
   .exact .inl ⟨hx,(),trivial,h⟩
   .exact .inr h)
  (fun _ f hf _=>last f hf) () trivial h0
def qmo(N:Nat)(p:Nat->Bool)(X:Nat->R->Prop)(Y:R->Prop)(r:R):Prop:=(∃k,k<N/\p k=true/\(∀j,j<k->p j=false)/\X k r)\/((∀j,j<N->p j=false)/\Y r)
theorem qcx{P:Prg}{nx:Nat}{c:C}(N:Nat)(p:Nat->Bool)(T:Nat->Tm)(h:H)(X:Nat->R->Prop)(Y:R->Prop)
  (go:∀k f,Junk f->k<N->p k=false->∃st,ev P (.code c ⟨fill f 0 (T k),h⟩)=some { st:=st }/\At (T (k+1)) h (qta nx st))
  (hit:∀k f,Junk f->k<N->p k=true->∃r,ev P (.code c ⟨fill f 0 (T k),h⟩)=some r/\r.x ≠ .normal/\X k r)
  (last:∀f,Junk f->∃r,ev P (.code c ⟨fill f 0 (T N),h⟩)=some r/\r.x ≠ .normal/\Y r)
  {st:St} (h0:At (T 0) h st):∃r,ev P (.code (.going nx c) st)=some r/\qmo N p X Y r:=by
 refine qci (α:=Unit) N (fun k _=>T k) (fun _ _=>h) (fun k _=>∀j,j<k->p j=false) _ ?_ ?_ () (fun j hj=>absurd hj (Nat.not_lt_zero j)) h0
 .intro k _ f hf hk hp
  cases hb:p k with
  | false =>
   obtain⟨st,e,ha⟩:=go k f hf hk hb
   refine⟨_,e,.inl ⟨rfl,(),fun j hj=>?_,ha⟩⟩
   by_cases hjk:j=k
   .rw[hjk];exact hb
   .exact hp j (by omega)
  | true =>
   obtain⟨r,e,hx,hX⟩:=hit k f hf hk hb
   exact⟨r,e,.inr ⟨hx,.inl ⟨k,hk,hb,hp,hX⟩⟩⟩
 .intro _ f hf hp
  obtain⟨r,e,hx,hY⟩:=last f hf
  exact⟨r,e,hx,.inr ⟨hp,hY⟩⟩
def qaj(x:X)(T:Tm)(h:H)(r:R):Prop:=∃f,Junk f/\r={ x:=x,st:=⟨fill f 0 T,h⟩ }
@[simp] theorem zts{x x':X}{T:Tm}{h:H}{st:St}:qaj x T h { x:=x',v:=.undef,st:=st }<->x'=x/\At T h st:=by
 constructor
 .rintro⟨f,hf,e⟩
  injection e with e1 _ e3
  subst e3
  refine⟨e1,?_,rfl⟩
  have:∀(t:Tm) (n:Nat),qlm t (fill f n t):=by
   intro t
   induction t with
   | nil=>intro n;trivial
   | cons o t ih =>
    intro n
    cases o with
    | none=>exact⟨hf n,ih (n+1)⟩
    | some v=>exact⟨rfl,ih (n+1)⟩
  exact this T 0
 .rintro⟨rfl,h⟩
  obtain⟨f,hf,rfl⟩:=h.eq
  exact⟨f,hf,rfl⟩
theorem zqe{T:Tm}{h h':H}{s:List V}:At T h ⟨s,h'⟩<->qlm T s/\h'=h:=⟨fun a=>⟨a.s,a.h⟩,fun a=>⟨a.1,a.2⟩⟩
attribute [simp] fill qlm zqe
@[simp] theorem Junk.ne{f:Nat->V}(hf:Junk f)(i:Nat):(f i=.nils)=False:=by simp[hf i]
end Go.Am
namespace Go.Proofs.YtddeacahiilikaaGreat
open Go Go.Am Go.Proofs
set_option maxRecDepth 100000
abbrev qdt(l:List Bool):V:=.imm (l.map qen)
structure Ste where
 ends:List Int
 valves:List Bool
 inputs:List Bool
 values:List Bool
 timers:List Int
abbrev Ste.cells(s:Ste):List V:=[qel s.ends,qdt s.valves,qdt s.inputs,qdt s.values,qel s.timers]
abbrev Ste.v(s:Ste):V:=.agg s.cells
def zeroS:Ste:=⟨[],[],[],[],[]⟩
@[simp] theorem zqi(l:List Bool):qtj (l.map qen) (l.map qen)=true:=qho (fun x=>by simp) l
def T48(a b:List Bool)(k:Nat):Tm:=[some (qdt a),some (qdt b),none,none,none,some (num k)]++List.replicate 20 none
def zzp(a b:List Bool):Tm:=[some (qdt a),some (qdt b),none,none,some (.bool false)]++List.replicate 21 none
theorem zry(a b:List Bool)(hab:b.length=a.length)(ha:a.length<=4096){st:St}(h0:At (T48 a b 0) [] st):∃r,ev pg (.code (.going 0 L293_0) st)=some r/\qmo a.length (fun k=>a[k]? != b[k]?) (fun _=>qaj .ret (zzp a b) []) (qaj (.exit 0) (T48 a b a.length) []) r:=by
 refine qcx _ _ (T48 a b) [] _ _ ?_ ?_ ?_ h0
 .intro k f hf hk hp
  have hk':(k:Int)<a.length:=by omega
  have hkb:k<b.length:=by omega
  have wk:=qab (n:=(k:Int)+1) (by omega) (by omega)
  have hb:a[k]=b[k]:=by simpa[hk,hkb]using hp
  simp[T48,L293_0,hk,hk',hkb,hb,wk,hf.ne]
 .intro k f hf hk hp
  have hk':(k:Int)<a.length:=by omega
  have hkb:k<b.length:=by omega
  have hb:a[k]≠b[k]:=by simpa[hk,hkb]using hp
  have hb':(a[k]==b[k])=false:=by simpa using hb
  simp[T48,zzp,L293_0,hk,hk',hkb,hb',hf.ne]
 .intro f hf
  simp[T48,L293_0,hf.ne]
theorem ev293(a b:List Bool)(ha:a.length<=4096):ev pg (.call (.fn 293 [] []) [qdt a,qdt b] [])=some { v:=.bool (decide (a=b)),st:=⟨[],[]⟩ }:=by
 rw[qac,pg293]
 by_cases hab:b.length=a.length
 .have hloop:=@zry a b hab ha
  have hab':(b.length:Int)=a.length:=by omega
  simp[ir293,qaf,hab']
  generalize hr:ev pg (.code (.going _ L293_0) _)=o
  obtain⟨r,rfl,hQ⟩:∃r,o=some r/\_:=by rw[<-hr];exact hloop (by simp[T48])
  rcases hQ with⟨k,hk,hp,-,f,hf,rfl⟩ | ⟨hp,f,hf,rfl⟩
  .have:a≠b:=by rintro rfl;simp at hp
   simp[zzp,this]
  .have:a=b:=by
    refine List.ext_getElem hab.symm fun k h1 h2=>?_
    have:=hp k h1
    simpa[h1,h2]using this
   simp[T48,this]
 .have hne:((a.length:Int) != (b.length:Int))=true:=by rw[bne_iff_ne];omega
  have:a≠b:=fun e=>hab (by rw[e])
  simp[ir293,hne,this]
end Go.Proofs.YtddeacahiilikaaGreat
