/- Are lists equal? Are expressions and controls equal? Are controls equal? The faulty control, by the program: names and signals. The faulty control, by the program: pilots and fresh names. The faulty control, by the program: a constant. Are lists, expressions and controls equal, by the reference? -/
import Derived.Test.YtddeacahiilikaaGreatMCl1
set_option linter.all false
namespace Go.Proofs.YtddeacahiilikaaGreat
open Go Go.Am Go.Proofs
set_option maxRecDepth 100000
def I38(a b:List Int)(k:Nat)(st:St):Prop:=st.h=[]/\st.s.length=26/\qam st.s 0=.imm (a.map qej)/\qam st.s 1=.imm (b.map qej)/\qam st.s 12=num a.length/\qam st.s 13=num k/\decide (a=b)=decide (a.drop k=b.drop k)
def Q38(a b:List Int)(r:R):Prop:=r.st.s.length=26/\r.st.h=[]/\((r.x=.exit 0/\decide (a=b)=true)\/(r.x=.ret/\qam r.st.s 4=.bool false/\decide (a=b)=false))
theorem zws(a b:List Int)(hab:b.length=a.length)(ha:a.length<=4096)(st:St)(h0:I38 a b 0 st):∃r,ev pg (.code (.going 0 L40_0) st)=some r/\Q38 a b r:=by
 refine qbg (I38 a b) a.length (Q38 a b) h0 ?_ ?_
 .rintro k ⟨s,hh⟩ hk ⟨rfl,hl,e0,e1,e12,e13,he⟩
  simp only at hl e0 e1 e12 e13
  have hk':(k:Int)<a.length:=by omega
  have hkb:k<b.length:=by omega
  have wk:=qab (n:=(k:Int)+1) (by omega) (by omega)
  rw[jL hk,jL hkb]at he
  rw[qae hl]
  by_cases hb:a[k]=b[k]
  .have he':decide (a=b)=decide (a.drop (k+1)=b.drop (k+1)):=by rw[he];simp only[List.cons.injEq,hb,true_and]
   simp[L40_0,I38,List.range,List.range.loop,e0,e1,e12,e13,hk,hk',hkb,hb,wk]
   simpa using he'
  .have he':decide (a=b)=false:=by rw[he];simp only[List.cons.injEq,hb,false_and,decide_false]
   simp[L40_0,Q38,List.range,List.range.loop,e0,e1,e12,e13,hk,hk',hkb,hb]
   simpa using he'
 .rintro⟨s,hh⟩ ⟨rfl,hl,e0,e1,e12,e13,he⟩
  simp only[List.drop_length]at hl e0 e1 e12 e13 he
  rw[show List.drop a.length b=[]by rw[<-hab];exact List.drop_length]at he
  have he':decide (a=b)=true:=by rw[he];rfl
  rw[qae hl]
  simp[L40_0,Q38,List.range,List.range.loop,e0,e1,e12,e13]
  simpa using he'
theorem ev40(a b:List Int)(ha:a.length<=4096):ev pg (.call (.fn 40 [] []) [.imm (a.map qej),.imm (b.map qej)] [])=some { v:=.bool (decide (a=b)),st:=⟨[],[]⟩ }:=by
 by_cases hab:b.length=a.length
 .have hloop:=zws a b hab ha
  have hab':(b.length:Int)=a.length:=by omega
  unfold Q38 at hloop
  have hI:∀st:St,I38 a b 0 st<->(st.h=[]/\st.s.length=26/\qam st.s 0=.imm (a.map qej)/\qam st.s 1=.imm (b.map qej)/\qam st.s 12=num a.length/\qam st.s 13=num 0):=fun st=>by
   unfold I38
   exact⟨fun h=>⟨h.1,h.2.1,h.2.2.1,h.2.2.2.1,h.2.2.2.2.1,h.2.2.2.2.2.1⟩,fun h=>⟨h.1,h.2.1,h.2.2.1,h.2.2.2.1,h.2.2.2.2.1,h.2.2.2.2.2,rfl⟩⟩
  generalize decide (a=b)=B at *
  rw[qac,pg40]
  simp[ir40,qaf,hab']
  generalize hr:ev pg (.code (.going _ L40_0) _)=o
  obtain⟨r,rfl,hl,hh,hQ⟩:∃r,o=some r/\_:=by
   rw[<-hr]
   exact hloop _ ((hI _).2 ⟨by simp,by simp,by simp,by simp,by simp,by simp⟩)
  rcases hQ with⟨hx,rfl⟩ | ⟨hx,h4,rfl⟩
  .simp[hx,hh,hl]
  .simp[hx,h4]
 .have hd:decide (a=b)=false:=by
   rw[decide_eq_false_iff_not]
   intro e
   exact hab (by rw[e])
  have hne:((a.length:Int) != (b.length:Int))=true:=by
   rw[bne_iff_ne];omega
  rw[hd,qac,pg40]
  simp[ir40,hne]
mutual
def Ex.same:Ex->Ex->Bool
 | .mk o i l,.mk o' i' l'=>o==o'&&(i==i'&&qho l l')
def qho:List Ex->List Ex->Bool
 | [],[]=>true
 | x :: l,y :: l'=>x.same y&&qho l l'
 | _,_=>false
end
theorem zso(x y:Ex):x.same y=(x.op==y.op&&(x.idx==y.idx&&qho x.args y.args)):=by cases x;cases y;rw[Ex.same];rfl
theorem zhw{l l':List Ex}{k:Nat}(hk:k<l.length)(hk':k<l'.length):qho (l.drop k) (l'.drop k)=(l[k].same l'[k]&&qho (l.drop (k+1)) (l'.drop (k+1))):=by
 rw[jL hk,jL hk',qho]
theorem q0p:∀{l l':List Ex},qho l l'=true->l'.length=l.length
 | [],[],_=>rfl
 | x :: l,y :: l',h=>by
  rw[qho,jE]at h
  rw[List.length_cons,List.length_cons,q0p h.2]
 | [],y :: l',h=>by simp[qho]at h
 | x :: l,[],h=>by simp[qho]at h
mutual
theorem q5l:∀{x y:Ex},x.same y=true<->x=y
 | .mk o i l,.mk o' i' l'=>by
  rw[Ex.same,jE,jE,beq_iff_eq,beq_iff_eq,q0o,Ex.mk.injEq]
theorem q0o:∀{l l':List Ex},qho l l'=true<->l=l'
 | [],[]=>by rw[qho];simp
 | x :: l,y :: l'=>by rw[qho,jE,q5l,q0o,List.cons.injEq]
 | [],y :: l'=>by simp[qho]
 | x :: l,[]=>by simp[qho]
end
def q2x(a b:Sg):Bool:=a.name==b.name&&(a.kind==b.kind&&(a.delay==b.delay&&(a.init==b.init&&(a.on.same b.on&&a.off.same b.off))))
theorem zdg{a b:Sg}:q2x a b=true<->a=b:=by
 obtain⟨n,k,x,y,d,i⟩:=a
 obtain⟨n',k',x',y',d',i'⟩:=b
 simp only[q2x,jE,beq_iff_eq,q5l,Sg.mk.injEq]
 constructor
 .rintro⟨h1,h2,h3,h4,h5,h6⟩
  exact⟨h1,h2,h5,h6,h3,h4⟩
 .rintro⟨h1,h2,h5,h6,h3,h4⟩
  exact⟨h1,h2,h3,h4,h5,h6⟩
def qge(a b:List Sg):Bool:=match a,b with
 | [],[]=>true
 | x :: l,y :: l'=>q2x x y&&qge l l'
 | _,_=>false
theorem zdf{l l':List Sg}{k:Nat}(hk:k<l.length)(hk':k<l'.length):qge (l.drop k) (l'.drop k)=(q2x l[k] l'[k]&&qge (l.drop (k+1)) (l'.drop (k+1))):=by
 rw[jL hk,jL hk',qge]
theorem qpb:∀{l l':List Sg},qge l l'=true<->l=l'
 | [],[]=>by simp[qge]
 | x :: l,y :: l'=>by rw[qge,jE,zdg,qpb,List.cons.injEq]
 | [],y :: l'=>by simp[qge]
 | x :: l,[]=>by simp[qge]
def zhv(a b:Ct):Bool:=a.act==b.act&&(decide (a.inputs=b.inputs)&&(qge a.signals b.signals&&(decide (a.plus=b.plus)&&decide (a.minus=b.minus))))
theorem zde{a b:Ct}:zhv a b=true<->a=b:=by
 obtain⟨n,k,x,y,d⟩:=a
 obtain⟨n',k',x',y',d'⟩:=b
 simp only[zhv,jE,beq_iff_eq,qpb,jW,Ct.mk.injEq]
abbrev h83(c:Ct)(k i:Int)(cells:List V)(B:List V)(P M S:Ob)(t:H):H:=⟨0,.box c.cells⟩ :: ⟨0,.box [num k,num i]⟩ :: ⟨0,.arr 0 []⟩ :: ⟨0,.arr 0 []⟩ :: ⟨0,.arr 0 []⟩ :: ⟨0,.arr 0 []⟩ :: ⟨0,.box [num 0,.sl 2 0 0 0 0,.sl 3 0 0 0 0,.sl 4 0 0 0 0,.sl 5 0 0 0 0]⟩ :: ⟨0,.box cells⟩ :: ⟨0,.box (kC 8)⟩ :: kTa (⟨0,.arr 0 []⟩ :: ⟨0,.arr 0 []⟩ :: ⟨0,.arr 0 []⟩ :: ⟨0,.arr 0 []⟩ :: ⟨0,.box B⟩ :: ⟨0,.arr 1 (c.inputs.map qqm)⟩ :: P :: M :: S :: t)
structure Keep83(li:Int)(st:List V):Prop where
 nn:qdc st
 len:st.length=157
 t2:qam st 2=.bptr 0 0
 t3:qam st 3=.bptr 1 0
 t4:qam st 4=.bptr 6 0
 t5:qam st 5=.sl 26 0 0 0 0
 t6:qam st 6=.bptr 7 0
 t7:qam st 7=num li
 t8:qam st 8=.bptr 21 0
abbrev qia(b:Bool):List V:=[.bool b]
abbrev z9g:V:=.imm [[.str [115,116,117,99,107,48]],[.str [115,116,117,99,107,49]]]
structure Keep83v(li:Int)(v:Int)(gk mk nk gv mv nv:Nat)(st:List V):Prop where
 keep:Keep83 li st
 t9:qam st 9=.sl 27 gk mk 0 nk
 t15:qam st 15=.sl 28 gv mv 0 nv
 t92:qam st 92=z9g
 t93:qam st 93=num 2
 t94:qam st 94=num v
structure Keep83w(li v:Int)(gk mk nk gv mv nv:Nat)(st:List V):Prop where
 keep:Keep83v li v gk mk nk gv mv nv st
 t16:qam st 16=num v
theorem Keep83.set{li:Int}{s:List V}(h:Keep83 li s)(j:Nat)(x:V)(hx:x ≠ .nils)(hj:j∉[2,3,4,5,6,7,8]):Keep83 li (qgi s j x):=by
 simp only[List.mem_cons,List.not_mem_nil,or_false,not_or]at hj
 obtain⟨h2,h3,h4,h5,h6,h7,h8⟩:=hj
 exact⟨qdz h.nn hx,by rw[qmk,h.len],by rw[qas h2,h.t2],by rw[qas h3,h.t3],by rw[qas h4,h.t4],by rw[qas h5,h.t5],by rw[qas h6,h.t6],by rw[qas h7,h.t7],by rw[qas h8,h.t8]⟩
theorem Keep83v.set{li v:Int}{gk mk nk gv mv nv:Nat}{s:List V}(h:Keep83v li v gk mk nk gv mv nv s)(j:Nat)(x:V)(hx:x ≠ .nils)(hj:j∉[2,3,4,5,6,7,8])(hj2:j∉[9,15,92,93,94]):Keep83v li v gk mk nk gv mv nv (qgi s j x):=by
 simp only[List.mem_cons,List.not_mem_nil,or_false,not_or]at hj2
 obtain⟨h9,h15,h92,h93,h94⟩:=hj2
 exact⟨h.keep.set j x hx hj,by rw[qas h9,h.t9],by rw[qas h15,h.t15],by rw[qas h92,h.t92],by rw[qas h93,h.t93],by rw[qas h94,h.t94]⟩
theorem Keep83w.set{li v:Int}{gk mk nk gv mv nv:Nat}{s:List V}(h:Keep83w li v gk mk nk gv mv nv s)(j:Nat)(x:V)(hx:x ≠ .nils)(hj:j∉[2,3,4,5,6,7,8])(hj2:j∉[9,15,92,93,94])(hj3:j≠16):Keep83w li v gk mk nk gv mv nv (qgi s j x) :=
 ⟨h.keep.set j x hx hj hj2,by rw[qas hj3,h.t16]⟩
theorem Keep83v.next{li v:Int}{gk mk nk gv mv nv:Nat}{s:List V}(h:Keep83v li v gk mk nk gv mv nv s)(x:V)(hx:x ≠ .nils)(v':Int):Keep83v li v' gk mk nk gv mv nv (qgi (qgi s 154 x) 94 (num v')):=by
 have hk:=(h.keep.set 154 x hx (by decide)).set 94 (num v') (by simp) (by decide)
 have hl:=h.keep.len
 exact⟨hk,by simp[h.t9],by simp[h.t15],by simp[h.t92],by simp[h.t93],by simp[hl]⟩
def I37(a b:List Txt)(k:Nat)(st:St):Prop:=st.h=[]/\st.s.length=26/\qam st.s 0=.imm (a.map qqm)/\qam st.s 1=.imm (b.map qqm)/\qam st.s 5=num k/\decide (a=b)=decide (a.drop k=b.drop k)
def Q37(a b:List Txt)(r:R):Prop:=r.st.s.length=26/\r.st.h=[]/\((r.x=.exit 0/\decide (a=b)=true)\/(r.x=.ret/\qam r.st.s 4=.bool false/\decide (a=b)=false))
theorem zwr(a b:List Txt)(hab:b.length=a.length)(ha:a.length<=4096)(st:St)(h0:I37 a b 0 st):∃r,ev pg (.code (.going 0 L59_0) st)=some r/\Q37 a b r:=by
 refine qbg (I37 a b) a.length (Q37 a b) h0 ?_ ?_
 .rintro k ⟨s,hh⟩ hk ⟨rfl,hl,e0,e1,e5,he⟩
  simp only at hl e0 e1 e5
  have hk':(k:Int)<a.length:=by omega
  have hkb:k<b.length:=by omega
  have wk:=qab (n:=(k:Int)+1) (by omega) (by omega)
  rw[jL hk,jL hkb]at he
  rw[qae hl]
  by_cases hb:a[k]=b[k]
  .have he':decide (a=b)=decide (a.drop (k+1)=b.drop (k+1)):=by rw[he];simp only[List.cons.injEq,hb,true_and]
   simp[L59_0,I37,List.range,List.range.loop,e0,e1,e5,hk,hk',hkb,hb,wk]
   simpa using he'
  .have he':decide (a=b)=false:=by rw[he];simp only[List.cons.injEq,hb,false_and,decide_false]
   simp[L59_0,Q37,List.range,List.range.loop,e0,e1,e5,hk,hk',hkb,hb]
   simpa using he'
 .rintro⟨s,hh⟩ ⟨rfl,hl,e0,e1,e5,he⟩
  simp only[List.drop_length]at hl e0 e1 e5 he
  rw[show List.drop a.length b=[]by rw[<-hab];exact List.drop_length]at he
  have he':decide (a=b)=true:=by rw[he];rfl
  rw[qae hl]
  simp[L59_0,Q37,List.range,List.range.loop,e0,e1,e5]
  simpa using he'
theorem ev59(a b:List Txt)(ha:a.length<=4096):ev pg (.call (.fn 59 [] []) [.imm (a.map qqm),.imm (b.map qqm)] [])=some { v:=.bool (decide (a=b)),st:=⟨[],[]⟩ }:=by
 by_cases hab:b.length=a.length
 .have hloop:=zwr a b hab ha
  have hab':(b.length:Int)=a.length:=by omega
  unfold Q37 at hloop
  have hI:∀st:St,I37 a b 0 st<->(st.h=[]/\st.s.length=26/\qam st.s 0=.imm (a.map qqm)/\qam st.s 1=.imm (b.map qqm)/\qam st.s 5=num 0):=fun st=>by
   unfold I37
   exact⟨fun h=>⟨h.1,h.2.1,h.2.2.1,h.2.2.2.1,h.2.2.2.2.1⟩,fun h=>⟨h.1,h.2.1,h.2.2.1,h.2.2.2.1,h.2.2.2.2,rfl⟩⟩
  generalize decide (a=b)=B at *
  rw[qac,pg59]
  simp[ir59,qaf,hab']
  generalize hr:ev pg (.code (.going _ L59_0) _)=o
  obtain⟨r,rfl,hl,hh,hQ⟩:∃r,o=some r/\_:=by
   rw[<-hr]
   exact hloop _ ((hI _).2 ⟨by simp,by simp,by simp,by simp,by simp⟩)
  rcases hQ with⟨hx,rfl⟩ | ⟨hx,h4,rfl⟩
  .simp[hx,hh,hl]
  .simp[hx,h4]
 .have hd:decide (a=b)=false:=by
   rw[decide_eq_false_iff_not]
   intro e
   exact hab (by rw[e])
  have hne:((a.length:Int) != (b.length:Int))=true:=by
   rw[bne_iff_ne];omega
  rw[hd,qac,pg59]
  simp[ir59,hne]
def I39(a b:List Int)(k:Nat)(st:St):Prop:=st.h=[]/\st.s.length=26/\qam st.s 0=.imm (a.map qej)/\qam st.s 1=.imm (b.map qej)/\qam st.s 5=num k/\decide (a=b)=decide (a.drop k=b.drop k)
def Q39(a b:List Int)(r:R):Prop:=r.st.s.length=26/\r.st.h=[]/\((r.x=.exit 0/\decide (a=b)=true)\/(r.x=.ret/\qam r.st.s 4=.bool false/\decide (a=b)=false))
theorem zwt(a b:List Int)(hab:b.length=a.length)(ha:a.length<=4096)(st:St)(h0:I39 a b 0 st):∃r,ev pg (.code (.going 0 L61_0) st)=some r/\Q39 a b r:=by
 refine qbg (I39 a b) a.length (Q39 a b) h0 ?_ ?_
 .rintro k ⟨s,hh⟩ hk ⟨rfl,hl,e0,e1,e5,he⟩
  simp only at hl e0 e1 e5
  have hk':(k:Int)<a.length:=by omega
  have hkb:k<b.length:=by omega
  have wk:=qab (n:=(k:Int)+1) (by omega) (by omega)
  rw[jL hk,jL hkb]at he
  rw[qae hl]
  by_cases hb:a[k]=b[k]
  .have he':decide (a=b)=decide (a.drop (k+1)=b.drop (k+1)):=by rw[he];simp only[List.cons.injEq,hb,true_and]
   simp[L61_0,I39,List.range,List.range.loop,e0,e1,e5,hk,hk',hkb,hb,wk]
   simpa using he'
  .have he':decide (a=b)=false:=by rw[he];simp only[List.cons.injEq,hb,false_and,decide_false]
   simp[L61_0,Q39,List.range,List.range.loop,e0,e1,e5,hk,hk',hkb,hb]
   simpa using he'
 .rintro⟨s,hh⟩ ⟨rfl,hl,e0,e1,e5,he⟩
  simp only[List.drop_length]at hl e0 e1 e5 he
  rw[show List.drop a.length b=[]by rw[<-hab];exact List.drop_length]at he
  have he':decide (a=b)=true:=by rw[he];rfl
  rw[qae hl]
  simp[L61_0,Q39,List.range,List.range.loop,e0,e1,e5]
  simpa using he'
theorem ev61(a b:List Int)(ha:a.length<=4096):ev pg (.call (.fn 61 [] []) [.imm (a.map qej),.imm (b.map qej)] [])=some { v:=.bool (decide (a=b)),st:=⟨[],[]⟩ }:=by
 by_cases hab:b.length=a.length
 .have hloop:=zwt a b hab ha
  have hab':(b.length:Int)=a.length:=by omega
  unfold Q39 at hloop
  have hI:∀st:St,I39 a b 0 st<->(st.h=[]/\st.s.length=26/\qam st.s 0=.imm (a.map qej)/\qam st.s 1=.imm (b.map qej)/\qam st.s 5=num 0):=fun st=>by
   unfold I39
   exact⟨fun h=>⟨h.1,h.2.1,h.2.2.1,h.2.2.2.1,h.2.2.2.2.1⟩,fun h=>⟨h.1,h.2.1,h.2.2.1,h.2.2.2.1,h.2.2.2.2,rfl⟩⟩
  generalize decide (a=b)=B at *
  rw[qac,pg61]
  simp[ir61,qaf,hab']
  generalize hr:ev pg (.code (.going _ L61_0) _)=o
  obtain⟨r,rfl,hl,hh,hQ⟩:∃r,o=some r/\_:=by
   rw[<-hr]
   exact hloop _ ((hI _).2 ⟨by simp,by simp,by simp,by simp,by simp⟩)
  rcases hQ with⟨hx,rfl⟩ | ⟨hx,h4,rfl⟩
  .simp[hx,hh,hl]
  .simp[hx,h4]
 .have hd:decide (a=b)=false:=by
   rw[decide_eq_false_iff_not]
   intro e
   exact hab (by rw[e])
  have hne:((a.length:Int) != (b.length:Int))=true:=by
   rw[bne_iff_ne];omega
  rw[hd,qac,pg61]
  simp[ir61,hne]
def ztn(x y:Ex)(k:Nat)(st:St):Prop:=st.h=[⟨0,.box x.cells⟩,⟨0,.box y.cells⟩]/\st.s.length=46/\qam st.s 2=.bptr 0 0/\qam st.s 3=.bptr 1 0/\qam st.s 5=num k/\qho x.args y.args=qho (x.args.drop k) (y.args.drop k)
def ztr(x y:Ex)(r:R):Prop:=r.st.s.length=46/\((r.x=.exit 0/\qho x.args y.args=true)\/(r.x=.ret/\qam r.st.s 4=.bool false/\qho x.args y.args=false))
theorem zqx(x y:Ex)(hab:y.args.length=x.args.length)(hl9:x.args.length<=4096)(ih:∀z∈x.args,∀y,ev pg (.call (.fn 206 [] []) [z.v,y.v] [])=some { v:=.bool (z.same y),st:=⟨[],[]⟩ })(st:St)(h0:ztn x y 0 st):∃r,ev pg (.code (.going 2 L206_0) st)=some r/\ztr x y r:=by
 refine qbg (ztn x y) x.args.length (ztr x y) h0 ?_ ?_
 .rintro k ⟨s,hh⟩ hk ⟨rfl,hl,e2,e3,e5,he⟩
  simp only at hl e2 e3 e5
  have hk':(k:Int)<x.args.length:=by omega
  have hkb:k<y.args.length:=by omega
  have wk:=qab (n:=(k:Int)+1) (by omega) (by omega)
  rw[zhw hk hkb]at he
  have hi:=ih x.args[k] (jH hk) y.args[k]
  rw[qae hl]
  cases hb:x.args[k].same y.args[k]with
  | true =>
   rw[hb,Bool.true_and]at he
   rw[hb]at hi
   simp[L206_0,ztn,List.range,List.range.loop,e2,e3,e5,hk,hk',hkb,hi,wk]
   simpa using he
  | false =>
   rw[hb,Bool.false_and]at he
   rw[hb]at hi
   simp[L206_0,ztr,List.range,List.range.loop,e2,e3,e5,hk,hk',hkb,hi]
   simpa using he
 .rintro⟨s,hh⟩ ⟨rfl,hl,e2,e3,e5,he⟩
  simp only[List.drop_length]at hl e2 e3 e5 he
  rw[show List.drop x.args.length y.args=[]by rw[<-hab];exact List.drop_length,qho]at he
  rw[qae hl]
  simp[L206_0,ztr,List.range,List.range.loop,e2,e3,e5]
  simpa using he
theorem ev206_of(x y:Ex)(hl9:x.args.length<=4096)(ih:∀z∈x.args,∀y,ev pg (.call (.fn 206 [] []) [z.v,y.v] [])=some { v:=.bool (z.same y),st:=⟨[],[]⟩ }):ev pg (.call (.fn 206 [] []) [x.v,y.v] [])=some { v:=.bool (x.same y),st:=⟨[],[]⟩ }:=by
 rw[zso]
 rw[qac,pg206]
 by_cases h1:x.op=y.op
 .have n1:(x.op != y.op)=false:=by simpa using h1
  have n1':(x.op==y.op)=true:=by simpa using h1
  by_cases h2:x.idx=y.idx
  .have n2:(x.idx != y.idx)=false:=by simpa using h2
   have n2':(x.idx==y.idx)=true:=by simpa using h2
   by_cases hab:y.args.length=x.args.length
   .have n3:((x.args.length:Int) != (y.args.length:Int))=false:=by rw[hab];simp
    have hloop:=zqx x y hab hl9 ih
    unfold ztr at hloop
    have hI:∀st:St,ztn x y 0 st<->(st.h=[⟨0,.box x.cells⟩,⟨0,.box y.cells⟩]/\st.s.length=46/\qam st.s 2=.bptr 0 0/\qam st.s 3=.bptr 1 0/\qam st.s 5=num 0):=fun st=>by
     unfold ztn
     exact⟨fun h=>⟨h.1,h.2.1,h.2.2.1,h.2.2.2.1,h.2.2.2.2.1⟩,fun h=>⟨h.1,h.2.1,h.2.2.1,h.2.2.2.1,h.2.2.2.2,rfl⟩⟩
    generalize qho x.args y.args=B at *
    simp[ir206,n1,n2,n3,n1',n2',qaf]
    generalize hr:ev pg (.code (.going _ L206_0) _)=o
    obtain⟨r,rfl,hl,hQ⟩:∃r,o=some r/\_:=by
     rw[<-hr]
     exact hloop _ ((hI _).2 ⟨by simp,by simp,by simp,by simp,by simp⟩)
    rcases hQ with⟨hx,rfl⟩ | ⟨hx,h4,rfl⟩
    .simp[hx,hl]
    .simp[hx,h4]
   .have n3:((x.args.length:Int) != (y.args.length:Int))=true:=by rw[bne_iff_ne];omega
    have hd:qho x.args y.args=false:=by
     rw[<-Bool.not_eq_true]
     intro e
     exact hab (q0p e)
    rw[hd]
    simp[ir206,n1,n2,n3]
  .have n2:(x.idx != y.idx)=true:=by simpa using h2
   have n2':(x.idx==y.idx)=false:=by simpa using h2
   simp[ir206,n1,n2,n2']
 .have n1:(x.op != y.op)=true:=by simpa using h1
  have n1':(x.op==y.op)=false:=by simpa using h1
  simp[ir206,n1,n1']
theorem ev206:∀x:Ex,x.nodes<=256->∀y:Ex,ev pg (.call (.fn 206 [] []) [x.v,y.v] [])=some { v:=.bool (x.same y),st:=⟨[],[]⟩ }:=by
 refine Ex.ind fun x ih hx y=>?_
 exact ev206_of x y (by have:=qer hx;omega) fun z hz y=>ih z hz (qee hx hz) y
theorem ev132(x y:Ex)(hx:x.light=true)(hy:y.light=true):ev pg (.call (.fn 132 [] []) [x.v,y.v] [])=some { v:=.bool (x.same y),st:=⟨[],[]⟩ }:=by
 have h1:=ev82 x
 have h2:=ev82 y
 have h3:=ev206 x (qcs hx).1 y
 rw[hx]at h1
 rw[hy]at h2
 generalize x.same y=B at *
 rw[qac,pg132]
 simp[ir132,h1,h2,h3]
set_option maxHeartbeats 1000000 in
theorem ev60(a b:Sg)(ha:a.on.light=true/\a.off.light=true)(hb:b.on.light=true/\b.off.light=true):ev pg (.call (.fn 60 [] []) [.agg a.row,.agg b.row] [])=some { v:=.bool (q2x a b),st:=⟨[],[]⟩ }:=by
 have h1:=ev132 a.on b.on ha.1 hb.1
 have h2:=ev132 a.off b.off ha.2 hb.2
 unfold q2x
 generalize a.on.same b.on=B at *
 generalize a.off.same b.off=D at *
 rw[qac,pg60]
 by_cases e1:a.name=b.name
 .have n1:(a.name==b.name)=true:=by simpa using e1
  by_cases e2:a.kind=b.kind
  .have n2:(a.kind==b.kind)=true:=by simpa using e2
   cases B
   .simp[ir60,n1,n2,h1]
   .cases D
    .simp[ir60,n1,n2,h1,h2]
    .by_cases e3:a.delay=b.delay
     .have n3:(a.delay==b.delay)=true:=by simpa using e3
      simp[ir60,n1,n2,n3,h1,h2]
     .have n3:(a.delay==b.delay)=false:=by simpa using e3
      simp[ir60,n1,n2,n3,h1,h2]
  .have n2:(a.kind==b.kind)=false:=by simpa using e2
   simp[ir60,n1,n2]
 .have n1:(a.name==b.name)=false:=by simpa using e1
  simp[ir60,n1]
def I12(a b:Ct)(k:Nat)(st:St):Prop:=st.h=[⟨0,.box a.cells⟩,⟨0,.box b.cells⟩]/\st.s.length=59/\qam st.s 2=.bptr 0 0/\qam st.s 3=.bptr 1 0/\qam st.s 5=num k/\qge a.signals b.signals=qge (a.signals.drop k) (b.signals.drop k)
def Q12(a b:Ct)(r:R):Prop:=r.st.s.length=59/\((r.x=.exit 0/\r.st.h=[⟨0,.box a.cells⟩,⟨0,.box b.cells⟩]/\qam r.st.s 2=.bptr 0 0/\qam r.st.s 3=.bptr 1 0/\qge a.signals b.signals=true)\/(r.x=.ret/\qam r.st.s 4=.bool false/\qge a.signals b.signals=false))
theorem zwq(a b:Ct)(hab:b.signals.length=a.signals.length)(hl9:a.signals.length<=4096)(ha:∀x∈a.signals,x.on.light=true/\x.off.light=true)(hb:∀x∈b.signals,x.on.light=true/\x.off.light=true)(st:St)(h0:I12 a b 0 st):∃r,ev pg (.code (.going 2 L21_0) st)=some r/\Q12 a b r:=by
 refine qbg (I12 a b) a.signals.length (Q12 a b) h0 ?_ ?_
 .rintro k ⟨s,hh⟩ hk ⟨rfl,hl,e2,e3,e5,he⟩
  simp only at hl e2 e3 e5
  have hk':(k:Int)<a.signals.length:=by omega
  have hkb:k<b.signals.length:=by omega
  have wk:=qab (n:=(k:Int)+1) (by omega) (by omega)
  rw[zdf hk hkb]at he
  have hi:=ev60 a.signals[k] b.signals[k] (ha _ (jH hk)) (hb _ (jH hkb))
  rw[qae hl]
  cases hb:q2x a.signals[k] b.signals[k]with
  | true =>
   rw[hb,Bool.true_and]at he
   rw[hb]at hi
   simp[L21_0,I12,List.range,List.range.loop,e2,e3,e5,hk,hk',hkb,hi,wk]
   simpa using he
  | false =>
   rw[hb,Bool.false_and]at he
   rw[hb]at hi
   simp[L21_0,Q12,List.range,List.range.loop,e2,e3,e5,hk,hk',hkb,hi]
   simpa using he
 .rintro⟨s,hh⟩ ⟨rfl,hl,e2,e3,e5,he⟩
  simp only[List.drop_length]at hl e2 e3 e5 he
  rw[show List.drop a.signals.length b.signals=[]by rw[<-hab];exact List.drop_length,qge]at he
  rw[qae hl]
  simp[L21_0,Q12,List.range,List.range.loop,e2,e3,e5]
  simpa using he
theorem ev21(a b:Ct)(ha:a.small=true)(hb:b.small=true):ev pg (.call (.fn 21 [] []) [a.v,b.v] [])=some { v:=.bool (zhv a b),st:=⟨[],[]⟩ }:=by
 obtain⟨f1,f2,f3,f4,f5,f6⟩:=qdq ha
 obtain⟨g1,g2,g3,g4,g5,g6⟩:=qdq hb
 have h37:=ev59 a.inputs b.inputs (by omega)
 have h39a:=ev61 a.plus b.plus (by omega)
 have h39b:=ev61 a.minus b.minus (by omega)
 unfold zhv
 generalize decide (a.inputs=b.inputs)=B1 at *
 generalize decide (a.plus=b.plus)=B3 at *
 generalize decide (a.minus=b.minus)=B4 at *
 rw[qac,pg21]
 by_cases e1:a.act=b.act
 .have n1:(a.act != b.act)=false:=by simpa using e1
  have n1':(a.act==b.act)=true:=by simpa using e1
  cases B1
  .simp[ir21,n1,n1',h37]
  .by_cases hab:b.signals.length=a.signals.length
   .have n3:((a.signals.length:Int) != (b.signals.length:Int))=false:=by rw[hab];simp
    have hloop:=zwq a b hab (by omega) (fun x hx=>(f6 x hx).2) (fun x hx=>(g6 x hx).2)
    unfold Q12 at hloop
    have hI:∀st:St,I12 a b 0 st<->(st.h=[⟨0,.box a.cells⟩,⟨0,.box b.cells⟩]/\st.s.length=59/\qam st.s 2=.bptr 0 0/\qam st.s 3=.bptr 1 0/\qam st.s 5=num 0):=fun st=>by
     unfold I12
     exact⟨fun h=>⟨h.1,h.2.1,h.2.2.1,h.2.2.2.1,h.2.2.2.2.1⟩,fun h=>⟨h.1,h.2.1,h.2.2.1,h.2.2.2.1,h.2.2.2.2,rfl⟩⟩
    generalize qge a.signals b.signals=B2 at *
    simp[ir21,n1,n1',n3,h37,qaf]
    generalize hr:ev pg (.code (.going _ L21_0) _)=o
    obtain⟨r,rfl,hl,hQ⟩:∃r,o=some r/\_:=by
     rw[<-hr]
     exact hloop _ ((hI _).2 ⟨by simp,by simp,by simp,by simp,by simp⟩)
    rcases hQ with⟨hx,hh,k2,k3,rfl⟩ | ⟨hx,h4,rfl⟩
    .cases B3
     .simp[hx,hh,hl,k2,k3,h39a]
     .simp[hx,hh,hl,k2,k3,h39a,h39b]
    .simp[hx,h4]
   .have n3:((a.signals.length:Int) != (b.signals.length:Int))=true:=by rw[bne_iff_ne];omega
    have hd:qge a.signals b.signals=false:=by
     rw[<-Bool.not_eq_true]
     intro e
     exact hab (by rw[qpb.1 e])
    rw[hd]
    simp[ir21,n1,n1',n3,h37]
 .have n1:(a.act != b.act)=true:=by simpa using e1
  have n1':(a.act==b.act)=false:=by simpa using e1
  simp[ir21,n1,n1']
end Go.Proofs.YtddeacahiilikaaGreat
