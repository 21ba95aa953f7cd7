/- States: few, equal, right, by the reference. -/
import Derived.Test.YtbepbclaoohngaaGreatVSa1
set_option linter.all false
namespace Go.Proofs.YtbepbclaoohngaaGreat
open Go Go.Am Go.Proofs
set_option maxRecDepth 100000
def Ste.few(s:Ste):Bool:=decide (s.ends.length<=40)&&decide (s.valves.length<=40)&&decide (s.inputs.length<=200)&&decide (s.values.length<=200)&&decide (s.timers.length<=200)
theorem zby{s:Ste}(h:s.few=true):s.ends.length<=40/\s.valves.length<=40/\s.inputs.length<=200/\s.values.length<=200/\s.timers.length<=200:=by
 simp only[Ste.few,jE,jW]at h
 exact⟨h.1.1.1.1,h.1.1.1.2,h.1.1.2,h.1.2,h.2⟩
theorem ev73(s:Ste):ev pg (.call (.fn 73 [] []) [s.v] [])=some { v:=.bool s.few,st:=⟨[],[]⟩ }:=by
 rw[qaa,pg73]
 unfold Ste.few
 by_cases h1:s.ends.length<=40
 .have g1:(s.ends.length:Int)<=40:=by omega
  by_cases h2:s.valves.length<=40
  .have g2:(s.valves.length:Int)<=40:=by omega
   by_cases h3:s.inputs.length<=200
   .have g3:(s.inputs.length:Int)<=200:=by omega
    by_cases h4:s.values.length<=200
    .have g4:(s.values.length:Int)<=200:=by omega
     by_cases h5:s.timers.length<=200
     .have g5:(s.timers.length:Int)<=200:=by omega
      simp[ir73,h1,h2,h3,h4,h5,g1,g2,g3,g4,g5]
     .have g5:¬(s.timers.length:Int)<=200:=by omega
      simp[ir73,h1,h2,h3,h4,h5,g1,g2,g3,g4,g5]
    .have g4:¬(s.values.length:Int)<=200:=by omega
     simp[ir73,h1,h2,h3,h4,g1,g2,g3,g4]
   .have g3:¬(s.inputs.length:Int)<=200:=by omega
    simp[ir73,h1,h2,h3,g1,g2,g3]
  .have g2:¬(s.valves.length:Int)<=40:=by omega
   simp[ir73,h1,h2,g1,g2]
 .have g1:¬(s.ends.length:Int)<=40:=by omega
  simp[ir73,h1,g1]
def qhf(a b:Ste):Bool:=decide (a.ends=b.ends)&&(decide (a.valves=b.valves)&&(decide (a.inputs=b.inputs)&&(decide (a.values=b.values)&&decide (a.timers=b.timers))))
theorem qgm{a b:Ste}:qhf a b=true<->a=b:=by
 cases a;cases b
 simp[qhf]
structure Ste.small(s:Ste):Prop where
 e:s.ends.length<=4096
 w:s.valves.length<=4096
 i:s.inputs.length<=4096
 v:s.values.length<=4096
 t:s.timers.length<=4096
theorem qyl{s:Ste}(h:s.few=true):s.small:=by
 obtain⟨h1,h2,h3,h4,h5⟩:=zby h
 exact⟨by omega,by omega,by omega,by omega,by omega⟩
theorem ev97(a b:Ste)(ha:a.small):ev pg (.call (.fn 97 [] []) [a.v,b.v] [])=some { v:=.bool (qhf a b),st:=⟨[],[]⟩ }:=by
 have h1:=ev158 a.ends b.ends ha.e
 have h2:=ev159 a.valves b.valves ha.w
 have h3:=ev159 a.inputs b.inputs ha.i
 have h4:=ev159 a.values b.values ha.v
 have h5:=ev158 a.timers b.timers ha.t
 rw[qaa,pg97]
 unfold qhf
 generalize decide (a.ends=b.ends)=b1 at *
 generalize decide (a.valves=b.valves)=b2 at *
 generalize decide (a.inputs=b.inputs)=b3 at *
 generalize decide (a.values=b.values)=b4 at *
 cases b1 with
 | false=>simp[ir97,h1]
 | true=>cases b2 with
  | false=>simp[ir97,h1,h2]
  | true=>cases b3 with
   | false=>simp[ir97,h1,h2,h3]
   | true=>cases b4 with
    | false=>simp[ir97,h1,h2,h3,h4]
    | true=>simp[ir97,h1,h2,h3,h4,h5]
def tmB(kind:Int)(v:Bool)(t:Int):Bool:=(!decide (kind=2)&&decide (t≠0))||(decide (kind=2)&&(v != (t==2)))
def tmF(c:Ct)(s:Ste)(k:Nat):Bool:=tmB ((c.signals[k]?).map Sg.kind |>.getD 0) ((s.values[k]?).getD false) ((s.timers[k]?).getD 0)
def zor(p:Nat->Bool)(n:Nat):Bool:=(List.range n).any p
theorem q0p{p:Nat->Bool}{n k:Nat}(hk:k<n)(h:p k=true):zor p n=true:=by
 unfold zor;rw[List.any_eq_true];exact⟨k,List.mem_range.2 hk,h⟩
theorem que{p:Nat->Bool}{n:Nat}(h:∀j,j<n->p j=false):zor p n=false:=by
 unfold zor;rw[List.any_eq_false];intro k hk;rw[h k (List.mem_range.1 hk)];simp
theorem zos{p:Int->Bool}{l:List Int}{k:Nat}(hk:k<l.length)(h:p l[k]=true):l.any p=true:=by
 rw[List.any_eq_true];exact⟨_,jH hk,h⟩
theorem zen{p:Int->Bool}{l:List Int}(h:∀j (hj:j<l.length),p l[j]=false):l.any p=false:=by
 rw[List.any_eq_false]
 intro x hx
 obtain⟨j,hj,rfl⟩:=List.getElem_of_mem hx
 rw[h j hj];simp
structure Shp(c:Ct)(s:Ste):Prop where
 e:(s.ends.length:Int)=c.act
 w:(s.valves.length:Int)=c.act
 i:s.inputs.length=c.inputs.length
 v:s.values.length=c.signals.length
 t:s.timers.length=c.signals.length
instance(c:Ct)(s:Ste):Decidable (Shp c s) :=
 if h:(s.ends.length:Int)=c.act/\(s.valves.length:Int)=c.act/\s.inputs.length=c.inputs.length/\s.values.length=c.signals.length/\s.timers.length=c.signals.length then .isTrue ⟨h.1,h.2.1,h.2.2.1,h.2.2.2.1,h.2.2.2.2⟩
 else .isFalse fun a=>h ⟨a.e,a.w,a.i,a.v,a.t⟩
def zbz(c:Ct)(s:Ste):Int:=if Shp c s then(if s.ends.any (qgc 4)=true\/s.timers.any (qgc 3)=true then 1 else if zor (tmF c s) s.timers.length=true then 14 else 0)else 8
abbrev h49(c:Ct)(s:Ste):H:=[⟨0,.box c.cells⟩,⟨0,.box s.cells⟩]
def T49(l:List (Option V))(n:Nat):Tm:=[none,none,bN 0,bN 1,nN 0]++l++List.replicate n none
def zds(e:Int):Tm:=[none,none,none,none,nN e]++zN 128
theorem ztx(c:Ct)(s:Ste)(hs:s.small){st:St}(h0:At (T49 [some (num 0)] 127) (h49 c s) st):∃r,ev pg (.code (.going 2 L241_0) st)=some r/\qkt s.ends.length (fun k=>qgc 4 ((s.ends[k]?).getD 0)) (fun _=>qaq .ret (zds 1) (h49 c s)) (qaq (.exit 0) (T49 [] 128) (h49 c s)) r:=by
 have hse:=hs.e
 refine qby _ _ (fun k=>T49 [some (num k)] 127) (h49 c s) _ _ ?_ ?_ ?_ h0
 .intro k f hf hk hp
  have hk':(k:Int)<s.ends.length:=by omega
  have wk:=qbb (k:=k) (by omega)
  have hp':¬s.ends[k]<0/\¬4<=s.ends[k]:=by simpa[qgc,hk]using hp
  simp[T49,L241_0,hk,hk',hp',wk,hf.ne]
 .intro k f hf hk hp
  have hk':(k:Int)<s.ends.length:=by omega
  have hp':s.ends[k]<0\/4<=s.ends[k]:=by simpa[qgc,hk]using hp
  rcases Int.lt_or_le s.ends[k] 0 with h | h
  .simp[T49,zds,L241_0,hk,hk',h,hf.ne]
  .have h1:¬s.ends[k]<0:=by omega
   have h2:4<=s.ends[k]:=by omega
   simp[T49,zds,L241_0,hk,hk',h1,h2,hf.ne]
 .intro f hf
  simp[T49,L241_0,hf.ne]
theorem zty(c:Ct)(s:Ste)(hs:s.small){st:St}(h0:At (T49 [none,some (num 0)] 126) (h49 c s) st):∃r,ev pg (.code (.going 2 L241_1) st)=some r/\qkt s.timers.length (fun k=>qgc 3 ((s.timers[k]?).getD 0)) (fun _=>qaq .ret (zds 1) (h49 c s)) (qaq (.exit 2) (T49 [] 128) (h49 c s)) r:=by
 have hse:=hs.t
 refine qby _ _ (fun k=>T49 [none,some (num k)] 126) (h49 c s) _ _ ?_ ?_ ?_ h0
 .intro k f hf hk hp
  have hk':(k:Int)<s.timers.length:=by omega
  have wk:=qbb (k:=k) (by omega)
  have hp':¬s.timers[k]<0/\¬3<=s.timers[k]:=by simpa[qgc,hk]using hp
  simp[T49,L241_1,hk,hk',hp',wk,hf.ne]
 .intro k f hf hk hp
  have hk':(k:Int)<s.timers.length:=by omega
  have hp':s.timers[k]<0\/3<=s.timers[k]:=by simpa[qgc,hk]using hp
  rcases Int.lt_or_le s.timers[k] 0 with h | h
  .simp[T49,zds,L241_1,hk,hk',h,hf.ne]
  .have h1:¬s.timers[k]<0:=by omega
   have h2:3<=s.timers[k]:=by omega
   simp[T49,zds,L241_1,hk,hk',h1,h2,hf.ne]
 .intro f hf
  simp[T49,L241_1,hf.ne]
theorem ztz(c:Ct)(s:Ste)(hs:s.small)(hS:Shp c s){st:St}(h0:At (T49 [none,none,some (num 0)] 125) (h49 c s) st):∃r,ev pg (.code (.going 2 L241_2) st)=some r/\qkt s.timers.length (tmF c s) (fun _=>qaq .ret (zds 14) (h49 c s)) (qaq (.exit 4) (T49 [] 128) (h49 c s)) r:=by
 have hse:=hs.t
 have hv:=hS.v
 have ht:=hS.t
 refine qby _ _ (fun k=>T49 [none,none,some (num k)] 125) (h49 c s) _ _ ?_ ?_ ?_ h0
 .intro k f hf hk hp
  have hk':(k:Int)<s.timers.length:=by omega
  have hkv:k<s.values.length:=by omega
  have hkc:k<c.signals.length:=by omega
  have wk:=qbb (k:=k) (by omega)
  have hp':tmB c.signals[k].kind s.values[k] s.timers[k]=false:=by simpa[tmF,hk,hkv,hkc]using hp
  simp[tmB]at hp'
  by_cases h2:c.signals[k].kind=2
  .have hq:=hp'.2 h2
   simp[T49,L241_2,hk,hk',hkv,hkc,h2,hq,wk,hf.ne]
  .have h0:=hp'.1 h2
   have h2b:(c.signals[k].kind==2)=false:=by simpa using h2
   simp[T49,L241_2,hk,hk',hkv,hkc,h2b,h0,wk,hf.ne]
 .intro k f hf hk hp
  have hk':(k:Int)<s.timers.length:=by omega
  have hkv:k<s.values.length:=by omega
  have hkc:k<c.signals.length:=by omega
  have hp':tmB c.signals[k].kind s.values[k] s.timers[k]=true:=by simpa[tmF,hk,hkv,hkc]using hp
  simp[tmB]at hp'
  by_cases h2:c.signals[k].kind=2
  .have hq:¬s.values[k]=(s.timers[k]==2):=by simpa[h2]using hp'
   simp[T49,zds,L241_2,hk,hk',hkv,hkc,h2,hq,hf.ne]
  .have h0:(s.timers[k] != 0)=true:=by simpa[h2]using hp'
   have h2b:(c.signals[k].kind==2)=false:=by simpa using h2
   simp[T49,zds,L241_2,hk,hk',hkv,hkc,h2b,h0,hf.ne]
 .intro f hf
  simp[T49,L241_2,hf.ne]
theorem zjg{c:Ct}{s:Ste}(h:¬Shp c s):((s.ends.length:Int) != c.act||((s.valves.length:Int) != c.act||((s.inputs.length:Int) != (c.inputs.length:Int)||((s.values.length:Int) != (c.signals.length:Int)||((s.timers.length:Int) != (c.signals.length:Int))))))=true:=by
 simp only[Bool.or_eq_true,bne_iff_ne]
 by_cases h1:(s.ends.length:Int)=c.act
 .by_cases h2:(s.valves.length:Int)=c.act
  .by_cases h3:(s.inputs.length:Int)=c.inputs.length
   .by_cases h4:(s.values.length:Int)=c.signals.length
    .by_cases h5:(s.timers.length:Int)=c.signals.length
     .exact absurd ⟨h1,h2,by omega,by omega,by omega⟩ h
     .simp[h5]
    .simp[h4]
   .simp[h3]
  .simp[h2]
 .simp[h1]
theorem ev241(c:Ct)(s:Ste)(hs:s.small):ev pg (.call (.fn 241 [] []) [c.v,s.v] [])=some { v:=num (zbz c s),st:=⟨[],[]⟩ }:=by
 rw[qaa,pg241]
 by_cases hS:Shp c s
 .have hla:=@ztx c s hs
  have hlb:=@zty c s hs
  have hlc:=@ztz c s hs hS
  have e1:((s.ends.length:Int) != c.act)=false:=by simp[hS.e]
  have e2:((s.valves.length:Int) != c.act)=false:=by simp[hS.w]
  have e3:((s.inputs.length:Int) != (c.inputs.length:Int))=false:=by simp[hS.i]
  have e4:((s.values.length:Int) != (c.signals.length:Int))=false:=by simp[hS.v]
  have e5:((s.timers.length:Int) != (c.signals.length:Int))=false:=by simp[hS.t]
  unfold zbz
  rw[if_pos hS]
  generalize hB1:s.ends.any (qgc 4)=B1
  generalize hB2:s.timers.any (qgc 3)=B2
  generalize hB3:zor (tmF c s) s.timers.length=B3
  simp[ir241,qah,e1,e2,e3,e4,e5]
  generalize hr:ev pg (.code (.going _ L241_0) _)=o
  obtain⟨r,rfl,hQ⟩:∃r,o=some r/\_:=by rw[<-hr];exact hla (by simp[T49])
  rcases hQ with⟨k,hk,hp,-,f,hf,rfl⟩ | ⟨hp,f,hf,rfl⟩
  .obtain rfl:B1=true:=by rw[<-hB1];exact zos hk (by simpa[hk]using hp)
   simp[zds]
  .obtain rfl:B1=false:=by rw[<-hB1];exact zen fun j hj=>by simpa[hj]using hp j hj
   simp[T49,hf.ne,qah]
   generalize hr:ev pg (.code (.going _ L241_1) _)=o
   obtain⟨r,rfl,hQ⟩:∃r,o=some r/\_:=by rw[<-hr];exact hlb (by simp[T49,hf.ne])
   rcases hQ with⟨k,hk,hp,-,f,hf,rfl⟩ | ⟨hp,f,hf,rfl⟩
   .obtain rfl:B2=true:=by rw[<-hB2];exact zos hk (by simpa[hk]using hp)
    simp[zds]
   .obtain rfl:B2=false:=by rw[<-hB2];exact zen fun j hj=>by simpa[hj]using hp j hj
    simp[T49,hf.ne,qah]
    generalize hr:ev pg (.code (.going _ L241_2) _)=o
    obtain⟨r,rfl,hQ⟩:∃r,o=some r/\_:=by rw[<-hr];exact hlc (by simp[T49,hf.ne])
    rcases hQ with⟨k,hk,hp,-,f,hf,rfl⟩ | ⟨hp,f,hf,rfl⟩
    .obtain rfl:B3=true:=by rw[<-hB3];exact q0p hk hp
     simp[zds]
    .obtain rfl:B3=false:=by rw[<-hB3];exact que hp
     simp[T49]
 .have hn:=zjg hS
  unfold zbz
  rw[if_neg hS]
  generalize e1:((s.ends.length:Int) != c.act)=b1 at hn
  generalize e2:((s.valves.length:Int) != c.act)=b2 at hn
  generalize e3:((s.inputs.length:Int) != (c.inputs.length:Int))=b3 at hn
  generalize e4:((s.values.length:Int) != (c.signals.length:Int))=b4 at hn
  generalize e5:((s.timers.length:Int) != (c.signals.length:Int))=b5 at hn
  cases b1 with
  | true=>simp[ir241,e1]
  | false=>cases b2 with
   | true=>simp[ir241,e1,e2]
   | false=>cases b3 with
    | true=>simp[ir241,e1,e2,e3]
    | false=>cases b4 with
     | true=>simp[ir241,e1,e2,e3,e4]
     | false=>cases b5 with
      | true=>simp[ir241,e1,e2,e3,e4,e5]
      | false=>simp at hn
theorem ev193(c:Ct)(s:Ste)(hfew:c.small=true)(hs:s.small):ev pg (.call (.fn 193 [] []) [c.v,s.v] [])=some { v:=num (if c.check=0 then zbz c s else c.check),st:=⟨[],[]⟩ }:=by
 have h1:=ev71 c hfew
 have h2:=ev241 c s hs
 rw[qaa,pg193]
 generalize c.check=e at *
 by_cases he:e=0
 .subst he
  simp[ir193,h1,h2]
 .simp[ir193,h1,he]
end Go.Proofs.YtbepbclaoohngaaGreat
