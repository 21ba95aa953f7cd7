/- States: right, by the program. -/
import Derived.Test.YtbepbclaoohngaaGreatCSa1
import Derived.Test.YtbepbclaoohngaaGreatCPi1
set_option linter.all false
namespace Go.Proofs.YtbepbclaoohngaaGreat
open Go Go.Am Go.Proofs
set_option maxRecDepth 100000
def Ste.few(s:Ste):Bool:=decide (s.ends.length<=40)&&decide (s.valves.length<=40)&&decide (s.inputs.length<=200)&&decide (s.values.length<=200)&&decide (s.timers.length<=200)
def qhh(a b:Ste):Bool:=decide (a.ends=b.ends)&&(decide (a.valves=b.valves)&&(decide (a.inputs=b.inputs)&&(decide (a.values=b.values)&&decide (a.timers=b.timers))))
theorem qgr{a b:Ste}:qhh a b=true<->a=b:=by
 cases a;cases b
 simp[qhh]
structure Ste.small(s:Ste):Prop where
 e:s.ends.length<=4096
 w:s.valves.length<=4096
 i:s.inputs.length<=4096
 v:s.values.length<=4096
 t:s.timers.length<=4096
theorem ev97(a b:Ste)(ha:a.small):ev pg (.call (.fn 97 [] []) [a.v,b.v] [])=some { v:=.bool (qhh a b),st:=⟨[],[]⟩ }:=by
 have h1:=ev158 a.ends b.ends ha.e
 have h2:=ev159 a.valves b.valves ha.w
 have h3:=ev159 a.inputs b.inputs ha.i
 have h4:=ev159 a.values b.values ha.v
 have h5:=ev158 a.timers b.timers ha.t
 rw[qaa,pg97]
 unfold qhh
 generalize decide (a.ends=b.ends)=b1 at *
 generalize decide (a.valves=b.valves)=b2 at *
 generalize decide (a.inputs=b.inputs)=b3 at *
 generalize decide (a.values=b.values)=b4 at *
 cases b1 with
 | false=>simp[ir97,h1]
 | true=>cases b2 with
  | false=>simp[ir97,h1,h2]
  | true=>cases b3 with
   | false=>simp[ir97,h1,h2,h3]
   | true=>cases b4 with
    | false=>simp[ir97,h1,h2,h3,h4]
    | true=>simp[ir97,h1,h2,h3,h4,h5]
def tmB(kind:Int)(v:Bool)(t:Int):Bool:=(!decide (kind=2)&&decide (t≠0))||(decide (kind=2)&&(v != (t==2)))
def tmF(c:Ct)(s:Ste)(k:Nat):Bool:=tmB ((c.signals[k]?).map Sg.kind |>.getD 0) ((s.values[k]?).getD false) ((s.timers[k]?).getD 0)
def zpo(p:Nat->Bool)(n:Nat):Bool:=(List.range n).any p
theorem q1l{p:Nat->Bool}{n k:Nat}(hk:k<n)(h:p k=true):zpo p n=true:=by
 unfold zpo;rw[List.any_eq_true];exact⟨k,List.mem_range.2 hk,h⟩
theorem qut{p:Nat->Bool}{n:Nat}(h:∀j,j<n->p j=false):zpo p n=false:=by
 unfold zpo;rw[List.any_eq_false];intro k hk;rw[h k (List.mem_range.1 hk)];simp
theorem zpp{p:Int->Bool}{l:List Int}{k:Nat}(hk:k<l.length)(h:p l[k]=true):l.any p=true:=by
 rw[List.any_eq_true];exact⟨_,jH hk,h⟩
theorem zfg{p:Int->Bool}{l:List Int}(h:∀j (hj:j<l.length),p l[j]=false):l.any p=false:=by
 rw[List.any_eq_false]
 intro x hx
 obtain⟨j,hj,rfl⟩:=List.getElem_of_mem hx
 rw[h j hj];simp
structure Shp(c:Ct)(s:Ste):Prop where
 e:(s.ends.length:Int)=c.act
 w:(s.valves.length:Int)=c.act
 i:s.inputs.length=c.inputs.length
 v:s.values.length=c.signals.length
 t:s.timers.length=c.signals.length
instance(c:Ct)(s:Ste):Decidable (Shp c s) :=
 if h:(s.ends.length:Int)=c.act/\(s.valves.length:Int)=c.act/\s.inputs.length=c.inputs.length/\s.values.length=c.signals.length/\s.timers.length=c.signals.length then .isTrue ⟨h.1,h.2.1,h.2.2.1,h.2.2.2.1,h.2.2.2.2⟩
 else .isFalse fun a=>h ⟨a.e,a.w,a.i,a.v,a.t⟩
def zcp(c:Ct)(s:Ste):Int:=if Shp c s then(if s.ends.any (qgh 4)=true\/s.timers.any (qgh 3)=true then 1 else if zpo (tmF c s) s.timers.length=true then 14 else 0)else 8
abbrev h49(c:Ct)(s:Ste):H:=[⟨0,.box c.cells⟩,⟨0,.box s.cells⟩]
def T49(l:List (Option V))(n:Nat):Tm:=[none,none,bN 0,bN 1,nN 0]++l++List.replicate n none
def zem(e:Int):Tm:=[none,none,none,none,nN e]++zN 128
theorem zuy(c:Ct)(s:Ste)(hs:s.small){st:St}(h0:At (T49 [some (num 0)] 127) (h49 c s) st):∃r,ev pg (.code (.going 2 L241_0) st)=some r/\qma s.ends.length (fun k=>qgh 4 ((s.ends[k]?).getD 0)) (fun _=>qas .ret (zem 1) (h49 c s)) (qas (.exit 0) (T49 [] 128) (h49 c s)) r:=by
 have hse:=hs.e
 refine qce _ _ (fun k=>T49 [some (num k)] 127) (h49 c s) _ _ ?_ ?_ ?_ h0
 .intro k f hf hk hp
  have hk':(k:Int)<s.ends.length:=by omega
  have wk:=qbb (k:=k) (by omega)
  have hp':¬s.ends[k]<0/\¬4<=s.ends[k]:=by simpa[qgh,hk]using hp
  simp[T49,L241_0,hk,hk',hp',wk,hf.ne]
 .intro k f hf hk hp
  have hk':(k:Int)<s.ends.length:=by omega
  have hp':s.ends[k]<0\/4<=s.ends[k]:=by simpa[qgh,hk]using hp
  rcases Int.lt_or_le s.ends[k] 0 with h | h
  .simp[T49,zem,L241_0,hk,hk',h,hf.ne]
  .have h1:¬s.ends[k]<0:=by omega
   have h2:4<=s.ends[k]:=by omega
   simp[T49,zem,L241_0,hk,hk',h1,h2,hf.ne]
 .intro f hf
  simp[T49,L241_0,hf.ne]
theorem zuz(c:Ct)(s:Ste)(hs:s.small){st:St}(h0:At (T49 [none,some (num 0)] 126) (h49 c s) st):∃r,ev pg (.code (.going 2 L241_1) st)=some r/\qma s.timers.length (fun k=>qgh 3 ((s.timers[k]?).getD 0)) (fun _=>qas .ret (zem 1) (h49 c s)) (qas (.exit 2) (T49 [] 128) (h49 c s)) r:=by
 have hse:=hs.t
 refine qce _ _ (fun k=>T49 [none,some (num k)] 126) (h49 c s) _ _ ?_ ?_ ?_ h0
 .intro k f hf hk hp
  have hk':(k:Int)<s.timers.length:=by omega
  have wk:=qbb (k:=k) (by omega)
  have hp':¬s.timers[k]<0/\¬3<=s.timers[k]:=by simpa[qgh,hk]using hp
  simp[T49,L241_1,hk,hk',hp',wk,hf.ne]
 .intro k f hf hk hp
  have hk':(k:Int)<s.timers.length:=by omega
  have hp':s.timers[k]<0\/3<=s.timers[k]:=by simpa[qgh,hk]using hp
  rcases Int.lt_or_le s.timers[k] 0 with h | h
  .simp[T49,zem,L241_1,hk,hk',h,hf.ne]
  .have h1:¬s.timers[k]<0:=by omega
   have h2:3<=s.timers[k]:=by omega
   simp[T49,zem,L241_1,hk,hk',h1,h2,hf.ne]
 .intro f hf
  simp[T49,L241_1,hf.ne]
theorem zva(c:Ct)(s:Ste)(hs:s.small)(hS:Shp c s){st:St}(h0:At (T49 [none,none,some (num 0)] 125) (h49 c s) st):∃r,ev pg (.code (.going 2 L241_2) st)=some r/\qma s.timers.length (tmF c s) (fun _=>qas .ret (zem 14) (h49 c s)) (qas (.exit 4) (T49 [] 128) (h49 c s)) r:=by
 have hse:=hs.t
 have hv:=hS.v
 have ht:=hS.t
 refine qce _ _ (fun k=>T49 [none,none,some (num k)] 125) (h49 c s) _ _ ?_ ?_ ?_ h0
 .intro k f hf hk hp
  have hk':(k:Int)<s.timers.length:=by omega
  have hkv:k<s.values.length:=by omega
  have hkc:k<c.signals.length:=by omega
  have wk:=qbb (k:=k) (by omega)
  have hp':tmB c.signals[k].kind s.values[k] s.timers[k]=false:=by simpa[tmF,hk,hkv,hkc]using hp
  simp[tmB]at hp'
  by_cases h2:c.signals[k].kind=2
  .have hq:=hp'.2 h2
   simp[T49,L241_2,hk,hk',hkv,hkc,h2,hq,wk,hf.ne]
  .have h0:=hp'.1 h2
   have h2b:(c.signals[k].kind==2)=false:=by simpa using h2
   simp[T49,L241_2,hk,hk',hkv,hkc,h2b,h0,wk,hf.ne]
 .intro k f hf hk hp
  have hk':(k:Int)<s.timers.length:=by omega
  have hkv:k<s.values.length:=by omega
  have hkc:k<c.signals.length:=by omega
  have hp':tmB c.signals[k].kind s.values[k] s.timers[k]=true:=by simpa[tmF,hk,hkv,hkc]using hp
  simp[tmB]at hp'
  by_cases h2:c.signals[k].kind=2
  .have hq:¬s.values[k]=(s.timers[k]==2):=by simpa[h2]using hp'
   simp[T49,zem,L241_2,hk,hk',hkv,hkc,h2,hq,hf.ne]
  .have h0:(s.timers[k] != 0)=true:=by simpa[h2]using hp'
   have h2b:(c.signals[k].kind==2)=false:=by simpa using h2
   simp[T49,zem,L241_2,hk,hk',hkv,hkc,h2b,h0,hf.ne]
 .intro f hf
  simp[T49,L241_2,hf.ne]
theorem zkc{c:Ct}{s:Ste}(h:¬Shp c s):((s.ends.length:Int) != c.act||((s.valves.length:Int) != c.act||((s.inputs.length:Int) != (c.inputs.length:Int)||((s.values.length:Int) != (c.signals.length:Int)||((s.timers.length:Int) != (c.signals.length:Int))))))=true:=by
 simp only[Bool.or_eq_true,bne_iff_ne]
 by_cases h1:(s.ends.length:Int)=c.act
 .by_cases h2:(s.valves.length:Int)=c.act
  .by_cases h3:(s.inputs.length:Int)=c.inputs.length
   .by_cases h4:(s.values.length:Int)=c.signals.length
    .by_cases h5:(s.timers.length:Int)=c.signals.length
     .exact absurd ⟨h1,h2,by omega,by omega,by omega⟩ h
     .simp[h5]
    .simp[h4]
   .simp[h3]
  .simp[h2]
 .simp[h1]
theorem ev241(c:Ct)(s:Ste)(hs:s.small):ev pg (.call (.fn 241 [] []) [c.v,s.v] [])=some { v:=num (zcp c s),st:=⟨[],[]⟩ }:=by
 rw[qaa,pg241]
 by_cases hS:Shp c s
 .have hla:=@zuy c s hs
  have hlb:=@zuz c s hs
  have hlc:=@zva c s hs hS
  have e1:((s.ends.length:Int) != c.act)=false:=by simp[hS.e]
  have e2:((s.valves.length:Int) != c.act)=false:=by simp[hS.w]
  have e3:((s.inputs.length:Int) != (c.inputs.length:Int))=false:=by simp[hS.i]
  have e4:((s.values.length:Int) != (c.signals.length:Int))=false:=by simp[hS.v]
  have e5:((s.timers.length:Int) != (c.signals.length:Int))=false:=by simp[hS.t]
  unfold zcp
  rw[if_pos hS]
  generalize hB1:s.ends.any (qgh 4)=B1
  generalize hB2:s.timers.any (qgh 3)=B2
  generalize hB3:zpo (tmF c s) s.timers.length=B3
  simp[ir241,qah,e1,e2,e3,e4,e5]
  generalize hr:ev pg (.code (.going _ L241_0) _)=o
  obtain⟨r,rfl,hQ⟩:∃r,o=some r/\_:=by rw[<-hr];exact hla (by simp[T49])
  rcases hQ with⟨k,hk,hp,-,f,hf,rfl⟩ | ⟨hp,f,hf,rfl⟩
  .obtain rfl:B1=true:=by rw[<-hB1];exact zpp hk (by simpa[hk]using hp)
   simp[zem]
  .obtain rfl:B1=false:=by rw[<-hB1];exact zfg fun j hj=>by simpa[hj]using hp j hj
   simp[T49,hf.ne,qah]
   generalize hr:ev pg (.code (.going _ L241_1) _)=o
   obtain⟨r,rfl,hQ⟩:∃r,o=some r/\_:=by rw[<-hr];exact hlb (by simp[T49,hf.ne])
   rcases hQ with⟨k,hk,hp,-,f,hf,rfl⟩ | ⟨hp,f,hf,rfl⟩
   .obtain rfl:B2=true:=by rw[<-hB2];exact zpp hk (by simpa[hk]using hp)
    simp[zem]
   .obtain rfl:B2=false:=by rw[<-hB2];exact zfg fun j hj=>by simpa[hj]using hp j hj
    simp[T49,hf.ne,qah]
    generalize hr:ev pg (.code (.going _ L241_2) _)=o
    obtain⟨r,rfl,hQ⟩:∃r,o=some r/\_:=by rw[<-hr];exact hlc (by simp[T49,hf.ne])
    rcases hQ with⟨k,hk,hp,-,f,hf,rfl⟩ | ⟨hp,f,hf,rfl⟩
    .obtain rfl:B3=true:=by rw[<-hB3];exact q1l hk hp
     simp[zem]
    .obtain rfl:B3=false:=by rw[<-hB3];exact qut hp
     simp[T49]
 .have hn:=zkc hS
  unfold zcp
  rw[if_neg hS]
  generalize e1:((s.ends.length:Int) != c.act)=b1 at hn
  generalize e2:((s.valves.length:Int) != c.act)=b2 at hn
  generalize e3:((s.inputs.length:Int) != (c.inputs.length:Int))=b3 at hn
  generalize e4:((s.values.length:Int) != (c.signals.length:Int))=b4 at hn
  generalize e5:((s.timers.length:Int) != (c.signals.length:Int))=b5 at hn
  cases b1 with
  | true=>simp[ir241,e1]
  | false=>cases b2 with
   | true=>simp[ir241,e1,e2]
   | false=>cases b3 with
    | true=>simp[ir241,e1,e2,e3]
    | false=>cases b4 with
     | true=>simp[ir241,e1,e2,e3,e4]
     | false=>cases b5 with
      | true=>simp[ir241,e1,e2,e3,e4,e5]
      | false=>simp at hn
theorem ev193(c:Ct)(s:Ste)(hfew:c.small=true)(hs:s.small):ev pg (.call (.fn 193 [] []) [c.v,s.v] [])=some { v:=num (if c.check=0 then zcp c s else c.check),st:=⟨[],[]⟩ }:=by
 have h1:=ev71 c hfew
 have h2:=ev241 c s hs
 rw[qaa,pg193]
 generalize c.check=e at *
 by_cases he:e=0
 .subst he
  simp[ir193,h1,h2]
 .simp[ir193,h1,he]
theorem ev256{h:H}{i:Nat}{m:Int}(hi:h[i]?=some ⟨0,.box [num m]⟩)(hcl:calm h)(n:Int):ev pg (.call (.fn 256 [] [.bptr i 0]) [num n] h)=some { v:=.bool (qgh m n),st:=⟨[],h⟩ }:=by
 have hck:=qgk hcl
 rw[qaa,pg256]
 unfold qgh
 by_cases h1:n<0
 .simp[-qea,ir256,h1,hck]
 .simp[-qea,ir256,h1,hi,hck]
theorem ev255(n:Int)(h:H):ev pg (.call (.fn 255 [] []) [num n] h)=some { v:=.fn 256 [] [.bptr h.length 0],st:=⟨[],h++[⟨0,.box [num n]⟩]⟩ }:=by
 rw[qaa,pg255]
 simp[ir255]
abbrev zzt(c:Ct)(s:Ste):H:=[⟨0,.box c.cells⟩,⟨0,.box s.cells⟩,⟨0,.box [num 4]⟩,⟨0,.box [num 3]⟩]
def T79(c:Ct)(s:Ste)(k:Nat):Tm:=[none,none,bN 0,bN 1]++zN 59++[some (qeh s.timers),some (num s.timers.length),nN k]++zN 31
def z4k:Tm:=[none,none,none,none,nN 14]++zN 92
theorem z0g(c:Ct)(s:Ste)(hs:s.small)(hS:Shp c s){st:St}(h0:At (T79 c s 0) (zzt c s) st):∃r,ev pg (.code (.going 4 L218_0) st)=some r/\qma s.timers.length (tmF c s) (fun _=>qas .ret z4k (zzt c s)) (qas (.exit 0) (T79 c s s.timers.length) (zzt c s)) r:=by
 have hse:=hs.t
 have hv:=hS.v
 have ht:=hS.t
 refine qce _ _ (T79 c s) (zzt c s) _ _ ?_ ?_ ?_ h0
 .intro k f hf hk hp
  have hk':(k:Int)<s.timers.length:=by omega
  have hkv:k<s.values.length:=by omega
  have hkc:k<c.signals.length:=by omega
  have wk:=qbb (k:=k) (by omega)
  have hp':tmB c.signals[k].kind s.values[k] s.timers[k]=false:=by simpa[tmF,hk,hkv,hkc]using hp
  simp[tmB]at hp'
  by_cases h2:c.signals[k].kind=2
  .have hq:=hp'.2 h2
   simp[T79,L218_0,hk,hk',hkv,hkc,h2,hq,wk,hf.ne]
  .have h0:=hp'.1 h2
   have h2b:(c.signals[k].kind==2)=false:=by simpa using h2
   simp[T79,L218_0,hk,hk',hkv,hkc,h2b,h0,wk,hf.ne]
 .intro k f hf hk hp
  have hk':(k:Int)<s.timers.length:=by omega
  have hkv:k<s.values.length:=by omega
  have hkc:k<c.signals.length:=by omega
  have hp':tmB c.signals[k].kind s.values[k] s.timers[k]=true:=by simpa[tmF,hk,hkv,hkc]using hp
  simp[tmB]at hp'
  by_cases h2:c.signals[k].kind=2
  .have hq:¬s.values[k]=(s.timers[k]==2):=by simpa[h2]using hp'
   simp[T79,z4k,L218_0,hk,hk',hkv,hkc,h2,hq,hf.ne]
  .have h0:(s.timers[k] != 0)=true:=by simpa[h2]using hp'
   have h2b:(c.signals[k].kind==2)=false:=by simpa using h2
   simp[T79,z4k,L218_0,hk,hk',hkv,hkc,h2b,h0,hf.ne]
 .intro f hf
  simp[T79,L218_0,hf.ne]
theorem ev218(c:Ct)(s:Ste)(hs:s.small):ev pg (.call (.fn 218 [] []) [c.v,s.v] [])=some { v:=num (zcp c s),st:=⟨[],[]⟩ }:=by
 rw[qaa,pg218]
 by_cases hS:Shp c s
 .have hl:=@z0g c s hs hS
  have e1:((s.ends.length:Int) != c.act)=false:=by simp[hS.e]
  have e2:((s.valves.length:Int) != c.act)=false:=by simp[hS.w]
  have e3:((s.inputs.length:Int) != (c.inputs.length:Int))=false:=by simp[hS.i]
  have e4:((s.values.length:Int) != (c.signals.length:Int))=false:=by simp[hS.v]
  have e5:((s.timers.length:Int) != (c.signals.length:Int))=false:=by simp[hS.t]
  have m4:=ev255 4 (h49 c s)
  have m3:=ev255 3 [⟨0,.box c.cells⟩,⟨0,.box s.cells⟩,⟨0,.box [num 4]⟩]
  have a4:=ev213 (f:=256) (caps:=[.bptr 2 0]) (h:=[⟨0,.box c.cells⟩,⟨0,.box s.cells⟩,⟨0,.box [num 4]⟩]) (l:=s.ends) (p:=qgh 4) hs.e rfl rfl (ev256 (by rfl) (by simp[calm])) (by simp[calm])
  have a3:=ev213 (f:=256) (caps:=[.bptr 3 0]) (h:=zzt c s) (l:=s.timers) (p:=qgh 3) hs.t rfl rfl (ev256 (by rfl) (by simp[calm])) (by simp[calm])
  unfold zcp
  rw[if_pos hS]
  generalize s.ends.any (qgh 4)=b1 at *
  generalize s.timers.any (qgh 3)=b2 at *
  generalize hB3:zpo (tmF c s) s.timers.length=B3
  cases b1 with
  | true=>simp[qab,exT,qak,ir218,e1,e2,e3,e4,e5,m4,a4]
  | false=>cases b2 with
   | true=>simp[qab,exT,qak,ir218,e1,e2,e3,e4,e5,m4,a4,m3,a3]
   | false =>
    simp[qab,exT,qak,ir218,qah,e1,e2,e3,e4,e5,m4,a4,m3,a3]
    generalize hr:ev pg (.code (.going _ L218_0) _)=o
    obtain⟨r,rfl,hQ⟩:∃r,o=some r/\_:=by rw[<-hr];exact hl (by simp[T79])
    rcases hQ with⟨k,hk,hp,-,f,hf,rfl⟩ | ⟨hp,f,hf,rfl⟩
    .obtain rfl:B3=true:=by rw[<-hB3];exact q1l hk hp
     simp[z4k]
    .obtain rfl:B3=false:=by rw[<-hB3];exact qut hp
     simp[T79]
 .have hn:=zkc hS
  unfold zcp
  rw[if_neg hS]
  generalize e1:((s.ends.length:Int) != c.act)=b1 at hn
  generalize e2:((s.valves.length:Int) != c.act)=b2 at hn
  generalize e3:((s.inputs.length:Int) != (c.inputs.length:Int))=b3 at hn
  generalize e4:((s.values.length:Int) != (c.signals.length:Int))=b4 at hn
  generalize e5:((s.timers.length:Int) != (c.signals.length:Int))=b5 at hn
  cases b1 with
  | true=>simp[ir218,e1]
  | false=>cases b2 with
   | true=>simp[ir218,e1,e2]
   | false=>cases b3 with
    | true=>simp[ir218,e1,e2,e3]
    | false=>cases b4 with
     | true=>simp[ir218,e1,e2,e3,e4]
     | false=>cases b5 with
      | true=>simp[ir218,e1,e2,e3,e4,e5]
      | false=>simp at hn
abbrev stE(c:Ct)(s:Ste):Int:=if c.check=0 then zcp c s else c.check
theorem ev147(c:Ct)(s:Ste)(hfew:c.small=true)(hs:s.small):ev pg (.call (.fn 147 [] []) [c.v,s.v] [])=some { v:=num (stE c s),st:=⟨[],[]⟩ }:=by
 have h1:=ev87 c hfew
 have h2:=ev218 c s hs
 rw[qaa,pg147]
 unfold stE
 generalize c.check=e at *
 by_cases he:e=0
 .subst he
  simp[ir147,h1,h2]
 .simp[ir147,h1,he]
end Go.Proofs.YtbepbclaoohngaaGreat
