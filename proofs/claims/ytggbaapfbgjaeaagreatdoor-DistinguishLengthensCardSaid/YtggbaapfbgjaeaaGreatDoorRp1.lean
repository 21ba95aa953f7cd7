/- An expression. -/
import Derived.Test.YtggbaapfbgjaeaaGreatDoorPi1
set_option linter.all false
namespace Go.Proofs.YtggbaapfbgjaeaaGreatDoor
open Go Go.Am Go.Proofs
set_option maxRecDepth 100000
theorem ev205{h:H}{a b:Nat}{x y:Int}(ha:h[a]?=some ⟨0,.box [num x]⟩)(hb:h[b]?=some ⟨0,.box [num y]⟩)(hcl:qcp h):ev pg (.call (.fn 205 [] [.bptr a 0,.bptr b 0]) [] h)=some { v:=.agg [num x,num y],st:=⟨[],h⟩ }:=by have ha':=qgy [⟨0,.box [num 0,num 0]⟩] ha;have hb':=qgy [⟨0,.box [num 0,num 0]⟩] hb;have hck:=qey hcl [⟨0,.box [num x,num y]⟩];generalize hn:h.length=N at *;have a0:=z1g hn;rw[qab,pg205.1];simp[-qdw,-getElem?_pos,ir205,hn,a0,ha',hb',hck]
abbrev h72(c:Ct)(k i:Int)(cells:List V)(g m:Nat)(l:List (Int×Int))(t:H):H:=⟨0,.box c.cells⟩ :: ⟨0,.box [num k,num i]⟩ :: ⟨0,.box cells⟩ :: ⟨0,.box (kC 3)⟩ :: kTa (⟨0,.arr 0 []⟩ :: ⟨g,.arr m (l.map zww)⟩ :: t)
structure Keep72(c:Ct)(j:Nat)(st:List V):Prop where
 nn:qas st
 len:st.length=63
 t2:qaj st 2=.bptr 0 0
 t3:qaj st 3=.bptr 1 0
 t5:qaj st 5=.bptr 2 0
 t14:qaj st 14=num c.act
 t15:qaj st 15=num j
def I72(c:Ct)(k i:Int)(cells:List V)(j:Nat)(st:St):Prop:=∃g m,st.h=h72 c k i cells g m (qgq c k i j) []/\(m=2\/m=0)/\Keep72 c j st.s/\qaj st.s 6=.sl 13 g m 0 (qgq c k i j).length
def Q72(c:Ct)(A:Nat)(k i:Int)(cells:List V)(r:R):Prop:=r.x=.exit 0/\∃g m,r.st.h=h72 c k i cells g m (qgq c k i A) []/\r.st.s.length=63/\qaj r.st.s 6=.sl 13 g m 0 (qgq c k i A).length
theorem zsv{c:Ct}{A:Nat}(h:Mid c A)(hp:c.plus.length=A)(hm:c.minus.length=A)(k i:Int)(hk:k=2\/k=3)(t:Txt)(st:St)(h0:I72 c k i [.str t,.bool true,num (qcr k),.nilfn] 0 st):∃r,ev pg (.code (.going 14 L174_0) st)=some r/\Q72 c A k i [.str t,.bool true,num (qcr k),.nilfn] r:=by
 have hA6:=h.hi;have hA:=h.act;refine qaw (I72 c k i [.str t,.bool true,num (qcr k),.nilfn]) A (Q72 c A k i [.str t,.bool true,num (qcr k),.nilfn]) h0 ?_ ?_
 .rintro j ⟨s,hh⟩ hj ⟨g,m,rfl,hm2,⟨hnn,hl,e2,e3,e5,e14,e15⟩,e6⟩;simp only at hl e2 e3 e5 e6 e14 e15;have hnl:∀j,qaj s j ≠ .nils:=qar hnn;have wj:=qbi j;have hj':(j:Int)<c.act:=by omega
  have hlen:=qon c k i j;have hp':j<c.plus.length:=by omega
  have hm':j<c.minus.length:=by omega
  have e0:∀p,pil c k i j=p->qgq c k i (j+1)=qgq c k i j++[p]:=fun p e=>by rw[qxe,e]
  unfold I72;generalize qgq c k i j=l at *;generalize qgq c k i (j+1)=l' at *;have h47:(l.length+1)*16<=140737488355328:=by omega
  have pd:c.plus.getD j 0=c.plus[j]:=by simp[hp']
  have md:c.minus.getD j 0=c.minus[j]:=by simp[hm']
  unfold pil at e0;rw[pd,md,if_pos hk]at e0;generalize qcr k=v at *;rw[qad hl];by_cases b1:c.plus[j]=i
  .by_cases b2:c.minus[j]=i
   .rw[if_pos b1,if_pos b2]at e0;have e0:=e0 _ rfl;simp[L174_0,List.range,List.range.loop,e2,e3,e5,e6,e14,e15,hj',hp',hm',wj,hm2,h47,b1,b2];exact⟨_,_,⟨rfl,rfl,by rw[e0];simp⟩,.inl rfl,⟨by simp[qas,hnl],rfl,rfl,rfl,rfl,rfl,rfl⟩,rfl,rfl,by rw[e0];simp⟩
   .have b2b:(c.minus[j]==i)=false:=by simpa using b2
    rw[if_pos b1,if_neg b2]at e0;have e0:=e0 _ rfl;simp[L174_0,List.range,List.range.loop,e2,e3,e5,e6,e14,e15,hj',hp',hm',wj,hm2,h47,b1,b2b];exact⟨_,_,⟨rfl,rfl,by rw[e0];simp⟩,.inl rfl,⟨by simp[qas,hnl],rfl,rfl,rfl,rfl,rfl,rfl⟩,rfl,rfl,by rw[e0];simp⟩
  .have b1b:(c.plus[j]==i)=false:=by simpa using b1
   by_cases b2:c.minus[j]=i
   .rw[if_neg b1,if_pos b2]at e0;have e0:=e0 _ rfl;simp[L174_0,List.range,List.range.loop,e2,e3,e5,e6,e14,e15,hj',hp',hm',wj,hm2,h47,b1b,b2];exact⟨_,_,⟨rfl,rfl,by rw[e0];simp⟩,.inl rfl,⟨by simp[qas,hnl],rfl,rfl,rfl,rfl,rfl,rfl⟩,rfl,rfl,by rw[e0];simp⟩
   .have b2b:(c.minus[j]==i)=false:=by simpa using b2
    rw[if_neg b1,if_neg b2]at e0;have e0:=e0 _ rfl;simp[L174_0,List.range,List.range.loop,e2,e3,e5,e6,e14,e15,hj',hp',hm',wj,hm2,h47,b1b,b2b];exact⟨_,_,⟨rfl,rfl,by rw[e0];simp⟩,.inl rfl,⟨by simp[qas,hnl],rfl,rfl,rfl,rfl,rfl,rfl⟩,rfl,rfl,by rw[e0];simp⟩
 .rintro⟨s,hh⟩ ⟨g,m,rfl,hm2,⟨hnn,hl,e2,e3,e5,e14,e15⟩,e6⟩;simp only at hl e2 e3 e5 e6 e14 e15;unfold Q72;generalize qgq c k i A=l at *;rw[qad hl];simp[L174_0,List.range,List.range.loop,e2,e3,e5,e6,e14,e15,hA]
def zqi(k:Int):Int×Int:=if k=0 then(0,-1)else if k=1 then(-1,0)else if k=4 then(1,0)else(0,1)
theorem zsw{c:Ct}{A:Nat}(h:Mid c A)(k i:Int)(hk:¬(k=2\/k=3))(t:Txt)(p q:Nat)(hpq:p<12/\q<12)(hpx:∀g m l z,(h72 c k i [.str t,.bool false,num 0,.fn 205 [] [.bptr p 0,.bptr q 0]] g m l z)[p]?=some ⟨0,.box [num (zqi k).1]⟩)(hqy:∀g m l z,(h72 c k i [.str t,.bool false,num 0,.fn 205 [] [.bptr p 0,.bptr q 0]] g m l z)[q]?=some ⟨0,.box [num (zqi k).2]⟩)(st:St)(h0:I72 c k i [.str t,.bool false,num 0,.fn 205 [] [.bptr p 0,.bptr q 0]] 0 st):∃r,ev pg (.code (.going 14 L174_0) st)=some r/\Q72 c A k i [.str t,.bool false,num 0,.fn 205 [] [.bptr p 0,.bptr q 0]] r:=by
 have hA6:=h.hi;have hA:=h.act;have hp14:p<14:=by omega
 have hq14:q<14:=by omega
 have hp15:p<15:=by omega
 have hq15:q<15:=by omega
 refine qaw (I72 c k i [.str t,.bool false,num 0,.fn 205 [] [.bptr p 0,.bptr q 0]]) A (Q72 c A k i [.str t,.bool false,num 0,.fn 205 [] [.bptr p 0,.bptr q 0]]) h0 ?_ ?_
 .rintro j ⟨s,hh⟩ hj ⟨g,m,rfl,hm2,⟨hnn,hl,e2,e3,e5,e14,e15⟩,e6⟩;simp only at hl e2 e3 e5 e6 e14 e15;have hnl:∀j,qaj s j ≠ .nils:=qar hnn;have wj:=qbi j;have hj':(j:Int)<c.act:=by omega
  have hlen:=qon c k i j;have e0:∀p,pil c k i j=p->qgq c k i (j+1)=qgq c k i j++[p]:=fun p e=>by rw[qxe,e]
  have h113:=ev205 (hpx g m (qgq c k i j) [⟨0,.box [num (-1),num (-1)]⟩]) (hqy g m (qgq c k i j) [⟨0,.box [num (-1),num (-1)]⟩]) (by simp[qcp,qbw,hp15,hq15]);unfold I72;generalize qgq c k i j=l at *;generalize qgq c k i (j+1)=l' at *;have h47:(l.length+1)*16<=140737488355328:=by omega
  have hpil:pil c k i j=if(j:Int)=i then((zqi k).1,(zqi k).2)else(-1,-1):=by unfold pil zqi;rw[if_neg hk]
  rw[hpil]at e0;generalize (zqi k).1=x at *;generalize (zqi k).2=y at *;rw[qad hl];by_cases b1:(j:Int)=i
  .rw[if_pos b1]at e0;subst b1;have e0:=e0 _ rfl;simp[L174_0,List.range,List.range.loop,e2,e3,e5,e6,e14,e15,hj',wj,hm2,h47,h113,hp14,hq14];exact⟨_,_,⟨rfl,rfl,by rw[e0];simp⟩,.inl rfl,⟨by simp[qas,hnl],rfl,rfl,rfl,rfl,rfl,rfl⟩,rfl,rfl,by rw[e0];simp⟩
  .have b1b:((j:Int)==i)=false:=by simpa using b1
   rw[if_neg b1]at e0;have e0:=e0 _ rfl;simp[L174_0,List.range,List.range.loop,e2,e3,e5,e6,e14,e15,hj',wj,hm2,h47,b1b,hp14,hq14];exact⟨_,_,⟨rfl,rfl,by rw[e0];simp⟩,.inl rfl,⟨by simp[qas,hnl],rfl,rfl,rfl,rfl,rfl,rfl⟩,rfl,rfl,by rw[e0];simp⟩
 .rintro⟨s,hh⟩ ⟨g,m,rfl,hm2,⟨hnn,hl,e2,e3,e5,e14,e15⟩,e6⟩;simp only at hl e2 e3 e5 e6 e14 e15;unfold Q72;generalize qgq c k i A=l at *;rw[qad hl];simp[L174_0,List.range,List.range.loop,e2,e3,e5,e6,e14,e15,hA]
theorem ev174L{c:Ct}{A:Nat}(h:Mid c A)(hp:c.plus.length=A)(hm:c.minus.length=A)(k i:Int)(hk:k=2\/k=3):ev pg (.call (fnq 174) [c.v,fv k i] [])=some (rvq (qjo (qgq c k i A))):=by
 have h67:=ev169 [⟨0,.box c.cells⟩,⟨0,.box [num k,num i]⟩,⟨0,.box [.str [],.bool false,.int .i64 0,.nilfn]⟩];have hloop:=fun t=>zsv h hp hm k i hk t;have hI:∀cells,∀st:St,(st.h=h72 c k i cells 0 0 [] []/\Keep72 c 0 st.s/\qaj st.s 6=.sl 13 0 0 0 0)->I72 c k i cells 0 st:=fun cells st hst=>by
  refine⟨0,0,?_,.inr rfl,hst.2.1,?_⟩
  .rw[hst.1];rfl
  .rw[hst.2.2];rfl
 unfold Q72 at hloop;generalize qgq c k i A=l at *;rw[qab,pg174.1];rcases hk with rfl | rfl
 .have hloop:=hloop t2t;simp[qaa,exT,qag,ir174,h67,qah];generalize hr:ev pg (.code (.going 14 L174_0) _)=o;obtain⟨r,rfl,hx,g,m,hh,hl,h6⟩:∃r,o=some r/\_:=by
   rw[<-hr];exact hloop _ (hI _ _ ⟨by simp[qcr],⟨by simp[qas],by simp,by simp,by simp,by simp,by simp,by simp⟩,by simp⟩)
  simp[hx,hh,hl,h6]
 .have hloop:=hloop t3t;simp[qaa,exT,qag,ir174,h67,qah];generalize hr:ev pg (.code (.going 14 L174_0) _)=o;obtain⟨r,rfl,hx,g,m,hh,hl,h6⟩:∃r,o=some r/\_:=by
   rw[<-hr];exact hloop _ (hI _ _ ⟨by simp[qcr],⟨by simp[qas],by simp,by simp,by simp,by simp,by simp,by simp⟩,by simp⟩)
  simp[hx,hh,hl,h6]
theorem ev174U{c:Ct}{A:Nat}(h:Mid c A)(k i:Int)(hk:k=0\/k=1\/k=4\/k=5):ev pg (.call (fnq 174) [c.v,fv k i] [])=some (rvq (qjo (qgq c k i A))):=by
 have h67:=ev169 [⟨0,.box c.cells⟩,⟨0,.box [num k,num i]⟩,⟨0,.box [.str [],.bool false,.int .i64 0,.nilfn]⟩];have hloop:=zsw h k i (by omega);have hI:∀cells,∀st:St,(st.h=h72 c k i cells 0 0 [] []/\Keep72 c 0 st.s/\qaj st.s 6=.sl 13 0 0 0 0)->I72 c k i cells 0 st:=fun cells st hst=>by
  refine⟨0,0,?_,.inr rfl,hst.2.1,?_⟩
  .rw[hst.1];rfl
  .rw[hst.2.2];rfl
 unfold Q72 at hloop;generalize qgq c k i A=l at *;rw[qab,pg174.1];rcases hk with rfl | rfl | rfl | rfl
 .have hloop:=hloop t0t 4 5 (by omega) (fun _ _ _ _=>rfl) (fun _ _ _ _=>rfl);simp[qaa,exT,qag,ir174,h67,qah];generalize hr:ev pg (.code (.going 14 L174_0) _)=o;obtain⟨r,rfl,hx,g,m,hh,hl,h6⟩:∃r,o=some r/\_:=by
   rw[<-hr];exact hloop _ (hI _ _ ⟨by simp,⟨by simp[qas],by simp,by simp,by simp,by simp,by simp,by simp⟩,by simp⟩)
  simp[hx,hh,hl,h6]
 .have hloop:=hloop t1t 6 7 (by omega) (fun _ _ _ _=>rfl) (fun _ _ _ _=>rfl);simp[qaa,exT,qag,ir174,h67,qah];generalize hr:ev pg (.code (.going 14 L174_0) _)=o;obtain⟨r,rfl,hx,g,m,hh,hl,h6⟩:∃r,o=some r/\_:=by
   rw[<-hr];exact hloop _ (hI _ _ ⟨by simp,⟨by simp[qas],by simp,by simp,by simp,by simp,by simp,by simp⟩,by simp⟩)
  simp[hx,hh,hl,h6]
 .have hloop:=hloop t4t 8 9 (by omega) (fun _ _ _ _=>rfl) (fun _ _ _ _=>rfl);simp[qaa,exT,qag,ir174,h67,qah];generalize hr:ev pg (.code (.going 14 L174_0) _)=o;obtain⟨r,rfl,hx,g,m,hh,hl,h6⟩:∃r,o=some r/\_:=by
   rw[<-hr];exact hloop _ (hI _ _ ⟨by simp,⟨by simp[qas],by simp,by simp,by simp,by simp,by simp,by simp⟩,by simp⟩)
  simp[hx,hh,hl,h6]
 .have hloop:=hloop t5t 10 11 (by omega) (fun _ _ _ _=>rfl) (fun _ _ _ _=>rfl);simp[qaa,exT,qag,ir174,h67,qah];generalize hr:ev pg (.code (.going 14 L174_0) _)=o;obtain⟨r,rfl,hx,g,m,hh,hl,h6⟩:∃r,o=some r/\_:=by
   rw[<-hr];exact hloop _ (hI _ _ ⟨by simp,⟨by simp[qas],by simp,by simp,by simp,by simp,by simp,by simp⟩,by simp⟩)
  simp[hx,hh,hl,h6]
theorem ev174{c:Ct}{A:Nat}(h:Mid c A)(hp:c.plus.length=A)(hm:c.minus.length=A)(k i:Int)(hk:0<=k/\k<6):ev pg (.call (fnq 174) [c.v,fv k i] [])=some (rvq (qjo (qgq c k i A))):=by
 by_cases h23:k=2\/k=3
 .exact ev174L h hp hm k i h23
 .exact ev174U h k i (by omega)
mutual
def Ex.repl(n v:Int):Ex->Ex
 | .mk o i l=>if o=1/\i=n then .mk 0 v []else .mk o i (qtb n v l)
def qtb(n v:Int):List Ex->List Ex
 | []=>[]
 | x :: l=>x.repl n v :: qtb n v l
end
mutual
def Ex.had(n:Int):Ex->Bool
 | .mk o i l=>if o=1/\i=n then true else qzh n l
def qzh(n:Int):List Ex->Bool
 | []=>false
 | x :: l=>x.had n||qzh n l
end
theorem zjh(n v:Int)(x:Ex):x.repl n v=if x.op=1/\x.idx=n then .mk 0 v []else .mk x.op x.idx (qtb n v x.args):=by cases x;rw[Ex.repl];rfl
theorem zhi(n:Int)(x:Ex):x.had n=if x.op=1/\x.idx=n then true else qzh n x.args:=by cases x;rw[Ex.had];rfl
theorem qxn(n v:Int):∀l:List Ex,qtb n v l=l.map (Ex.repl n v)
 | []=>rfl
 | x :: l=>by rw[qtb,qxn n v l];rfl
theorem zrs{n:Int}{l:List Ex}{k:Nat}(hk:k<l.length):qzh n (l.drop k)=(l[k].had n||qzh n (l.drop (k+1))):=by rw[jL hk,qzh]
abbrev bR(x0:Ex)(n v:Int)(b:Bool):H:=[⟨0,.box x0.cells⟩,⟨0,.box [num n]⟩,⟨0,.box [num v]⟩,⟨0,.arr 0 []⟩,⟨0,.box [num 0,num 0,.sl 3 0 0 0 0]⟩,⟨0,.box [.bool b]⟩,⟨0,.box [.fn 206 [] [.bptr 1 0,.bptr 5 0,.bptr 2 0,.bptr 6 0]]⟩]
theorem nx0{α:Type}(a:α)(z:List α):(a :: z)[0]?=some a:=rfl
theorem atN{G:H}{N:Nat}(hn:G.length=N)(k:Nat)(z:H):(G++z)[N+k]?=z[k]?:=by rw[jJ (by omega),hn,Nat.add_sub_cancel_left]
theorem at0{G:H}{N:Nat}(hn:G.length=N)(a:Ob)(z:H):(G++a :: z)[N]?=some a:=atN hn 0 (a :: z)
theorem at2{G:H}{N:Nat}(hn:G.length=N)(a b c:Ob)(z:H):(G++a :: b :: c :: z)[N+2]?=some c:=atN hn 2 (a :: b :: c :: z)
theorem at3{G:H}{N:Nat}(hn:G.length=N)(a b c d:Ob)(z:H):(G++a :: b :: c :: d :: z)[N+3]?=some d:=atN hn 3 (a :: b :: c :: d :: z)
theorem at4{G:H}{N:Nat}(hn:G.length=N)(a b c d e:Ob)(z:H):(G++a :: b :: c :: d :: e :: z)[N+4]?=some e:=atN hn 4 (a :: b :: c :: d :: e :: z)
theorem z0o{G:H}{N:Nat}(hn:G.length=N)(k:Nat)(z:H)(o:Ob):(G++z).set (N+k) o=G++z.set k o:=by rw[List.set_append_right _ _ (by omega),hn,Nat.add_sub_cancel_left]
theorem z3e{G:H}{N:Nat}(hn:G.length=N)(a b c:Ob)(z:H)(o:Ob):(G++a :: b :: c :: z).set (N+2) o=G++a :: b :: o :: z:=z0o hn 2 (a :: b :: c :: z) o
theorem z3f{G:H}{N:Nat}(hn:G.length=N)(a b c d e:Ob)(z:H)(o:Ob):(G++a :: b :: c :: d :: e :: z).set (N+4) o=G++a :: b :: c :: d :: o :: z:=z0o hn 4 (a :: b :: c :: d :: e :: z) o
theorem at5{G:H}{N:Nat}(hn:G.length=N)(a b c d e f:Ob)(z:H):(G++a :: b :: c :: d :: e :: f :: z)[N+5]?=some f:=atN hn 5 (a :: b :: c :: d :: e :: f :: z)
theorem at7{G:H}{N:Nat}(hn:G.length=N)(a b c d e f g h:Ob)(z:H):(G++a :: b :: c :: d :: e :: f :: g :: h :: z)[N+7]?=some h:=atN hn 7 (a :: b :: c :: d :: e :: f :: g :: h :: z)
theorem z5u{G:H}{N:Nat}(hn:G.length=N)(a b c d e f:Ob)(z:H)(o:Ob):(G++a :: b :: c :: d :: e :: f :: z).set (N+5) o=G++a :: b :: c :: d :: e :: o :: z:=z0o hn 5 (a :: b :: c :: d :: e :: f :: z) o
theorem z5v{G:H}{N:Nat}(hn:G.length=N)(a b c d e f g h:Ob)(z:H)(o:Ob):(G++a :: b :: c :: d :: e :: f :: g :: h :: z).set (N+7) o=G++a :: b :: c :: d :: e :: f :: g :: o :: z:=z0o hn 7 (a :: b :: c :: d :: e :: f :: g :: h :: z) o
abbrev qwu(N:Nat)(x:Ex)(g m len:Nat)(rows:List (List V))(z:H):H:=⟨0,.box x.cells⟩ :: ⟨0,.arr 0 []⟩ :: ⟨0,.box [num 0,num 0,.sl (N+1) 0 0 0 0]⟩ :: ⟨0,.arr 0 []⟩ :: ⟨0,.box [num x.op,num x.idx,.sl (N+5) g m 0 len]⟩ :: ⟨g,.arr m rows⟩ :: z
structure Keep118(N:Nat)(x:Ex)(k:Nat)(st:List V):Prop where
 nn:qas st
 len:st.length=43
 t4:qaj st 4=.bptr 6 0
 t6:qaj st 6=.bptr (N+2) 0
 t7:qaj st 7=.bptr (N+4) 0
 t27:qaj st 27=.imm (x.args.map Ex.row)
 t28:qaj st 28=num x.args.length
 t29:qaj st 29=num k
def z0r(x0:Ex)(n v:Int)(x:Ex)(r:H)(b0:Bool)(k:Nat)(st:St):Prop:=∃b g m,st.h=bR x0 n v b++r++qwu (7+r.length) x g m k ((x.args.take k).map fun y=>(y.repl n v).row) []/\(m=3\/m=0)/\Keep118 (7+r.length) x k st.s/\(b0||qzh n x.args)=(b||qzh n (x.args.drop k))
def z0x(x0:Ex)(n v:Int)(x:Ex)(r:H)(b0:Bool)(q:Am.R):Prop:=q.x=.exit 0/\∃g m,q.st.h=bR x0 n v (b0||qzh n x.args)++r++qwu (7+r.length) x g m x.args.length (x.args.map fun y=>(y.repl n v).row) []/\(m=3\/m=0)/\Keep118 (7+r.length) x x.args.length q.st.s
theorem zsg(x0:Ex)(n v:Int)(x:Ex)(hx:x.nodes<=256)(r:H)(hr:∀b,qcp (bR x0 n v b++r))
  (ih:∀y∈x.args,∀(b:Bool) (r:H),y.nodes<=256->(∀b,qcp (bR x0 n v b++r))->ev pg (.call (.fn 206 [] [.bptr 1 0,.bptr 5 0,.bptr 2 0,.bptr 6 0]) [y.v] (bR x0 n v b++r))=some { v:=(y.repl n v).v,st:=⟨[],bR x0 n v (b||y.had n)++r⟩ })
  (b0:Bool) (N:Nat) (hN:N=7+r.length) (st:St) (h0:z0r x0 n v x r b0 0 st):∃q,ev pg (.code (.going (N+6) L206_0) st)=some q/\z0x x0 n v x r b0 q:=by
 have hfew:=qfj hx;refine qaw (z0r x0 n v x r b0) x.args.length (z0x x0 n v x r b0) h0 ?_ ?_
 .rintro k ⟨sl,h⟩ hk ⟨b,g,m,rfl,hm,⟨hnn,hl,e4,e6,e7,e27,e28,e29⟩,hw⟩;simp only at hl e4 e6 e7 e27 e28 e29;have hnl:∀j,qaj sl j ≠ .nils:=qar hnn;have hk':(k:Int)<x.args.length:=by omega
  have wk:=qbi k;have hmem:=jH hk;have hgk:=jA hk;have h47:(k+1)*40<=140737488355328:=by omega
  have hkl:((x.args.take k).map fun y=>(y.repl n v).row).length=k:=by simp;omega
  have hsuc:(x.args.take (k+1)).map (fun y=>(y.repl n v).row)=(x.args.take k).map (fun y=>(y.repl n v).row)++[(x.args[k].repl n v).row]:=by rw[jK hk,List.map_append];rfl
  generalize hrows:(x.args.take k).map (fun y=>(y.repl n v).row)=rows at *;have hry:∀b,qcp (bR x0 n v b++(r++qwu N x g m k rows [⟨0,.arr 0 []⟩,⟨0,.box x.args[k].cells⟩])):=fun b=>by
   rw[<-List.append_assoc];have h8:(bR x0 n v b++r:H).length=N:=by simp;omega
   refine qgg (hr b) ?_;rw[h8];simp[qbw]
  have hc:=ih x.args[k] hmem b _ (qev hx hmem) hry;rw[<-List.append_assoc,<-List.append_assoc]at hc;rw[zrs hk,<-Bool.or_assoc]at hw;rw[<-hN]at e6 e7 ⊢;have hl0:(bR x0 n v b++r:H).length=N:=by simp;omega
  have g6:∀z,(bR x0 n v b++r++z)[6]?=some ⟨0,.box [.fn 206 [] [.bptr 1 0,.bptr 5 0,.bptr 2 0,.bptr 6 0]]⟩:=fun z=>rfl;generalize hs2:(b||x.args[k].had n)=b2 at *;have hl2:(bR x0 n v b2++r:H).length=N:=by simp;omega
  have hcut:∀g m k (rows:List (List V)) z,qgt (N+6) ((bR x0 n v b2++r)++qwu N x g m k rows z)=(bR x0 n v b2++r)++qwu N x g m k rows []:=fun g m k rows z=>by
   have hcl:qcp ((bR x0 n v b2++r)++qwu N x g m k rows []):=by refine qgg (hr b2) ?_;rw[hl2];simp[qbw]
   have:=qqp hcl z;rw[jF,hl2,List.append_assoc]at this;exact this
  generalize hG:bR x0 n v b++r=G at *;generalize hG2:bR x0 n v b2++r=G2 at *;generalize hrow:(x.args[k].repl n v)=y' at *;rw[qad hl];simp[-qgt,-getElem?_pos,qaa,exT,qag,L206_0,List.range,List.range.loop,e4,e6,e7,e27,e28,e29,hgk,hk',wk,hl0,at4 hl0,at7 hl0,z5v hl0,at5 hl2,at4 hl2,z5u hl2,z3f hl2,g6,hc,hm,h47,hkl,nx0];rw[hcut];have hN0:0<N:=by omega
  simp only[if_pos hN0];refine⟨b2,g+1,3,?_,.inl rfl,⟨?_,rfl,rfl,?_,?_,rfl,rfl,rfl⟩,hw⟩
  .rw[hsuc,<-hN,hG2,q0l]
  .simp[qas,hnl]
  .rw[<-hN];rfl
  .rw[<-hN];rfl
 .rintro⟨sl,h⟩ ⟨b,g,m,rfl,hm,⟨hnn,hl,e4,e6,e7,e27,e28,e29⟩,hw⟩;simp only[List.drop_length]at hl e4 e6 e7 e27 e28 e29 hw;rw[qzh,Bool.or_false]at hw;have hnl:∀j,qaj sl j ≠ .nils:=qar hnn;rw[qad hl];simp[L206_0,List.range,List.range.loop,e4,e6,e7,e27,e28,e29];refine⟨rfl,g,m,?_,hm,⟨?_,rfl,rfl,rfl,rfl,rfl,rfl,rfl⟩⟩
  .rw[hw];simp
  .simp[qas,hnl]
theorem ev206(x0:Ex)(n v:Int):∀(x:Ex) (b:Bool) (r:H),x.nodes<=256->(∀b,qcp (bR x0 n v b++r))->ev pg (.call (.fn 206 [] [.bptr 1 0,.bptr 5 0,.bptr 2 0,.bptr 6 0]) [x.v] (bR x0 n v b++r))=some { v:=(x.repl n v).v,st:=⟨[],bR x0 n v (b||x.had n)++r⟩ }:=by
 refine Ex.ind fun x ih b r hx hr=>?_;have hl0:(bR x0 n v b++r:H).length=7+r.length:=by simp;omega
 have g1:∀z,(bR x0 n v b++r++z)[1]?=some ⟨0,.box [num n]⟩:=fun z=>rfl;have g2:∀z,(bR x0 n v b++r++z)[2]?=some ⟨0,.box [num v]⟩:=fun z=>rfl;have g2':∀z,(bR x0 n v true++r++z)[2]?=some ⟨0,.box [num v]⟩:=fun z=>rfl;have s5:∀z,(bR x0 n v b++r++z).set 5 ⟨0,.box [.bool true]⟩=bR x0 n v true++r++z:=fun z=>rfl;have g5:∀z,(bR x0 n v b++r++z)[5]?=some ⟨0,.box [.bool b]⟩:=fun z=>rfl;rw[qab,pg206.1,zjh,zhi];by_cases hm:x.op=1/\x.idx=n
 .have hck:=qey (hr true);have hl1:(bR x0 n v true++r:H).length=7+r.length:=by simp;omega
  rw[if_pos hm,if_pos hm,Bool.or_true];rw[hl1]at hck;generalize bR x0 n v true++r=G1 at *;generalize bR x0 n v b++r=G at *;generalize 7+r.length=N at *;obtain⟨h1,h2⟩:=hm;have h1b:(x.op==1)=true:=by simpa using h1
  have h2b:(x.idx==n)=true:=by simpa using h2
  simp[-qdw,-getElem?_pos,ir206,hl0,hl1,at0 hl0,at2 hl1,at3 hl1,z3e hl1,g1,g2',g5,s5,h1b,h2b,hck];exact⟨rfl,rfl,rfl⟩
 .have hck:=qey (hr (b||qzh n x.args));have hl1:(bR x0 n v (b||qzh n x.args)++r:H).length=7+r.length:=by simp;omega
  have hloop:=zsg x0 n v x hx r hr ih b (7+r.length) rfl;have hI:∀st:St,(st.h=bR x0 n v b++r++qwu (7+r.length) x 0 0 0 [] []/\Keep118 (7+r.length) x 0 st.s)->z0r x0 n v x r b 0 st:=fun st hst=>⟨b,0,0,hst.1,.inr rfl,hst.2,rfl⟩
  unfold z0x at hloop;rw[if_neg hm,if_neg hm];rw[hl1]at hck;rw[qxn];generalize bR x0 n v (b||qzh n x.args)++r=G1 at *;generalize bR x0 n v b++r=G at *;generalize 7+r.length=N at *;by_cases h1:x.op=1
  .have h2:¬x.idx=n:=fun h2=>hm ⟨h1,h2⟩;have h1b:(x.op==1)=true:=by simpa using h1
   have h2b:(x.idx==n)=false:=by simpa using h2
   simp[-qdw,-getElem?_pos,ir206,hl0,at0 hl0,at4 hl0,z3f hl0,g1,h1b,h2b,qah];generalize hq:ev pg (.code (.going _ L206_0) _)=o;obtain⟨q,rfl,hqx,g,m,hh,hm3,⟨hqn,hql,q4,q6,q7,q27,q28,q29⟩⟩:∃q,o=some q/\_:=by rw[<-hq];exact hloop _ (hI _ ⟨rfl,⟨by simp[qas],rfl,rfl,rfl,rfl,rfl,rfl,rfl⟩⟩)
   simp[-qdw,-getElem?_pos,hqx,hh,hql,q6,q7,hl1,at4 hl1,at2 hl1,z3e hl1,at5 hl1,hck];refine⟨rfl,rfl,?_⟩;show _=List.map Ex.row (List.map (Ex.repl n v) x.args);rw[List.map_map];exact List.map_congr_left fun y _=>(q0l _).symm
  .have h1b:(x.op==1)=false:=by simpa using h1
   simp[-qdw,-getElem?_pos,ir206,hl0,at0 hl0,at4 hl0,z3f hl0,h1b,qah];generalize hq:ev pg (.code (.going _ L206_0) _)=o;obtain⟨q,rfl,hqx,g,m,hh,hm3,⟨hqn,hql,q4,q6,q7,q27,q28,q29⟩⟩:∃q,o=some q/\_:=by rw[<-hq];exact hloop _ (hI _ ⟨rfl,⟨by simp[qas],rfl,rfl,rfl,rfl,rfl,rfl,rfl⟩⟩)
   simp[-qdw,-getElem?_pos,hqx,hh,hql,q6,q7,hl1,at4 hl1,at2 hl1,z3e hl1,at5 hl1,hck];refine⟨rfl,rfl,?_⟩;show _=List.map Ex.row (List.map (Ex.repl n v) x.args);rw[List.map_map];exact List.map_congr_left fun y _=>(q0l _).symm
theorem ev173(x:Ex)(n v:Int)(hx:x.nodes<=256):ev pg (.call (fnq 173) [x.v,num n,num v] [])=some (rvq (.tup [(x.repl n v).v,.bool (x.had n)])):=by have h118:=ev206 x n v x false [] hx (fun b=>by simp[qcp,qbw]);rw[List.append_nil,List.append_nil,Bool.false_or]at h118;generalize x.had n=b at *;generalize x.repl n v=y at *;rw[qab,pg173.1];simp[qaa,exT,qag,ir173,h118]
end Go.Proofs.YtggbaapfbgjaeaaGreatDoor
