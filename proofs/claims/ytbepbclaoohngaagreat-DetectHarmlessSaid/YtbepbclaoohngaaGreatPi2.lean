/- Pilots, by the program. -/
import Derived.Test.YtbepbclaoohngaaGreatPi1
set_option linter.all false
namespace Go.Proofs.YtbepbclaoohngaaGreat
open Go Go.Am Go.Proofs
set_option maxRecDepth 100000
theorem ev140{h:H}{a b:Nat}{x y:Int}(ha:h[a]?=some ⟨0,.box [num x]⟩)(hb:h[b]?=some ⟨0,.box [num y]⟩)(hcl:calm h):ev pg (.call (.fn 140 [] [.bptr a 0,.bptr b 0]) [] h)=some { v:=.agg [num x,num y],st:=⟨[],h⟩ }:=by
 have ha':=qgy [⟨0,.box [num 0,num 0]⟩] ha
 have hb':=qgy [⟨0,.box [num 0,num 0]⟩] hb
 have hck:=qep hcl [⟨0,.box [num x,num y]⟩]
 generalize hn:h.length=N at *
 have a0:=jaq hn
 rw[qab,pg140]
 simp[-qds,-getElem?_pos,ir140,hn,a0,ha',hb',hck]
abbrev h72(c:Ct)(k i:Int)(cells:List V)(g m:Nat)(l:List (Int×Int))(t:H):H:=⟨0,.box c.cells⟩ :: ⟨0,.box [num k,num i]⟩ :: ⟨0,.box cells⟩ :: ⟨0,.box (kC 3)⟩ :: kTa (⟨0,.arr 0 []⟩ :: ⟨g,.arr m (l.map zzx)⟩ :: t)
structure Keep72(c:Ct)(j:Nat)(st:List V):Prop where
 nn:qaq st
 len:st.length=63
 t2:qag st 2=.bptr 0 0
 t3:qag st 3=.bptr 1 0
 t5:qag st 5=.bptr 2 0
 t14:qag st 14=num c.act
 t15:qag st 15=num j
def I72(c:Ct)(k i:Int)(cells:List V)(j:Nat)(st:St):Prop:=∃g m,st.h=h72 c k i cells g m (qft c k i j) []/\(m=2\/m=0)/\Keep72 c j st.s/\qag st.s 6=.sl 13 g m 0 (qft c k i j).length
def Q72(c:Ct)(A:Nat)(k i:Int)(cells:List V)(r:R):Prop:=r.x=.exit 0/\∃g m,r.st.h=h72 c k i cells g m (qft c k i A) []/\r.st.s.length=63/\qag r.st.s 6=.sl 13 g m 0 (qft c k i A).length
theorem zvl{c:Ct}{A:Nat}(h:Mid c A)(hp:c.plus.length=A)(hm:c.minus.length=A)(k i:Int)(hk:k=2\/k=3)(t:Txt)(st:St)(h0:I72 c k i [.str t,.bool true,num (qcd k),.nilfn] 0 st):∃r,ev pg (.code (.going 14 L84_0) st)=some r/\Q72 c A k i [.str t,.bool true,num (qcd k),.nilfn] r:=by
 have hA6:=h.hi
 have hA:=h.act
 refine qat (I72 c k i [.str t,.bool true,num (qcd k),.nilfn]) A (Q72 c A k i [.str t,.bool true,num (qcd k),.nilfn]) h0 ?_ ?_
 .rintro j ⟨s,hh⟩ hj ⟨g,m,rfl,hm2,⟨hnn,hl,e2,e3,e5,e14,e15⟩,e6⟩
  simp only at hl e2 e3 e5 e6 e14 e15
  have hnl:∀j,qag s j ≠ .nils:=qas hnn
  have wj:=qbs (k:=j) (by omega)
  have hj':(j:Int)<c.act:=by omega
  have hlen:=qlm c k i j
  have hp':j<c.plus.length:=by omega
  have hm':j<c.minus.length:=by omega
  have e0:∀p,pil c k i j=p->qft c k i (j+1)=qft c k i j++[p]:=fun p e=>by rw[qxl,e]
  unfold I72
  generalize qft c k i j=l at *
  generalize qft c k i (j+1)=l' at *
  have h47:(l.length+1)*16<=140737488355328:=by omega
  have pd:c.plus.getD j 0=c.plus[j]:=by simp[hp']
  have md:c.minus.getD j 0=c.minus[j]:=by simp[hm']
  unfold pil at e0
  rw[pd,md,if_pos hk]at e0
  generalize qcd k=v at *
  rw[qac hl]
  by_cases b1:c.plus[j]=i
  .by_cases b2:c.minus[j]=i
   .rw[if_pos b1,if_pos b2]at e0
    have e0:=e0 _ rfl
    simp[L84_0,List.range,List.range.loop,e2,e3,e5,e6,e14,e15,hj',hp',hm',wj,hm2,h47,b1,b2]
    exact⟨_,_,⟨rfl,rfl,by rw[e0];simp⟩,.inl rfl,⟨by simp[qaq,hnl],rfl,rfl,rfl,rfl,rfl,rfl⟩,rfl,rfl,by rw[e0];simp⟩
   .have b2b:(c.minus[j]==i)=false:=by simpa using b2
    rw[if_pos b1,if_neg b2]at e0
    have e0:=e0 _ rfl
    simp[L84_0,List.range,List.range.loop,e2,e3,e5,e6,e14,e15,hj',hp',hm',wj,hm2,h47,b1,b2b]
    exact⟨_,_,⟨rfl,rfl,by rw[e0];simp⟩,.inl rfl,⟨by simp[qaq,hnl],rfl,rfl,rfl,rfl,rfl,rfl⟩,rfl,rfl,by rw[e0];simp⟩
  .have b1b:(c.plus[j]==i)=false:=by simpa using b1
   by_cases b2:c.minus[j]=i
   .rw[if_neg b1,if_pos b2]at e0
    have e0:=e0 _ rfl
    simp[L84_0,List.range,List.range.loop,e2,e3,e5,e6,e14,e15,hj',hp',hm',wj,hm2,h47,b1b,b2]
    exact⟨_,_,⟨rfl,rfl,by rw[e0];simp⟩,.inl rfl,⟨by simp[qaq,hnl],rfl,rfl,rfl,rfl,rfl,rfl⟩,rfl,rfl,by rw[e0];simp⟩
   .have b2b:(c.minus[j]==i)=false:=by simpa using b2
    rw[if_neg b1,if_neg b2]at e0
    have e0:=e0 _ rfl
    simp[L84_0,List.range,List.range.loop,e2,e3,e5,e6,e14,e15,hj',hp',hm',wj,hm2,h47,b1b,b2b]
    exact⟨_,_,⟨rfl,rfl,by rw[e0];simp⟩,.inl rfl,⟨by simp[qaq,hnl],rfl,rfl,rfl,rfl,rfl,rfl⟩,rfl,rfl,by rw[e0];simp⟩
 .rintro⟨s,hh⟩ ⟨g,m,rfl,hm2,⟨hnn,hl,e2,e3,e5,e14,e15⟩,e6⟩
  simp only at hl e2 e3 e5 e6 e14 e15
  unfold Q72
  generalize qft c k i A=l at *
  rw[qac hl]
  simp[L84_0,List.range,List.range.loop,e2,e3,e5,e6,e14,e15,hA]
def zsx(k:Int):Int×Int:=if k=0 then(0,-1)else if k=1 then(-1,0)else if k=4 then(1,0)else(0,1)
theorem zvm{c:Ct}{A:Nat}(h:Mid c A)(k i:Int)(hk:¬(k=2\/k=3))(t:Txt)(p q:Nat)(hpq:p<12/\q<12)(hpx:∀g m l z,(h72 c k i [.str t,.bool false,num 0,.fn 140 [] [.bptr p 0,.bptr q 0]] g m l z)[p]?=some ⟨0,.box [num (zsx k).1]⟩)(hqy:∀g m l z,(h72 c k i [.str t,.bool false,num 0,.fn 140 [] [.bptr p 0,.bptr q 0]] g m l z)[q]?=some ⟨0,.box [num (zsx k).2]⟩)(st:St)(h0:I72 c k i [.str t,.bool false,num 0,.fn 140 [] [.bptr p 0,.bptr q 0]] 0 st):∃r,ev pg (.code (.going 14 L84_0) st)=some r/\Q72 c A k i [.str t,.bool false,num 0,.fn 140 [] [.bptr p 0,.bptr q 0]] r:=by
 have hA6:=h.hi
 have hA:=h.act
 have hp14:p<14:=by omega
 have hq14:q<14:=by omega
 have hp15:p<15:=by omega
 have hq15:q<15:=by omega
 refine qat (I72 c k i [.str t,.bool false,num 0,.fn 140 [] [.bptr p 0,.bptr q 0]]) A (Q72 c A k i [.str t,.bool false,num 0,.fn 140 [] [.bptr p 0,.bptr q 0]]) h0 ?_ ?_
 .rintro j ⟨s,hh⟩ hj ⟨g,m,rfl,hm2,⟨hnn,hl,e2,e3,e5,e14,e15⟩,e6⟩
  simp only at hl e2 e3 e5 e6 e14 e15
  have hnl:∀j,qag s j ≠ .nils:=qas hnn
  have wj:=qbs (k:=j) (by omega)
  have hj':(j:Int)<c.act:=by omega
  have hlen:=qlm c k i j
  have e0:∀p,pil c k i j=p->qft c k i (j+1)=qft c k i j++[p]:=fun p e=>by rw[qxl,e]
  have h113:=ev140 (hpx g m (qft c k i j) [⟨0,.box [num (-1),num (-1)]⟩]) (hqy g m (qft c k i j) [⟨0,.box [num (-1),num (-1)]⟩]) (by simp[calm,qcc,hp15,hq15])
  unfold I72
  generalize qft c k i j=l at *
  generalize qft c k i (j+1)=l' at *
  have h47:(l.length+1)*16<=140737488355328:=by omega
  have hpil:pil c k i j=if(j:Int)=i then((zsx k).1,(zsx k).2)else(-1,-1):=by
   unfold pil zsx
   rw[if_neg hk]
  rw[hpil]at e0
  generalize (zsx k).1=x at *
  generalize (zsx k).2=y at *
  rw[qac hl]
  by_cases b1:(j:Int)=i
  .rw[if_pos b1]at e0
   subst b1
   have e0:=e0 _ rfl
   simp[L84_0,List.range,List.range.loop,e2,e3,e5,e6,e14,e15,hj',wj,hm2,h47,h113,hp14,hq14]
   exact⟨_,_,⟨rfl,rfl,by rw[e0];simp⟩,.inl rfl,⟨by simp[qaq,hnl],rfl,rfl,rfl,rfl,rfl,rfl⟩,rfl,rfl,by rw[e0];simp⟩
  .have b1b:((j:Int)==i)=false:=by simpa using b1
   rw[if_neg b1]at e0
   have e0:=e0 _ rfl
   simp[L84_0,List.range,List.range.loop,e2,e3,e5,e6,e14,e15,hj',wj,hm2,h47,b1b,hp14,hq14]
   exact⟨_,_,⟨rfl,rfl,by rw[e0];simp⟩,.inl rfl,⟨by simp[qaq,hnl],rfl,rfl,rfl,rfl,rfl,rfl⟩,rfl,rfl,by rw[e0];simp⟩
 .rintro⟨s,hh⟩ ⟨g,m,rfl,hm2,⟨hnn,hl,e2,e3,e5,e14,e15⟩,e6⟩
  simp only at hl e2 e3 e5 e6 e14 e15
  unfold Q72
  generalize qft c k i A=l at *
  rw[qac hl]
  simp[L84_0,List.range,List.range.loop,e2,e3,e5,e6,e14,e15,hA]
theorem ev84L{c:Ct}{A:Nat}(h:Mid c A)(hp:c.plus.length=A)(hm:c.minus.length=A)(k i:Int)(hk:k=2\/k=3):ev pg (.call (.fn 84 [] []) [c.v,fv k i] [])=some { v:=qgw (qft c k i A),st:=⟨[],[]⟩ }:=by
 have h67:=ev83 [⟨0,.box c.cells⟩,⟨0,.box [num k,num i]⟩,⟨0,.box [.str [],.bool false,.int .i64 0,.nilfn]⟩]
 have hloop:=fun t=>zvl h hp hm k i hk t
 have hI:∀cells,∀st:St,(st.h=h72 c k i cells 0 0 [] []/\Keep72 c 0 st.s/\qag st.s 6=.sl 13 0 0 0 0)->I72 c k i cells 0 st:=fun cells st hst=>by
  refine⟨0,0,?_,.inr rfl,hst.2.1,?_⟩
  .rw[hst.1];rfl
  .rw[hst.2.2];rfl
 unfold Q72 at hloop
 generalize qft c k i A=l at *
 rw[qab,pg84]
 rcases hk with rfl | rfl
 .have hloop:=hloop t2t
  simp[qaa,exT,qak,ir84,h67,qam]
  generalize hr:ev pg (.code (.going 14 L84_0) _)=o
  obtain⟨r,rfl,hx,g,m,hh,hl,h6⟩:∃r,o=some r/\_:=by
   rw[<-hr]
   exact hloop _ (hI _ _ ⟨by simp[qcd],⟨by simp[qaq],by simp,by simp,by simp,by simp,by simp,by simp⟩,by simp⟩)
  simp[hx,hh,hl,h6]
 .have hloop:=hloop t3t
  simp[qaa,exT,qak,ir84,h67,qam]
  generalize hr:ev pg (.code (.going 14 L84_0) _)=o
  obtain⟨r,rfl,hx,g,m,hh,hl,h6⟩:∃r,o=some r/\_:=by
   rw[<-hr]
   exact hloop _ (hI _ _ ⟨by simp[qcd],⟨by simp[qaq],by simp,by simp,by simp,by simp,by simp,by simp⟩,by simp⟩)
  simp[hx,hh,hl,h6]
theorem ev84U{c:Ct}{A:Nat}(h:Mid c A)(k i:Int)(hk:k=0\/k=1\/k=4\/k=5):ev pg (.call (.fn 84 [] []) [c.v,fv k i] [])=some { v:=qgw (qft c k i A),st:=⟨[],[]⟩ }:=by
 have h67:=ev83 [⟨0,.box c.cells⟩,⟨0,.box [num k,num i]⟩,⟨0,.box [.str [],.bool false,.int .i64 0,.nilfn]⟩]
 have hloop:=zvm h k i (by omega)
 have hI:∀cells,∀st:St,(st.h=h72 c k i cells 0 0 [] []/\Keep72 c 0 st.s/\qag st.s 6=.sl 13 0 0 0 0)->I72 c k i cells 0 st:=fun cells st hst=>by
  refine⟨0,0,?_,.inr rfl,hst.2.1,?_⟩
  .rw[hst.1];rfl
  .rw[hst.2.2];rfl
 unfold Q72 at hloop
 generalize qft c k i A=l at *
 rw[qab,pg84]
 rcases hk with rfl | rfl | rfl | rfl
 .have hloop:=hloop t0t 4 5 (by omega) (fun _ _ _ _=>rfl) (fun _ _ _ _=>rfl)
  simp[qaa,exT,qak,ir84,h67,qam]
  generalize hr:ev pg (.code (.going 14 L84_0) _)=o
  obtain⟨r,rfl,hx,g,m,hh,hl,h6⟩:∃r,o=some r/\_:=by
   rw[<-hr]
   exact hloop _ (hI _ _ ⟨by simp,⟨by simp[qaq],by simp,by simp,by simp,by simp,by simp,by simp⟩,by simp⟩)
  simp[hx,hh,hl,h6]
 .have hloop:=hloop t1t 6 7 (by omega) (fun _ _ _ _=>rfl) (fun _ _ _ _=>rfl)
  simp[qaa,exT,qak,ir84,h67,qam]
  generalize hr:ev pg (.code (.going 14 L84_0) _)=o
  obtain⟨r,rfl,hx,g,m,hh,hl,h6⟩:∃r,o=some r/\_:=by
   rw[<-hr]
   exact hloop _ (hI _ _ ⟨by simp,⟨by simp[qaq],by simp,by simp,by simp,by simp,by simp,by simp⟩,by simp⟩)
  simp[hx,hh,hl,h6]
 .have hloop:=hloop t4t 8 9 (by omega) (fun _ _ _ _=>rfl) (fun _ _ _ _=>rfl)
  simp[qaa,exT,qak,ir84,h67,qam]
  generalize hr:ev pg (.code (.going 14 L84_0) _)=o
  obtain⟨r,rfl,hx,g,m,hh,hl,h6⟩:∃r,o=some r/\_:=by
   rw[<-hr]
   exact hloop _ (hI _ _ ⟨by simp,⟨by simp[qaq],by simp,by simp,by simp,by simp,by simp,by simp⟩,by simp⟩)
  simp[hx,hh,hl,h6]
 .have hloop:=hloop t5t 10 11 (by omega) (fun _ _ _ _=>rfl) (fun _ _ _ _=>rfl)
  simp[qaa,exT,qak,ir84,h67,qam]
  generalize hr:ev pg (.code (.going 14 L84_0) _)=o
  obtain⟨r,rfl,hx,g,m,hh,hl,h6⟩:∃r,o=some r/\_:=by
   rw[<-hr]
   exact hloop _ (hI _ _ ⟨by simp,⟨by simp[qaq],by simp,by simp,by simp,by simp,by simp,by simp⟩,by simp⟩)
  simp[hx,hh,hl,h6]
theorem ev84{c:Ct}{A:Nat}(h:Mid c A)(hp:c.plus.length=A)(hm:c.minus.length=A)(k i:Int)(hk:0<=k/\k<6):ev pg (.call (.fn 84 [] []) [c.v,fv k i] [])=some { v:=qgw (qft c k i A),st:=⟨[],[]⟩ }:=by
 by_cases h23:k=2\/k=3
 .exact ev84L h hp hm k i h23
 .exact ev84U h k i (by omega)
end Go.Proofs.YtbepbclaoohngaaGreat
