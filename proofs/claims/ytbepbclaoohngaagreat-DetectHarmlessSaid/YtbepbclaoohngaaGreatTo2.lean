/- What a fault touches, by the reference. -/
import Derived.Test.YtbepbclaoohngaaGreatPi2
set_option linter.all false
namespace Go.Proofs.YtbepbclaoohngaaGreat
open Go Go.Am Go.Proofs
set_option maxRecDepth 100000
mutual
def Ex.repl(n v:Int):Ex->Ex
 | .mk o i l=>if o=1/\i=n then .mk 0 v []else .mk o i (qte n v l)
def qte(n v:Int):List Ex->List Ex
 | []=>[]
 | x :: l=>x.repl n v :: qte n v l
end
mutual
def Ex.had(n:Int):Ex->Bool
 | .mk o i l=>if o=1/\i=n then true else qyx n l
def qyx(n:Int):List Ex->Bool
 | []=>false
 | x :: l=>x.had n||qyx n l
end
theorem zke(n v:Int)(x:Ex):x.repl n v=if x.op=1/\x.idx=n then .mk 0 v []else .mk x.op x.idx (qte n v x.args):=by cases x;rw[Ex.repl];rfl
theorem zav(n:Int)(x:Ex):x.had n=if x.op=1/\x.idx=n then true else qyx n x.args:=by cases x;rw[Ex.had];rfl
theorem qxu(n v:Int):∀l:List Ex,qte n v l=l.map (Ex.repl n v)
 | []=>rfl
 | x :: l=>by rw[qte,qxu n v l];rfl
theorem zuf{n:Int}{l:List Ex}{k:Nat}(hk:k<l.length):qyx n (l.drop k)=(l[k].had n||qyx n (l.drop (k+1))):=by
 rw[jL hk,qyx]
abbrev bR(x0:Ex)(n v:Int)(b:Bool):H:=[⟨0,.box x0.cells⟩,⟨0,.box [num n]⟩,⟨0,.box [num v]⟩,⟨0,.arr 0 []⟩,⟨0,.box [num 0,num 0,.sl 3 0 0 0 0]⟩,⟨0,.box [.bool b]⟩,⟨0,.box [.fn 138 [] [.bptr 1 0,.bptr 5 0,.bptr 2 0,.bptr 6 0]]⟩]
theorem nx0{α:Type}(a:α)(z:List α):(a :: z)[0]?=some a:=rfl
theorem atN{G:H}{N:Nat}(hn:G.length=N)(k:Nat)(z:H):(G++z)[N+k]?=z[k]?:=by
 rw[jJ (by omega),hn,Nat.add_sub_cancel_left]
theorem at0{G:H}{N:Nat}(hn:G.length=N)(a:Ob)(z:H):(G++a :: z)[N]?=some a:=atN hn 0 (a :: z)
theorem at2{G:H}{N:Nat}(hn:G.length=N)(a b c:Ob)(z:H):(G++a :: b :: c :: z)[N+2]?=some c:=atN hn 2 (a :: b :: c :: z)
theorem at3{G:H}{N:Nat}(hn:G.length=N)(a b c d:Ob)(z:H):(G++a :: b :: c :: d :: z)[N+3]?=some d:=atN hn 3 (a :: b :: c :: d :: z)
theorem at4{G:H}{N:Nat}(hn:G.length=N)(a b c d e:Ob)(z:H):(G++a :: b :: c :: d :: e :: z)[N+4]?=some e:=atN hn 4 (a :: b :: c :: d :: e :: z)
theorem z9y{G:H}{N:Nat}(hn:G.length=N)(k:Nat)(z:H)(o:Ob):(G++z).set (N+k) o=G++z.set k o:=by
 rw[List.set_append_right _ _ (by omega),hn,Nat.add_sub_cancel_left]
theorem jdv{G:H}{N:Nat}(hn:G.length=N)(a b c:Ob)(z:H)(o:Ob):(G++a :: b :: c :: z).set (N+2) o=G++a :: b :: o :: z:=z9y hn 2 (a :: b :: c :: z) o
theorem jdw{G:H}{N:Nat}(hn:G.length=N)(a b c d e:Ob)(z:H)(o:Ob):(G++a :: b :: c :: d :: e :: z).set (N+4) o=G++a :: b :: c :: d :: o :: z:=z9y hn 4 (a :: b :: c :: d :: e :: z) o
theorem at5{G:H}{N:Nat}(hn:G.length=N)(a b c d e f:Ob)(z:H):(G++a :: b :: c :: d :: e :: f :: z)[N+5]?=some f:=atN hn 5 (a :: b :: c :: d :: e :: f :: z)
theorem at7{G:H}{N:Nat}(hn:G.length=N)(a b c d e f g h:Ob)(z:H):(G++a :: b :: c :: d :: e :: f :: g :: h :: z)[N+7]?=some h:=atN hn 7 (a :: b :: c :: d :: e :: f :: g :: h :: z)
theorem jfw{G:H}{N:Nat}(hn:G.length=N)(a b c d e f:Ob)(z:H)(o:Ob):(G++a :: b :: c :: d :: e :: f :: z).set (N+5) o=G++a :: b :: c :: d :: e :: o :: z:=z9y hn 5 (a :: b :: c :: d :: e :: f :: z) o
theorem jfx{G:H}{N:Nat}(hn:G.length=N)(a b c d e f g h:Ob)(z:H)(o:Ob):(G++a :: b :: c :: d :: e :: f :: g :: h :: z).set (N+7) o=G++a :: b :: c :: d :: e :: f :: g :: o :: z:=z9y hn 7 (a :: b :: c :: d :: e :: f :: g :: h :: z) o
abbrev qwy(N:Nat)(x:Ex)(g m len:Nat)(rows:List (List V))(z:H):H:=⟨0,.box x.cells⟩ :: ⟨0,.arr 0 []⟩ :: ⟨0,.box [num 0,num 0,.sl (N+1) 0 0 0 0]⟩ :: ⟨0,.arr 0 []⟩ :: ⟨0,.box [num x.op,num x.idx,.sl (N+5) g m 0 len]⟩ :: ⟨g,.arr m rows⟩ :: z
structure Keep118(N:Nat)(x:Ex)(k:Nat)(st:List V):Prop where
 nn:qaq st
 len:st.length=43
 t4:qag st 4=.bptr 6 0
 t6:qag st 6=.bptr (N+2) 0
 t7:qag st 7=.bptr (N+4) 0
 t27:qag st 27=.imm (x.args.map Ex.row)
 t28:qag st 28=num x.args.length
 t29:qag st 29=num k
def jae(x0:Ex)(n v:Int)(x:Ex)(r:H)(b0:Bool)(k:Nat)(st:St):Prop:=∃b g m,st.h=bR x0 n v b++r++qwy (7+r.length) x g m k ((x.args.take k).map fun y=>(y.repl n v).row) []/\(m=3\/m=0)/\Keep118 (7+r.length) x k st.s/\(b0||qyx n x.args)=(b||qyx n (x.args.drop k))
def jak(x0:Ex)(n v:Int)(x:Ex)(r:H)(b0:Bool)(q:Am.R):Prop:=q.x=.exit 0/\∃g m,q.st.h=bR x0 n v (b0||qyx n x.args)++r++qwy (7+r.length) x g m x.args.length (x.args.map fun y=>(y.repl n v).row) []/\(m=3\/m=0)/\Keep118 (7+r.length) x x.args.length q.st.s
theorem zuu(x0:Ex)(n v:Int)(x:Ex)(hx:x.nodes<=256)(r:H)(hr:∀b,calm (bR x0 n v b++r))
  (ih:∀y∈x.args,∀(b:Bool) (r:H),y.nodes<=256->(∀b,calm (bR x0 n v b++r))->ev pg (.call (.fn 138 [] [.bptr 1 0,.bptr 5 0,.bptr 2 0,.bptr 6 0]) [y.v] (bR x0 n v b++r))=some { v:=(y.repl n v).v,st:=⟨[],bR x0 n v (b||y.had n)++r⟩ })
  (b0:Bool) (N:Nat) (hN:N=7+r.length) (st:St) (h0:jae x0 n v x r b0 0 st):∃q,ev pg (.code (.going (N+6) L138_0) st)=some q/\jak x0 n v x r b0 q:=by
 have hfew:=qfz hx
 refine qat (jae x0 n v x r b0) x.args.length (jak x0 n v x r b0) h0 ?_ ?_
 .rintro k ⟨sl,h⟩ hk ⟨b,g,m,rfl,hm,⟨hnn,hl,e4,e6,e7,e27,e28,e29⟩,hw⟩
  simp only at hl e4 e6 e7 e27 e28 e29
  have hnl:∀j,qag sl j ≠ .nils:=qas hnn
  have hk':(k:Int)<x.args.length:=by omega
  have wk:=qbs (k:=k) (by omega)
  have hmem:=jH hk
  have hgk:=jA hk
  have h47:(k+1)*40<=140737488355328:=by omega
  have hkl:((x.args.take k).map fun y=>(y.repl n v).row).length=k:=by simp;omega
  have hsuc:(x.args.take (k+1)).map (fun y=>(y.repl n v).row)=(x.args.take k).map (fun y=>(y.repl n v).row)++[(x.args[k].repl n v).row]:=by rw[jK hk,List.map_append];rfl
  generalize hrows:(x.args.take k).map (fun y=>(y.repl n v).row)=rows at *
  have hry:∀b,calm (bR x0 n v b++(r++qwy N x g m k rows [⟨0,.arr 0 []⟩,⟨0,.box x.args[k].cells⟩])):=fun b=>by
   rw[<-List.append_assoc]
   have h8:(bR x0 n v b++r:H).length=N:=by simp;omega
   refine qhk (hr b) ?_
   rw[h8]
   simp[qcc]
  have hc:=ih x.args[k] hmem b _ (qfb hx hmem) hry
  rw[<-List.append_assoc,<-List.append_assoc]at hc
  rw[zuf hk,<-Bool.or_assoc]at hw
  rw[<-hN]at e6 e7 ⊢
  have hl0:(bR x0 n v b++r:H).length=N:=by simp;omega
  have g6:∀z,(bR x0 n v b++r++z)[6]?=some ⟨0,.box [.fn 138 [] [.bptr 1 0,.bptr 5 0,.bptr 2 0,.bptr 6 0]]⟩:=fun z=>rfl
  generalize hs2:(b||x.args[k].had n)=b2 at *
  have hl2:(bR x0 n v b2++r:H).length=N:=by simp;omega
  have hcut:∀g m k (rows:List (List V)) z,qjn (N+6) ((bR x0 n v b2++r)++qwy N x g m k rows z)=(bR x0 n v b2++r)++qwy N x g m k rows []:=fun g m k rows z=>by
   have hcl:calm ((bR x0 n v b2++r)++qwy N x g m k rows []):=by
    refine qhk (hr b2) ?_
    rw[hl2]
    simp[qcc]
   have:=qqh hcl z
   rw[jF,hl2,List.append_assoc]at this
   exact this
  generalize hG:bR x0 n v b++r=G at *
  generalize hG2:bR x0 n v b2++r=G2 at *
  generalize hrow:(x.args[k].repl n v)=y' at *
  rw[qac hl]
  simp[-qjn,-getElem?_pos,qaa,exT,qak,L138_0,List.range,List.range.loop,e4,e6,e7,e27,e28,e29,hgk,hk',wk,hl0,at4 hl0,at7 hl0,jfx hl0,at5 hl2,at4 hl2,jfw hl2,jdw hl2,g6,hc,hm,h47,hkl,nx0]
  rw[hcut]
  have hN0:0<N:=by omega
  simp only[if_pos hN0]
  refine⟨b2,g+1,3,?_,.inl rfl,⟨?_,rfl,rfl,?_,?_,rfl,rfl,rfl⟩,hw⟩
  .rw[hsuc,<-hN,hG2,q0y]
  .simp[qaq,hnl]
  .rw[<-hN];rfl
  .rw[<-hN];rfl
 .rintro⟨sl,h⟩ ⟨b,g,m,rfl,hm,⟨hnn,hl,e4,e6,e7,e27,e28,e29⟩,hw⟩
  simp only[List.drop_length]at hl e4 e6 e7 e27 e28 e29 hw
  rw[qyx,Bool.or_false]at hw
  have hnl:∀j,qag sl j ≠ .nils:=qas hnn
  rw[qac hl]
  simp[L138_0,List.range,List.range.loop,e4,e6,e7,e27,e28,e29]
  refine⟨rfl,g,m,?_,hm,⟨?_,rfl,rfl,rfl,rfl,rfl,rfl,rfl⟩⟩
  .rw[hw];simp
  .simp[qaq,hnl]
theorem ev138(x0:Ex)(n v:Int):∀(x:Ex) (b:Bool) (r:H),x.nodes<=256->(∀b,calm (bR x0 n v b++r))->ev pg (.call (.fn 138 [] [.bptr 1 0,.bptr 5 0,.bptr 2 0,.bptr 6 0]) [x.v] (bR x0 n v b++r))=some { v:=(x.repl n v).v,st:=⟨[],bR x0 n v (b||x.had n)++r⟩ }:=by
 refine Ex.ind fun x ih b r hx hr=>?_
 have hl0:(bR x0 n v b++r:H).length=7+r.length:=by simp;omega
 have g1:∀z,(bR x0 n v b++r++z)[1]?=some ⟨0,.box [num n]⟩:=fun z=>rfl
 have g2:∀z,(bR x0 n v b++r++z)[2]?=some ⟨0,.box [num v]⟩:=fun z=>rfl
 have g2':∀z,(bR x0 n v true++r++z)[2]?=some ⟨0,.box [num v]⟩:=fun z=>rfl
 have s5:∀z,(bR x0 n v b++r++z).set 5 ⟨0,.box [.bool true]⟩=bR x0 n v true++r++z:=fun z=>rfl
 have g5:∀z,(bR x0 n v b++r++z)[5]?=some ⟨0,.box [.bool b]⟩:=fun z=>rfl
 rw[qab,pg138,zke,zav]
 by_cases hm:x.op=1/\x.idx=n
 .have hck:=qep (hr true)
  have hl1:(bR x0 n v true++r:H).length=7+r.length:=by simp;omega
  rw[if_pos hm,if_pos hm,Bool.or_true]
  rw[hl1]at hck
  generalize bR x0 n v true++r=G1 at *
  generalize bR x0 n v b++r=G at *
  generalize 7+r.length=N at *
  obtain⟨h1,h2⟩:=hm
  have h1b:(x.op==1)=true:=by simpa using h1
  have h2b:(x.idx==n)=true:=by simpa using h2
  simp[-qds,-getElem?_pos,ir138,hl0,hl1,at0 hl0,at2 hl1,at3 hl1,jdv hl1,g1,g2',g5,s5,h1b,h2b,hck]
  exact⟨rfl,rfl,rfl⟩
 .have hck:=qep (hr (b||qyx n x.args))
  have hl1:(bR x0 n v (b||qyx n x.args)++r:H).length=7+r.length:=by simp;omega
  have hloop:=zuu x0 n v x hx r hr ih b (7+r.length) rfl
  have hI:∀st:St,(st.h=bR x0 n v b++r++qwy (7+r.length) x 0 0 0 [] []/\Keep118 (7+r.length) x 0 st.s)->jae x0 n v x r b 0 st:=fun st hst=>⟨b,0,0,hst.1,.inr rfl,hst.2,rfl⟩
  unfold jak at hloop
  rw[if_neg hm,if_neg hm]
  rw[hl1]at hck
  rw[qxu]
  generalize bR x0 n v (b||qyx n x.args)++r=G1 at *
  generalize bR x0 n v b++r=G at *
  generalize 7+r.length=N at *
  by_cases h1:x.op=1
  .have h2:¬x.idx=n:=fun h2=>hm ⟨h1,h2⟩
   have h1b:(x.op==1)=true:=by simpa using h1
   have h2b:(x.idx==n)=false:=by simpa using h2
   simp[-qds,-getElem?_pos,ir138,hl0,at0 hl0,at4 hl0,jdw hl0,g1,h1b,h2b,qam]
   generalize hq:ev pg (.code (.going _ L138_0) _)=o
   obtain⟨q,rfl,hqx,g,m,hh,hm3,⟨hqn,hql,q4,q6,q7,q27,q28,q29⟩⟩:∃q,o=some q/\_:=by
    rw[<-hq]
    exact hloop _ (hI _ ⟨rfl,⟨by simp[qaq],rfl,rfl,rfl,rfl,rfl,rfl,rfl⟩⟩)
   simp[-qds,-getElem?_pos,hqx,hh,hql,q6,q7,hl1,at4 hl1,at2 hl1,jdv hl1,at5 hl1,hck]
   refine⟨rfl,rfl,?_⟩
   show _=List.map Ex.row (List.map (Ex.repl n v) x.args)
   rw[List.map_map]
   exact List.map_congr_left fun y _=>(q0y _).symm
  .have h1b:(x.op==1)=false:=by simpa using h1
   simp[-qds,-getElem?_pos,ir138,hl0,at0 hl0,at4 hl0,jdw hl0,h1b,qam]
   generalize hq:ev pg (.code (.going _ L138_0) _)=o
   obtain⟨q,rfl,hqx,g,m,hh,hm3,⟨hqn,hql,q4,q6,q7,q27,q28,q29⟩⟩:∃q,o=some q/\_:=by
    rw[<-hq]
    exact hloop _ (hI _ ⟨rfl,⟨by simp[qaq],rfl,rfl,rfl,rfl,rfl,rfl,rfl⟩⟩)
   simp[-qds,-getElem?_pos,hqx,hh,hql,q6,q7,hl1,at4 hl1,at2 hl1,jdv hl1,at5 hl1,hck]
   refine⟨rfl,rfl,?_⟩
   show _=List.map Ex.row (List.map (Ex.repl n v) x.args)
   rw[List.map_map]
   exact List.map_congr_left fun y _=>(q0y _).symm
theorem ev82(x:Ex)(n v:Int)(hx:x.nodes<=256):ev pg (.call (.fn 82 [] []) [x.v,num n,num v] [])=some { v:=.tup [(x.repl n v).v,.bool (x.had n)],st:=⟨[],[]⟩ }:=by
 have h118:=ev138 x n v x false [] hx (fun b=>by simp[calm,qcc])
 rw[List.append_nil,List.append_nil,Bool.false_or]at h118
 generalize x.had n=b at *
 generalize x.repl n v=y at *
 rw[qab,pg82]
 simp[qaa,exT,qak,ir82,h118]
def qim(f:Nat->Bool)(b:Int)(n:Nat):List Int:=((List.range n).filter f).map fun(j:Nat)=>b+(j:Int)
theorem qrt(f:Nat->Bool)(b:Int)(n:Nat):qim f b (n+1)=if f n=true then qim f b n++[b+(n:Int)]else qim f b n:=by
 unfold qim
 rw[List.range_succ,List.filter_append,List.map_append]
 cases h:f n<;>simp[h]
theorem qlu(f:Nat->Bool)(b:Int)(n:Nat):(qim f b n).length<=n:=by
 unfold qim
 rw[List.length_map]
 exact Nat.le_trans (List.length_filter_le _ _) (by simp)
theorem zbx(f:Nat->Bool)(b:Int)(n:Nat)(v:Int):v∈qim f b n<->∃j:Nat,j<n/\f j=true/\v=b+(j:Int):=by
 unfold qim
 simp only[List.mem_map,List.mem_filter,List.mem_range]
 constructor
 .rintro⟨j,⟨h1,h2⟩,rfl⟩
  exact⟨j,h1,h2,rfl⟩
 .rintro⟨j,h1,h2,rfl⟩
  exact⟨j,⟨h1,h2⟩,rfl⟩
def qfx(x:List Sg)(k i:Int)(j:Nat):Bool:=decide (k=2\/k=3)&&((x[j]?).map fun x=>x.on.occ i||x.off.occ i).getD false
def q3y(c:Ct)(k i:Int)(j:Nat):Bool:=decide (0<=(pil c k i j).1)||decide (0<=(pil c k i j).2)
def zky(c:Ct)(A:Nat)(k i:Int):List Int:=qim (qfx c.signals k i) (qal c A) c.signals.length++qim (q3y c k i) (qad c A) A
abbrev h18(c:Ct)(k i:Int)(g m:Nat)(l:List Int):H:=[⟨0,.box c.cells⟩,⟨0,.box [num k,num i]⟩,⟨0,.arr 0 []⟩,⟨g,.arr m (l.map qbo)⟩]
theorem zox(c:Ct)(k i:Int)(A j:Nat)(hj:j<A):(qft c k i A)[j]?=some (pil c k i j):=by
 unfold qft
 rw[List.getElem?_map,List.getElem?_range hj]
 rfl
theorem qqq{f:Nat->Int}:∀{n k:Nat},goE f k n=0->∀j,k<=j->j<k+n->f j=0
 | 0,k,_,j,h1,h2=>by omega
 | n+1,k,h,j,h1,h2=>by
  rw[goE]at h
  by_cases hf:f k=0
  .rw[if_pos hf]at h
   by_cases hj:j=k
   .rw[hj];exact hf
   .exact qqq h j (by omega) (by omega)
  .rw[if_neg hf]at h
   exact absurd h hf
structure Rgt(c:Ct)(A:Nat):Prop where
 mid:Mid c A
 plus:c.plus.length=A
 minus:c.minus.length=A
 on:∀x∈c.signals,x.on.err (qad c A:Nat)=0
 off:∀x∈c.signals,x.off.err (qad c A:Nat)=0\/x.off.zero=true
 name:∀i x,c.signals[i]?=some x->qeh (qax c A (qal c A+i)) x.name=0
 inp:∀j,j<c.inputs.length->qeh (qax c A (2*A+j)) (qbl c A (2*A+j))=0
 pp:c.plus.any (qhn (qad c A))=false
 mm:c.minus.any (qhn (qad c A))=false
theorem qgq{c:Ct}(h:c.check=0)(hfew:c.small=true):Rgt c c.act.toNat:=by
 have hM:=qfs h hfew
 generalize hA:c.act.toNat=A at *
 have h2:ctE c A=0:=by
  unfold Ct.check at h
  split at h
  .cases h
  .split at h
   .cases h
   .rw[hA]at h;exact h
 unfold ctE at h2
 split at h2
 .rename_i hi
  split at h2
  .rename_i hs
   have hsig:∀i x,c.signals[i]?=some x->q8z c A (qax c A (qal c A+i)) i x=0:=fun i x hx=>by
    have hil:i<c.signals.length:=by
     rcases Nat.lt_or_ge i c.signals.length with h | h
     .exact h
     .rw[jY h]at hx;cases hx
    have h3:=qqq hs i (by omega) (by omega)
    unfold qvl at h3
    rw[hx]at h3
    exact h3
   unfold zjv at h2
   split at h2
   .cases h2
   .rename_i hpl
    split at h2
    .cases h2
    .rename_i hbad
     refine⟨hM,by omega,by omega,fun x hx=>?_,fun x hx=>?_,fun i x hx=>?_,fun j hj=>qqq hi j (by omega) (by omega),?_,?_⟩
     .obtain⟨i,hil,rfl⟩:=List.mem_iff_getElem.1 hx
      have h3:=hsig i _ (jA hil)
      unfold q8z at h3
      split at h3
      .split at h3
       .cases h3
       .split at h3
        .rename_i h4;exact qqf h4
        .rename_i h4;exact absurd h3 h4
      .rename_i h4;exact absurd h3 h4
     .obtain⟨i,hil,rfl⟩:=List.mem_iff_getElem.1 hx
      have h3:=hsig i _ (jA hil)
      unfold q8z at h3
      split at h3
      .split at h3
       .cases h3
       .rename_i hkr
        split at h3
        .by_cases hk1:c.signals[i].kind=1
         .refine .inl (qqf ?_)
          split at h3
          .rename_i h5;exact absurd h3 h5.2
          .rename_i h5
           exact Classical.byContradiction fun hne=>h5 ⟨hk1,hne⟩
         .refine .inr ?_
          split at h3
          .rename_i h5;exact absurd h5.1 hk1
          .split at h3
           .cases h3
           .split at h3
            .cases h3
            .split at h3
             .cases h3
             .rename_i h6
              cases hz:c.signals[i].off.zero with
              | true=>rfl
              | false=>exact absurd (.inl ⟨hk1,.inl hz⟩) h6
        .rename_i h4;exact absurd h3 h4
      .rename_i h4;exact absurd h3 h4
     .have h3:=hsig i x hx
      unfold q8z at h3
      split at h3
      .rename_i h4;exact h4
      .exact h3
     .cases hb:c.plus.any (qhn (qad c A))with
      | false=>rfl
      | true=>exact absurd (.inl hb) hbad
     .cases hb:c.minus.any (qhn (qad c A))with
      | false=>rfl
      | true=>exact absurd (.inr hb) hbad
  .rename_i h4;exact absurd h2 h4
 .rename_i h4;exact absurd h2 h4
def qun(c:Ct)(k i:Int):List Int:=if qtv c k i=0 then zky c c.act.toNat k i else []
theorem qhr{c:Ct}{k i:Int}(h:qtv c k i=0):c.check=0/\(0<=k/\k<6)/\0<=i/\(k=2\/k=3->i<(qad c c.act.toNat:Nat))/\(¬(k=2\/k=3)->i<c.act):=by
 unfold qtv at h
 split at h
 .rename_i hc
  unfold qug at h
  by_cases h1:k<0\/6<=k
  .rw[if_pos h1]at h;omega
  .rw[if_neg h1]at h
   by_cases h23:k=2\/k=3
   .rw[if_pos h23]at h
    by_cases h2:i<0\/(qad c c.act.toNat:Int)<=i
    .rw[if_pos h2]at h;omega
    .exact⟨hc,by omega,by omega,fun _=>by omega,fun h3=>absurd h23 h3⟩
   .rw[if_neg h23]at h
    by_cases h2:i<0\/c.act<=i
    .rw[if_pos h2]at h;omega
    .exact⟨hc,by omega,by omega,fun h3=>absurd h3 h23,fun _=>by omega⟩
 .rename_i hc;exact absurd h hc
end Go.Proofs.YtbepbclaoohngaaGreat
