/- Faults out. -/
import Derived.Test.YtggbaapfbgjaeaaGreatDoorFPi2
set_option linter.all false
namespace Go.Proofs.YtggbaapfbgjaeaaGreatDoor
open Go Go.Am Go.Proofs
set_option maxRecDepth 100000
mutual
def Ex.repl(n v:Int):Ex->Ex
 | .mk o i l=>if o=1/\i=n then .mk 0 v []else .mk o i (qtl n v l)
def qtl(n v:Int):List Ex->List Ex
 | []=>[]
 | x :: l=>x.repl n v :: qtl n v l
end
mutual
def Ex.had(n:Int):Ex->Bool
 | .mk o i l=>if o=1/\i=n then true else qzt n l
def qzt(n:Int):List Ex->Bool
 | []=>false
 | x :: l=>x.had n||qzt n l
end
theorem zkb(n v:Int)(x:Ex):x.repl n v=if x.op=1/\x.idx=n then .mk 0 v []else .mk x.op x.idx (qtl n v x.args):=by cases x;rw[Ex.repl];rfl
theorem zia(n:Int)(x:Ex):x.had n=if x.op=1/\x.idx=n then true else qzt n x.args:=by cases x;rw[Ex.had];rfl
theorem qyb(n v:Int):∀l:List Ex,qtl n v l=l.map (Ex.repl n v)
 | []=>rfl
 | x :: l=>by rw[qtl,qyb n v l];rfl
theorem zsy{n:Int}{l:List Ex}{k:Nat}(hk:k<l.length):qzt n (l.drop k)=(l[k].had n||qzt n (l.drop (k+1))):=by rw[jL hk,qzt]
abbrev bR(x0:Ex)(n v:Int)(b:Bool):H:=[⟨0,.box x0.cells⟩,⟨0,.box [num n]⟩,⟨0,.box [num v]⟩,⟨0,.arr 0 []⟩,⟨0,.box [num 0,num 0,.sl 3 0 0 0 0]⟩,⟨0,.box [.bool b]⟩,⟨0,.box [.fn 206 [] [.bptr 1 0,.bptr 5 0,.bptr 2 0,.bptr 6 0]]⟩]
theorem nx0{α:Type}(a:α)(z:List α):(a :: z)[0]?=some a:=rfl
theorem atN{G:H}{N:Nat}(hn:G.length=N)(k:Nat)(z:H):(G++z)[N+k]?=z[k]?:=by rw[jJ (by omega),hn,Nat.add_sub_cancel_left]
theorem at0{G:H}{N:Nat}(hn:G.length=N)(a:Ob)(z:H):(G++a :: z)[N]?=some a:=atN hn 0 (a :: z)
theorem at2{G:H}{N:Nat}(hn:G.length=N)(a b c:Ob)(z:H):(G++a :: b :: c :: z)[N+2]?=some c:=atN hn 2 (a :: b :: c :: z)
theorem at3{G:H}{N:Nat}(hn:G.length=N)(a b c d:Ob)(z:H):(G++a :: b :: c :: d :: z)[N+3]?=some d:=atN hn 3 (a :: b :: c :: d :: z)
theorem at4{G:H}{N:Nat}(hn:G.length=N)(a b c d e:Ob)(z:H):(G++a :: b :: c :: d :: e :: z)[N+4]?=some e:=atN hn 4 (a :: b :: c :: d :: e :: z)
theorem z1y{G:H}{N:Nat}(hn:G.length=N)(k:Nat)(z:H)(o:Ob):(G++z).set (N+k) o=G++z.set k o:=by rw[List.set_append_right _ _ (by omega),hn,Nat.add_sub_cancel_left]
theorem z4x{G:H}{N:Nat}(hn:G.length=N)(a b c:Ob)(z:H)(o:Ob):(G++a :: b :: c :: z).set (N+2) o=G++a :: b :: o :: z:=z1y hn 2 (a :: b :: c :: z) o
theorem z4y{G:H}{N:Nat}(hn:G.length=N)(a b c d e:Ob)(z:H)(o:Ob):(G++a :: b :: c :: d :: e :: z).set (N+4) o=G++a :: b :: c :: d :: o :: z:=z1y hn 4 (a :: b :: c :: d :: e :: z) o
theorem at5{G:H}{N:Nat}(hn:G.length=N)(a b c d e f:Ob)(z:H):(G++a :: b :: c :: d :: e :: f :: z)[N+5]?=some f:=atN hn 5 (a :: b :: c :: d :: e :: f :: z)
theorem at7{G:H}{N:Nat}(hn:G.length=N)(a b c d e f g h:Ob)(z:H):(G++a :: b :: c :: d :: e :: f :: g :: h :: z)[N+7]?=some h:=atN hn 7 (a :: b :: c :: d :: e :: f :: g :: h :: z)
theorem z7l{G:H}{N:Nat}(hn:G.length=N)(a b c d e f:Ob)(z:H)(o:Ob):(G++a :: b :: c :: d :: e :: f :: z).set (N+5) o=G++a :: b :: c :: d :: e :: o :: z:=z1y hn 5 (a :: b :: c :: d :: e :: f :: z) o
theorem z7m{G:H}{N:Nat}(hn:G.length=N)(a b c d e f g h:Ob)(z:H)(o:Ob):(G++a :: b :: c :: d :: e :: f :: g :: h :: z).set (N+7) o=G++a :: b :: c :: d :: e :: f :: g :: o :: z:=z1y hn 7 (a :: b :: c :: d :: e :: f :: g :: h :: z) o
abbrev qxi(N:Nat)(x:Ex)(g m len:Nat)(rows:List (List V))(z:H):H:=⟨0,.box x.cells⟩ :: ⟨0,.arr 0 []⟩ :: ⟨0,.box [num 0,num 0,.sl (N+1) 0 0 0 0]⟩ :: ⟨0,.arr 0 []⟩ :: ⟨0,.box [num x.op,num x.idx,.sl (N+5) g m 0 len]⟩ :: ⟨g,.arr m rows⟩ :: z
structure Keep118(N:Nat)(x:Ex)(k:Nat)(st:List V):Prop where
 nn:qaq st
 len:st.length=43
 t4:qah st 4=.bptr 6 0
 t6:qah st 6=.bptr (N+2) 0
 t7:qah st 7=.bptr (N+4) 0
 t27:qah st 27=.imm (x.args.map Ex.row)
 t28:qah st 28=num x.args.length
 t29:qah st 29=num k
def z2a(x0:Ex)(n v:Int)(x:Ex)(r:H)(b0:Bool)(k:Nat)(st:St):Prop:=∃b g m,st.h=bR x0 n v b++r++qxi (7+r.length) x g m k ((x.args.take k).map fun y=>(y.repl n v).row) []/\(m=3\/m=0)/\Keep118 (7+r.length) x k st.s/\(b0||qzt n x.args)=(b||qzt n (x.args.drop k))
def z2g(x0:Ex)(n v:Int)(x:Ex)(r:H)(b0:Bool)(q:Am.R):Prop:=q.x=.exit 0/\∃g m,q.st.h=bR x0 n v (b0||qzt n x.args)++r++qxi (7+r.length) x g m x.args.length (x.args.map fun y=>(y.repl n v).row) []/\(m=3\/m=0)/\Keep118 (7+r.length) x x.args.length q.st.s
theorem ztm(x0:Ex)(n v:Int)(x:Ex)(hx:x.nodes<=256)(r:H)(hr:∀b,calm (bR x0 n v b++r))
  (ih:∀y∈x.args,∀(b:Bool) (r:H),y.nodes<=256->(∀b,calm (bR x0 n v b++r))->ev pg (.call (.fn 206 [] [.bptr 1 0,.bptr 5 0,.bptr 2 0,.bptr 6 0]) [y.v] (bR x0 n v b++r))=some { v:=(y.repl n v).v,st:=⟨[],bR x0 n v (b||y.had n)++r⟩ })
  (b0:Bool) (N:Nat) (hN:N=7+r.length) (st:St) (h0:z2a x0 n v x r b0 0 st):∃q,ev pg (.code (.going (N+6) L206_0) st)=some q/\z2g x0 n v x r b0 q:=by
 have hfew:=qfk hx;refine qat (z2a x0 n v x r b0) x.args.length (z2g x0 n v x r b0) h0 ?_ ?_
 .rintro k ⟨sl,h⟩ hk ⟨b,g,m,rfl,hm,⟨hnn,hl,e4,e6,e7,e27,e28,e29⟩,hw⟩;simp only at hl e4 e6 e7 e27 e28 e29;have hnl:∀j,qah sl j ≠ .nils:=qap hnn;have hk':(k:Int)<x.args.length:=by omega
  have wk:=qbc k;have hmem:=jH hk;have hgk:=jA hk;have h47:(k+1)*40<=140737488355328:=by omega
  have hkl:((x.args.take k).map fun y=>(y.repl n v).row).length=k:=by simp;omega
  have hsuc:(x.args.take (k+1)).map (fun y=>(y.repl n v).row)=(x.args.take k).map (fun y=>(y.repl n v).row)++[(x.args[k].repl n v).row]:=by rw[jK hk,List.map_append];rfl
  generalize hrows:(x.args.take k).map (fun y=>(y.repl n v).row)=rows at *;have hry:∀b,calm (bR x0 n v b++(r++qxi N x g m k rows [⟨0,.arr 0 []⟩,⟨0,.box x.args[k].cells⟩])):=fun b=>by
   rw[<-List.append_assoc];have h8:(bR x0 n v b++r:H).length=N:=by simp;omega
   refine qga (hr b) ?_;rw[h8];simp[qbx]
  have hc:=ih x.args[k] hmem b _ (qey hx hmem) hry;rw[<-List.append_assoc,<-List.append_assoc]at hc;rw[zsy hk,<-Bool.or_assoc]at hw;rw[<-hN]at e6 e7 ⊢;have hl0:(bR x0 n v b++r:H).length=N:=by simp;omega
  have g6:∀z,(bR x0 n v b++r++z)[6]?=some ⟨0,.box [.fn 206 [] [.bptr 1 0,.bptr 5 0,.bptr 2 0,.bptr 6 0]]⟩:=fun z=>rfl;generalize hs2:(b||x.args[k].had n)=b2 at *;have hl2:(bR x0 n v b2++r:H).length=N:=by simp;omega
  have hcut:∀g m k (rows:List (List V)) z,qgk (N+6) ((bR x0 n v b2++r)++qxi N x g m k rows z)=(bR x0 n v b2++r)++qxi N x g m k rows []:=fun g m k rows z=>by
   have hcl:calm ((bR x0 n v b2++r)++qxi N x g m k rows []):=by refine qga (hr b2) ?_;rw[hl2];simp[qbx]
   have:=qog hcl z;rw[jF,hl2,List.append_assoc]at this;exact this
  generalize hG:bR x0 n v b++r=G at *;generalize hG2:bR x0 n v b2++r=G2 at *;generalize hrow:(x.args[k].repl n v)=y' at *;rw[qac hl];simp[-qgk,-getElem?_pos,qab,exT,qag,L206_0,List.range,List.range.loop,e4,e6,e7,e27,e28,e29,hgk,hk',wk,hl0,at4 hl0,at7 hl0,z7m hl0,at5 hl2,at4 hl2,z7l hl2,z4y hl2,g6,hc,hm,h47,hkl,nx0];rw[hcut];have hN0:0<N:=by omega
  simp only[if_pos hN0];refine⟨b2,g+1,3,?_,.inl rfl,⟨?_,rfl,rfl,?_,?_,rfl,rfl,rfl⟩,hw⟩
  .rw[hsuc,<-hN,hG2,q0v]
  .simp[qaq,hnl]
  .rw[<-hN];rfl
  .rw[<-hN];rfl
 .rintro⟨sl,h⟩ ⟨b,g,m,rfl,hm,⟨hnn,hl,e4,e6,e7,e27,e28,e29⟩,hw⟩;simp only[List.drop_length]at hl e4 e6 e7 e27 e28 e29 hw;rw[qzt,Bool.or_false]at hw;have hnl:∀j,qah sl j ≠ .nils:=qap hnn;rw[qac hl];simp[L206_0,List.range,List.range.loop,e4,e6,e7,e27,e28,e29];refine⟨rfl,g,m,?_,hm,⟨?_,rfl,rfl,rfl,rfl,rfl,rfl,rfl⟩⟩
  .rw[hw];simp
  .simp[qaq,hnl]
theorem ev206(x0:Ex)(n v:Int):∀(x:Ex) (b:Bool) (r:H),x.nodes<=256->(∀b,calm (bR x0 n v b++r))->ev pg (.call (.fn 206 [] [.bptr 1 0,.bptr 5 0,.bptr 2 0,.bptr 6 0]) [x.v] (bR x0 n v b++r))=some { v:=(x.repl n v).v,st:=⟨[],bR x0 n v (b||x.had n)++r⟩ }:=by
 refine Ex.ind fun x ih b r hx hr=>?_;have hl0:(bR x0 n v b++r:H).length=7+r.length:=by simp;omega
 have g1:∀z,(bR x0 n v b++r++z)[1]?=some ⟨0,.box [num n]⟩:=fun z=>rfl;have g2:∀z,(bR x0 n v b++r++z)[2]?=some ⟨0,.box [num v]⟩:=fun z=>rfl;have g2':∀z,(bR x0 n v true++r++z)[2]?=some ⟨0,.box [num v]⟩:=fun z=>rfl;have s5:∀z,(bR x0 n v b++r++z).set 5 ⟨0,.box [.bool true]⟩=bR x0 n v true++r++z:=fun z=>rfl;have g5:∀z,(bR x0 n v b++r++z)[5]?=some ⟨0,.box [.bool b]⟩:=fun z=>rfl;rw[qaa,pg206.1,zkb,zia];by_cases hm:x.op=1/\x.idx=n
 .have hck:=qef (hr true);have hl1:(bR x0 n v true++r:H).length=7+r.length:=by simp;omega
  rw[if_pos hm,if_pos hm,Bool.or_true];rw[hl1]at hck;generalize bR x0 n v true++r=G1 at *;generalize bR x0 n v b++r=G at *;generalize 7+r.length=N at *;obtain⟨h1,h2⟩:=hm;have h1b:(x.op==1)=true:=by simpa using h1
  have h2b:(x.idx==n)=true:=by simpa using h2
  simp[-qde,-getElem?_pos,ir206,hl0,hl1,at0 hl0,at2 hl1,at3 hl1,z4x hl1,g1,g2',g5,s5,h1b,h2b,hck];exact⟨rfl,rfl,rfl⟩
 .have hck:=qef (hr (b||qzt n x.args));have hl1:(bR x0 n v (b||qzt n x.args)++r:H).length=7+r.length:=by simp;omega
  have hloop:=ztm x0 n v x hx r hr ih b (7+r.length) rfl;have hI:∀st:St,(st.h=bR x0 n v b++r++qxi (7+r.length) x 0 0 0 [] []/\Keep118 (7+r.length) x 0 st.s)->z2a x0 n v x r b 0 st:=fun st hst=>⟨b,0,0,hst.1,.inr rfl,hst.2,rfl⟩
  unfold z2g at hloop;rw[if_neg hm,if_neg hm];rw[hl1]at hck;rw[qyb];generalize bR x0 n v (b||qzt n x.args)++r=G1 at *;generalize bR x0 n v b++r=G at *;generalize 7+r.length=N at *;by_cases h1:x.op=1
  .have h2:¬x.idx=n:=fun h2=>hm ⟨h1,h2⟩;have h1b:(x.op==1)=true:=by simpa using h1
   have h2b:(x.idx==n)=false:=by simpa using h2
   simp[-qde,-getElem?_pos,ir206,hl0,at0 hl0,at4 hl0,z4y hl0,g1,h1b,h2b,qai];generalize hq:ev pg (.code (.going _ L206_0) _)=o;obtain⟨q,rfl,hqx,g,m,hh,hm3,⟨hqn,hql,q4,q6,q7,q27,q28,q29⟩⟩:∃q,o=some q/\_:=by rw[<-hq];exact hloop _ (hI _ ⟨rfl,⟨by simp[qaq],rfl,rfl,rfl,rfl,rfl,rfl,rfl⟩⟩)
   simp[-qde,-getElem?_pos,hqx,hh,hql,q6,q7,hl1,at4 hl1,at2 hl1,z4x hl1,at5 hl1,hck];refine⟨rfl,rfl,?_⟩;show _=List.map Ex.row (List.map (Ex.repl n v) x.args);rw[List.map_map];exact List.map_congr_left fun y _=>(q0v _).symm
  .have h1b:(x.op==1)=false:=by simpa using h1
   simp[-qde,-getElem?_pos,ir206,hl0,at0 hl0,at4 hl0,z4y hl0,h1b,qai];generalize hq:ev pg (.code (.going _ L206_0) _)=o;obtain⟨q,rfl,hqx,g,m,hh,hm3,⟨hqn,hql,q4,q6,q7,q27,q28,q29⟩⟩:∃q,o=some q/\_:=by rw[<-hq];exact hloop _ (hI _ ⟨rfl,⟨by simp[qaq],rfl,rfl,rfl,rfl,rfl,rfl,rfl⟩⟩)
   simp[-qde,-getElem?_pos,hqx,hh,hql,q6,q7,hl1,at4 hl1,at2 hl1,z4x hl1,at5 hl1,hck];refine⟨rfl,rfl,?_⟩;show _=List.map Ex.row (List.map (Ex.repl n v) x.args);rw[List.map_map];exact List.map_congr_left fun y _=>(q0v _).symm
theorem ev173(x:Ex)(n v:Int)(hx:x.nodes<=256):ev pg (.call (fnq 173) [x.v,num n,num v] [])=some (rvq (.tup [(x.repl n v).v,.bool (x.had n)])):=by have h118:=ev206 x n v x false [] hx (fun b=>by simp[calm,qbx]);rw[List.append_nil,List.append_nil,Bool.false_or]at h118;generalize x.had n=b at *;generalize x.repl n v=y at *;rw[qaa,pg173.1];simp[qab,exT,qag,ir173,h118]
def qsk(f:Nat->Bool)(b:Int)(n:Nat):List Int:=((List.range n).filter f).map fun(j:Nat)=>b+(j:Int)
theorem qnp(f:Nat->Bool)(b:Int)(n:Nat):qsk f b (n+1)=if f n=true then qsk f b n++[b+(n:Int)]else qsk f b n:=by unfold qsk;rw[List.range_succ,List.filter_append,List.map_append];cases h:f n<;>simp[h]
theorem qig(f:Nat->Bool)(b:Int)(n:Nat):(qsk f b n).length<=n:=by unfold qsk;rw[List.length_map];exact Nat.le_trans (List.length_filter_le _ _) (by simp)
theorem zbp(f:Nat->Bool)(b:Int)(n:Nat)(v:Int):v∈qsk f b n<->∃j:Nat,j<n/\f j=true/\v=b+(j:Int):=by
 unfold qsk;simp only[List.mem_map,List.mem_filter,List.mem_range];constructor
 .rintro⟨j,⟨h1,h2⟩,rfl⟩;exact⟨j,h1,h2,rfl⟩
 .rintro⟨j,h1,h2,rfl⟩;exact⟨j,⟨h1,h2⟩,rfl⟩
theorem qrd{f:Nat->Int}:∀{n k:Nat},goE f k n=0->∀j,k<=j->j<k+n->f j=0
 | 0,k,_,j,h1,h2=>by omega
 | n+1,k,h,j,h1,h2=>by
  rw[goE]at h;by_cases hf:f k=0
  .rw[if_pos hf]at h;by_cases hj:j=k
   .rw[hj];exact hf
   .exact qrd h j (by omega) (by omega)
  .rw[if_neg hf]at h;exact absurd h hf
structure Rgt(c:Ct)(A:Nat):Prop where
 mid:Mid c A
 plus:c.plus.length=A
 minus:c.minus.length=A
 on:∀x∈c.signals,x.on.err (qad c A:Nat)=0
 off:∀x∈c.signals,x.off.err (qad c A:Nat)=0\/x.off.zero=true
 name:∀i x,c.signals[i]?=some x->qes (qaw c A (qal c A+i)) x.name=0
 inp:∀j,j<c.inputs.length->qes (qaw c A (2*A+j)) (qbj c A (2*A+j))=0
 pp:c.plus.any (qfz (qad c A))=false
 mm:c.minus.any (qfz (qad c A))=false
theorem qiz{c:Ct}(h:c.check=0)(hfew:c.small=true):Rgt c c.act.toNat:=by
 have hM:=qfx h hfew;generalize hA:c.act.toNat=A at *;have h2:ctE c A=0:=by
  unfold Ct.check at h;split at h
  .cases h
  .split at h
   .cases h
   .rw[hA]at h;exact h
 unfold ctE at h2;split at h2
 .rename_i hi;split at h2
  .rename_i hs;have hsig:∀i x,c.signals[i]?=some x->q8v c A (qaw c A (qal c A+i)) i x=0:=fun i x hx=>by
    have hil:i<c.signals.length:=by
     rcases Nat.lt_or_ge i c.signals.length with h | h
     .exact h
     .rw[jY h]at hx;cases hx
    have h3:=qrd hs i (by omega) (by omega);unfold qvs at h3;rw[hx]at h3;exact h3
   unfold zjt at h2;split at h2
   .cases h2
   .rename_i hpl;split at h2
    .cases h2
    .rename_i hbad;refine⟨hM,by omega,by omega,fun x hx=>?_,fun x hx=>?_,fun i x hx=>?_,fun j hj=>qrd hi j (by omega) (by omega),?_,?_⟩
     .obtain⟨i,hil,rfl⟩:=List.mem_iff_getElem.1 hx;have h3:=hsig i _ (jA hil);unfold q8v at h3;split at h3
      .split at h3
       .cases h3
       .split at h3
        .rename_i h4;exact qqw h4
        .rename_i h4;exact absurd h3 h4
      .rename_i h4;exact absurd h3 h4
     .obtain⟨i,hil,rfl⟩:=List.mem_iff_getElem.1 hx;have h3:=hsig i _ (jA hil);unfold q8v at h3;split at h3
      .split at h3
       .cases h3
       .rename_i hkr;split at h3
        .by_cases hk1:c.signals[i].kind=1
         .refine .inl (qqw ?_);split at h3
          .rename_i h5;exact absurd h3 h5.2
          .rename_i h5;exact Classical.byContradiction fun hne=>h5 ⟨hk1,hne⟩
         .refine .inr ?_;split at h3
          .rename_i h5;exact absurd h5.1 hk1
          .split at h3
           .cases h3
           .split at h3
            .cases h3
            .split at h3
             .cases h3
             .rename_i h6;cases hz:c.signals[i].off.zero with
              | true=>rfl
              | false=>exact absurd (.inl ⟨hk1,.inl hz⟩) h6
        .rename_i h4;exact absurd h3 h4
      .rename_i h4;exact absurd h3 h4
     .have h3:=hsig i x hx;unfold q8v at h3;split at h3
      .rename_i h4;exact h4
      .exact h3
     .cases hb:c.plus.any (qfz (qad c A))with
      | false=>rfl
      | true=>exact absurd (.inl hb) hbad
     .cases hb:c.minus.any (qfz (qad c A))with
      | false=>rfl
      | true=>exact absurd (.inr hb) hbad
  .rename_i h4;exact absurd h2 h4
 .rename_i h4;exact absurd h2 h4
theorem qkp{c:Ct}{k i:Int}(h:q2c c k i=0):c.check=0/\(0<=k/\k<6)/\0<=i/\(k=2\/k=3->i<(qad c c.act.toNat:Nat))/\(¬(k=2\/k=3)->i<c.act):=by
 unfold q2c at h;split at h
 .rename_i hc;unfold qum at h;by_cases h1:k<0\/6<=k
  .rw[if_pos h1]at h;omega
  .rw[if_neg h1]at h;by_cases h23:k=2\/k=3
   .rw[if_pos h23]at h;by_cases h2:i<0\/(qad c c.act.toNat:Int)<=i
    .rw[if_pos h2]at h;omega
    .exact⟨hc,by omega,by omega,fun _=>by omega,fun h3=>absurd h23 h3⟩
   .rw[if_neg h23]at h;by_cases h2:i<0\/c.act<=i
    .rw[if_pos h2]at h;omega
    .exact⟨hc,by omega,by omega,fun h3=>absurd h3 h23,fun _=>by omega⟩
 .rename_i hc;exact absurd h hc
theorem znn{n:Int}{l:List Ex}(ih:∀y∈l,y.had n=y.occ n):qzt n l=q2u n l:=by
 induction l with
 | nil=>rfl
 | cons y l ihl=>rw[qzt,q2u,ih y (by simp),ihl fun z hz=>ih z (by simp[hz])]
theorem zsz(n m:Int):∀x:Ex,x.err m=0->x.had n=x.occ n:=by
 refine Ex.ind fun x ih hx=>?_;obtain⟨h1,h2⟩:=qhk hx;rw[zia,q0i];by_cases ho:x.op=1
 .have ha:x.args=[]:=List.length_eq_zero_iff.1 (q2t h1 ho);rw[if_pos ho,ha];by_cases hi:x.idx=n
  .simp[ho,hi]
  .simp[hi,qzt]
 .rw[if_neg (fun h=>ho h.1),if_neg ho];exact znn fun y hy=>ih y hy (h2 y hy)
theorem ev172(c:Ct)(hfew:c.small=true)(hc:c.check=0)(i:Nat)(hi:i<qad c c.act.toNat):ev pg (.call (fnq 172) [c.v,num i] [])=some (rvq (.tup [.str (qbj c c.act.toNat i),num 0])):=by
 have hR:=qiz hc hfew;have h29:=ev44 c hfew;have h133:=ev128 hR.mid;have h127:=ev123 hR.mid i hi;rw[hc]at h29;have hlt:¬((qad c c.act.toNat:Int)<=(i:Int)):=by omega
 have h0:¬((i:Int)<0):=by omega
 generalize qad c c.act.toNat=N at *;rw[qaa,pg172.1];simp[ir172,h29,h133,h127,h0,hlt]
def Q21(r:R):Prop:=r.x=.exit 0/\r.st.h=[]/\r.st.s.length=26
def I22(l:List Int)(k:Nat)(st:St):Prop:=st.h=[]/\st.s.length=26/\qah st.s 0=qcr l/\qah st.s 1=qcr l/\qah st.s 5=num k
theorem zyt(l:List Int)(hl9:l.length<=1032)(st:St)(h0:I22 l 0 st):∃r,ev pg (.code (.going 0 L18_0) st)=some r/\Q21 r:=by
 refine qat (I22 l) l.length Q21 h0 ?_ ?_
 .rintro k ⟨s,hh⟩ hk ⟨rfl,hl,e0,e1,e5⟩;simp only at hl e0 e1 e5;have hk':(k:Int)<l.length:=by omega
  have wk:=qbc k;have hget:=jA hk;generalize l[k]=p at *;rw[qac hl];simp[L18_0,I22,List.range,List.range.loop,e0,e1,e5,hk',hget,wk]
 .rintro⟨s,hh⟩ ⟨rfl,hl,e0,e1,e5⟩;simp only at hl e0 e1 e5;rw[qac hl];simp[L18_0,Q21,List.range,List.range.loop,e0,e1,e5]
theorem ev18(l:List Int)(hl9:l.length<=1032):ev pg (.call (fnq 18) [qcr l,qcr l] [])=some (rvq (.bool true)):=by
 have hloop:=zyt l hl9;rw[qaa,pg18.1];simp[ir18,qai];generalize hr:ev pg (.code (.going 0 L18_0) _)=o;obtain⟨r,rfl,hx,hh,hl⟩:∃r,o=some r/\_:=by rw[<-hr];exact hloop _ ⟨by simp,by simp,by simp,by simp,by simp⟩
 simp[hx,hl]
end Go.Proofs.YtggbaapfbgjaeaaGreatDoor
