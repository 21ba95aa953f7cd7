/- The value. -/
import Derived.Test.YtggbaapfbgjaeaaGreatDoorFCs2
import Derived.Test.YtggbaapfbgjaeaaGreatDoorFLi1
set_option linter.all false
namespace Go.Proofs.YtggbaapfbgjaeaaGreatDoor
open Go Go.Am Go.Proofs
set_option maxRecDepth 100000
theorem zek{c:Ct}{A:Nat}(hM:Mid c A)(s:Ste):qby c s=qcy c (qad c A) 65 s []:=by unfold qby;rw[show c.act.toNat=A by rw[hM.act];rfl]
def q1b(Z:Option (Ste×List Int)):List V:=match Z with
 | some (t,m)=>[t.v,qcr m]
 | none=>[qfa.v,qcr []]
theorem ev264(c:Ct){A:Nat}(hM:Mid c A)(s:Ste)(hs:s.small)(hS:Shp c s)(hok:∀x∈c.signals,SigOk (qae s).length x):∃n:Int,ev pg (.call (fnq 264) [c.v,s.v] [])=some (rvq (.tup (q1b (qby c s)++[num n,.bool (qby c s).isSome]))):=by
 have hl:=@z3l c A hM s hs hS hok;rw[zek hM];generalize qcy c (qad c A) 65 s []=Z at *;rw[qaa,pg264.1];simp[ir264,qai];generalize hr:ev pg (.code (.going _ L264_2) _)=o;obtain⟨r,rfl,hQ⟩:∃r,o=some r/\_:=by rw[<-hr];exact hl (by simp[zpm,qyl])
 clear hr;cases Z with
 | none =>obtain⟨t,M,f,hf,rfl⟩:=hQ;simp[zpm,q1b,qfa]
 | some p =>obtain⟨t,m⟩:=p;obtain⟨M,u,n,⟨g,w⟩,hw,f,hf,rfl⟩:=hQ;have hww:w=1\/w=0:=hw;rcases hww with rfl | rfl<;>simp[zli,q1b]
theorem ev240(c:Ct){A:Nat}(hM:Mid c A)(s:Ste)(hs:s.small)(hS:Shp c s)(hok:∀x∈c.signals,SigOk (qae s).length x):ev pg (.call (fnq 240) [c.v,s.v] [])=some (rvq (.tup (q1b (qby c s)++[.bool (qby c s).isSome]))):=by
 obtain⟨n,h⟩:=ev264 c hM s hs hS hok;rw[qaa,pg240.1];cases hZ:qby c s with
 | none =>rw[hZ]at h;simp[q1b]at h;simp[ir240,h,q1b]
 | some p =>obtain⟨t,m⟩:=p;rw[hZ]at h;simp[q1b]at h;simp[ir240,h,q1b]
theorem zbr{α:Type}{l:List α}{k:Nat}{x:α}(h:l[k]?=some x):l.set k x=l:=by
 refine List.ext_getElem? fun j=>?_;rw[List.getElem?_set];split
 .rename_i e;subst e;rw[h];split
  .rfl
  .rename_i hn;rw[jY (by omega)]at h;cases h
 .rfl
abbrev ge(s:Ste)(k:Nat):List Int:=mix (List.zipWith qkr s.valves s.ends) s.ends k
abbrev q5c(s:Ste)(k:Nat):H:=[⟨0,.box s.cells⟩,o0,o0,o0,o0,o0,⟨0,.box (q3u 1)⟩,⟨0,.arr 1 ((ge s k).map qbk)⟩,⟨0,.arr 1 (s.valves.map qfj)⟩,⟨0,.arr 1 (s.inputs.map qfj)⟩,⟨0,.arr 1 (s.values.map qfj)⟩,⟨0,.arr 1 (s.timers.map qbk)⟩,o0,o0,o0,o0,o0,⟨0,.box [.sl 7 0 1 0 s.ends.length,.sl 8 0 1 0 s.valves.length,.sl 9 0 1 0 s.inputs.length,.sl 10 0 1 0 s.values.length,.sl 11 0 1 0 s.timers.length]⟩]
def zrc(k:Nat):Tm:=[none,bN 0,bN 6,bN 17,nN k]++zN 61
theorem z3i(s:Ste)(hs:s.small)(hw:s.valves.length=s.ends.length){st:St}(h0:At (zrc 0) (q5c s 0) st):∃r,ev pg (.code (.going 18 L242_0) st)=some r/\qar (.exit 0) (zrc s.ends.length) (q5c s s.ends.length) r:=by
 have hse:=hs.e;refine qfn s.ends.length zrc (q5c s) _ ?_ ?_ h0
 .intro k f hf hk;have hk':(k:Int)<s.ends.length:=by omega
  have hkw:k<s.valves.length:=by omega
  have wk:=qbc k;have l1:(List.zipWith qkr s.valves s.ends).length=s.ends.length:=by rw[List.length_zipWith];omega
  have e1:=qki (A:=List.zipWith qkr s.valves s.ends) (B:=s.ends) l1 (k:=k) (by omega);rw[List.getElem_zipWith]at e1;have e2:=qtb (A:=List.zipWith qkr s.valves s.ends) (B:=s.ends) l1 (k:=k) (by omega);rw[jA hk]at e2;have m1:=qlq (A:=List.zipWith qkr s.valves s.ends) (B:=s.ends) l1 (k:=k) (by omega);rw[l1]at m1;unfold q5c ge zrc;rw[<-e1];have e3:=zbr e2;generalize mix (List.zipWith qkr s.valves s.ends) s.ends k=E at *;have hkE:k<E.length:=by omega
  unfold qkr;by_cases z0:s.ends[k]=0
  .cases hv:s.valves[k]<;>rw[z0]at e3<;>simp[L242_0,hk,hk',hkw,hkE,wk,hv,z0,e3,m1.symm,hf.ne]
  .by_cases z3:s.ends[k]=3
   .cases hv:s.valves[k]<;>rw[z3]at e3<;>simp[L242_0,hk,hk',hkw,hkE,wk,hv,z3,e3,m1.symm,hf.ne]
   .by_cases z2:s.ends[k]=2
    .cases hv:s.valves[k]<;>rw[z2]at e3<;>simp[L242_0,hk,hk',hkw,hkE,wk,hv,z2,e3,m1.symm,hf.ne]
    .by_cases z1:s.ends[k]=1
     .cases hv:s.valves[k]<;>rw[z1]at e3<;>simp[L242_0,hk,hk',hkw,hkE,wk,hv,z1,e3,m1.symm,hf.ne]
     .have b0:(s.ends[k]==0)=false:=by simpa using z0
      have b1:(s.ends[k]==1)=false:=by simpa using z1
      have b2:(s.ends[k]==2)=false:=by simpa using z2
      have b3:(s.ends[k]==3)=false:=by simpa using z3
      cases hv:s.valves[k]<;>simp[L242_0,hk,hk',hkw,wk,hv,z0,z1,z2,z3,b0,b1,b2,b3,e3,hf.ne]
 .intro f hf;unfold q5c ge zrc;simp[L242_0,hf.ne]
theorem ev242(s:Ste)(hs:s.small)(hw:s.valves.length=s.ends.length):ev pg (.call (fnq 242) [s.v] [])=some (rvq ((qkf s).v)):=by
 have hl:=@z3i s hs hw;have h130:=ev189 s hs;have l1:(List.zipWith qkr s.valves s.ends).length=s.ends.length:=by rw[List.length_zipWith];omega
 have z0:ge s 0=s.ends:=qhl _ _;have z1:ge s s.ends.length=List.zipWith qkr s.valves s.ends:=by have:=qkh l1;rwa [l1]at this
 unfold q5c at hl;rw[z0,z1]at hl;unfold qkf;generalize List.zipWith qkr s.valves s.ends=E at *;rw[qaa,pg242.1];simp[ir242,h130,qai];generalize hr:ev pg (.code (.going _ L242_0) _)=o;obtain⟨r,rfl,f,hf,rfl⟩:∃r,o=some r/\_:=by rw[<-hr];exact hl (by simp[zrc])
 simp[zrc,l1.symm]
structure Pil(c:Ct)(A:Nat)(N:Nat):Prop where
 p:c.plus.length=A
 m:c.minus.length=A
 pb:∀x∈c.plus,0<=x/\x<(N:Int)
 mb:∀x∈c.minus,0<=x/\x<(N:Int)
theorem zju{L:List Bool}{p:List Int}{k:Nat}(hk:k<p.length)(hb:∀x∈p,0<=x/\x<(L.length:Int)):0<=p[k]/\∃h:p[k].toNat<L.length,L[p[k].toNat]=qbp L p k:=by
 obtain⟨h1,h2⟩:=hb _ (jH hk);refine⟨h1,by omega,?_⟩;have h3:p[k].toNat<L.length:=by omega
 unfold qbp;rw[jA hk];simp[h3]
abbrev vm(c:Ct)(s:Ste)(L:List Bool)(k:Nat):List Bool:=mix (s.valves.mapIdx (qjg c L)) s.valves k
abbrev cfL(c:Ct)(L:List Bool)(A k:Nat):List Int:=qsk (fun i=>qbp L c.plus i&&qbp L c.minus i) (qad c A:Nat) k
abbrev zhy(c:Ct)(s:Ste)(L:List Bool)(A k:Nat)(a:Nat×Nat):H:=[⟨0,.box c.cells⟩,⟨0,.box s.cells⟩,o0,o0,o0,o0,o0,⟨0,.box (q3u 2)⟩,⟨0,.arr 1 (s.ends.map qbk)⟩,⟨0,.arr 1 ((vm c s L k).map qfj)⟩,⟨0,.arr 1 (s.inputs.map qfj)⟩,⟨0,.arr 1 (s.values.map qfj)⟩,⟨0,.arr 1 (s.timers.map qbk)⟩,o0,o0,o0,o0,o0,⟨0,.box [.sl 8 0 1 0 s.ends.length,.sl 9 0 1 0 s.valves.length,.sl 10 0 1 0 s.inputs.length,.sl 11 0 1 0 s.values.length,.sl 12 0 1 0 s.timers.length]⟩,⟨0,.arr 1 (L.map qfj)⟩,o0,⟨a.1,.arr a.2 ((cfL c L A k).map qbk)⟩]
def zvu(c:Ct)(L:List Bool)(A k:Nat)(a:Nat×Nat):Tm:=[none,none,bN 0,bN 1,bN 7,some (.sl 20 0 0 0 0),bN 18,some (.sl 19 0 1 0 L.length),some (.sl 21 a.1 a.2 0 (cfL c L A k).length),nN k]++zN 50
set_option maxHeartbeats 1000000 in
theorem z3h(c:Ct){A:Nat}(hM:Mid c A)(s:Ste)(hw:s.valves.length=A)(L:List Bool)(hP:Pil c A L.length){st:St}(a0:Nat×Nat)(g0:a0.2=1\/a0.2=0)(h0:At (zvu c L A 0 a0) (zhy c s L A 0 a0) st):∃r,ev pg (.code (.going 22 L241_0) st)=some r/\∃a:Nat×Nat,(a.2=1\/a.2=0)/\qar (.exit 0) (zvu c L A A a) (zhy c s L A A a) r:=by
 have hn1:=hM.sig;have hn2:=hM.inp;have hn3:=hM.hi;have hact:=hM.act;have hN:qad c A<=172:=by unfold qad;omega
 have h102:=ev116 hM;refine qcg A (zvu c L A) (zhy c s L A) (fun _ a=>a.2=1\/a.2=0) _ ?_ ?_ a0 g0 h0
 .rintro k ⟨g,m⟩ f hf hk hG;have hk':(k:Int)<c.act:=by omega
  have wk:=qbc k;have hkp:k<c.plus.length:=by rw[hP.p];exact hk
  have hkm:k<c.minus.length:=by rw[hP.m];exact hk
  have hkw:k<s.valves.length:=by omega
  obtain⟨p0,p1,p2⟩:=zju hkp hP.pb;obtain⟨q0,q1,q2⟩:=zju hkm hP.mb;have l1:(s.valves.mapIdx (qjg c L)).length=s.valves.length:=List.length_mapIdx;have e1:=qki (A:=s.valves.mapIdx (qjg c L)) (B:=s.valves) l1 (k:=k) (by omega);rw[List.getElem_mapIdx]at e1;have e2:=qtb (A:=s.valves.mapIdx (qjg c L)) (B:=s.valves) l1 (k:=k) (by omega);rw[jA hkw]at e2;have m1:=qlq (A:=s.valves.mapIdx (qjg c L)) (B:=s.valves) l1 (k:=k) (by omega);rw[l1]at m1;have e3:=zbr e2;have e4:=qnp (fun i=>qbp L c.plus i&&qbp L c.minus i) (qad c A:Nat) k;have hsl:=qig (fun i=>qbp L c.plus i&&qbp L c.minus i) (qad c A:Nat) k;unfold zhy zvu vm cfL;have hvf:qjg c L k s.valves[k]=if qbp L c.plus k != qbp L c.minus k then qbp L c.plus k else s.valves[k]:=rfl;rw[<-e1,e4,hvf];clear e1 l1 e2 hvf;generalize mix (s.valves.mapIdx (qjg c L)) s.valves k=E at *;generalize qsk (fun i=>qbp L c.plus i&&qbp L c.minus i) (qad c A:Nat) k=B at *;generalize qbp L c.plus k=pl at *;generalize qbp L c.minus k=mi at *;have hkE:k<E.length:=by omega
  have hb1:(B.length+1)*8<=140737488355328:=by omega
  generalize qad c A=N at *;have wN:=qam (n:=(N:Int)+(k:Int)) (by omega) (by omega);have hmm:m=1\/m=0:=hG;rcases hmm with rfl | rfl<;>cases pl<;>cases mi<;>simp[qab,exT,qag,L241_0,hk',wk,hkp,hkm,p0,p1,p2,q0,q1,q2,h102,wN,hkE,e3,m1.symm,hb1,hf.ne]
 .rintro⟨g,m⟩ f hf hG;have hk':¬((A:Int)<c.act):=by omega
  unfold zhy zvu;generalize cfL c L A A=B at *;have hmm:m=1\/m=0:=hG;rcases hmm with rfl | rfl<;>simp[L241_0,hk',hf.ne]
theorem ev241(c:Ct){A:Nat}(hM:Mid c A)(s:Ste)(hs:s.small)(hS:Shp c s)(hP:Pil c A (qae s).length):ev pg (.call (fnq 241) [c.v,s.v] [])=some (rvq (.tup [(qgq c s).v,qcr (qsk (fun i=>qbp (qae s) c.plus i&&qbp (qae s) c.minus i) (qad c A:Nat) A)])):=by
 have hact:=hM.act;have hw:s.valves.length=A:=by have:=hS.w;omega
 have hl:=@z3h c A hM s hw (qae s) hP;have h28:=ev191 c s hs hS.e;have h130:=ev189 s hs;have l1:(s.valves.mapIdx (qjg c (qae s))).length=s.valves.length:=List.length_mapIdx;have z0:vm c s (qae s) 0=s.valves:=qhl _ _;have z1:vm c s (qae s) A=s.valves.mapIdx (qjg c (qae s)):=by have:=qkh l1;rwa [l1,hw]at this
 have z2:cfL c (qae s) A 0=[]:=rfl;unfold zhy zvu at hl;rw[z0,z1,z2]at hl;unfold qgq;rw[show qsk (fun i=>qbp (qae s) c.plus i&&qbp (qae s) c.minus i) (qad c A:Nat) A=cfL c (qae s) A A from rfl];generalize s.valves.mapIdx (qjg c (qae s))=E at *;generalize cfL c (qae s) A A=B at *;generalize qae s=L at *;rw[qaa,pg241.1];simp[ir241,h28,h130,qai];generalize hr:ev pg (.code (.going _ L241_0) _)=o;obtain⟨r,rfl,⟨g,m⟩,hm,f,hf,rfl⟩:∃r,o=some r/\_:=by rw[<-hr];exact hl (0,0) (.inr rfl) (by simp)
 clear hr;have hmm:m=1\/m=0:=hm;rcases hmm with rfl | rfl<;>simp[l1.symm]
structure G65(a b:List Int)(k:Nat)(x:List Int×Nat×Nat×Nat×Nat):Prop where
 i:x.2.1<=a.length
 j:x.2.2.1<=b.length
 k:k<=x.2.1+x.2.2.1
 w:x.2.2.2.2=1\/x.2.2.2.2=0
 n:x.1.length<=x.2.1+x.2.2.1
 go:x.1++mrg (a.drop x.2.1) (b.drop x.2.2.1)=mrg a b
def T65(a b:List Int)(x:List Int×Nat×Nat×Nat×Nat):Tm:=[some (qcr a),some (qcr b),none,none,some (.sl 0 0 0 0 0),some (.sl 1 x.2.2.2.1 x.2.2.2.2 0 x.1.length),some (num x.2.1),some (num x.2.2.1)]++zN 78
abbrev h65(x:List Int×Nat×Nat×Nat×Nat):H:=[o0,⟨x.2.2.2.1,.arr x.2.2.2.2 (x.1.map qbk)⟩]
theorem zbc{a b:List Int}{i j:Nat}(hi:i<a.length)(h:j=b.length\/∃hj:j<b.length,a[i]<b[j]):mrg (a.drop i) (b.drop j)=a[i] :: mrg (a.drop (i+1)) (b.drop j):=by
 rw[jL hi];rcases h with rfl | ⟨hj,h⟩
 .rw[List.drop_length,mrg];cases List.drop (i+1) a<;>simp[mrg]
 .rw[jL hj,mrg,if_pos h]
theorem q5x{a b:List Int}{i j:Nat}(hj:j<b.length)(h:i=a.length\/∃hi:i<a.length,b[j]<a[i]):mrg (a.drop i) (b.drop j)=b[j] :: mrg (a.drop i) (b.drop (j+1)):=by
 rw[jL hj];rcases h with rfl | ⟨hi,h⟩
 .rw[List.drop_length,mrg,mrg]
 .rw[jL hi,mrg,if_neg (by omega),if_pos h]
theorem zoh{a b:List Int}{i j:Nat}(hi:i<a.length)(hj:j<b.length)(h:a[i]=b[j]):mrg (a.drop i) (b.drop j)=a[i] :: mrg (a.drop (i+1)) (b.drop (j+1)):=by rw[jL hi,jL hj,mrg,if_neg (by omega),if_neg (by omega)]
def zwx(a b:List Int)(r:R):Prop:=∃x:List Int×Nat×Nat×Nat×Nat,(x.2.2.2.2=1\/x.2.2.2.2=0)/\x.1=mrg a b/\qar (.exit 0) (T65 a b x) (h65 x) r
set_option maxHeartbeats 1000000 in
theorem z6y(a b:List Int)(ha:a.length<=4096)(hb:b.length<=4096){st:St}(a0:List Int×Nat×Nat×Nat×Nat)(g0:G65 a b 0 a0)(h0:At (T65 a b a0) (h65 a0) st):∃r,ev pg (.code (.going 2 L222_0) st)=some r/\zwx a b r:=by
 have fin:∀(x:List Int×Nat×Nat×Nat×Nat) (f:Nat->V),Junk f->x.2.1=a.length->x.2.2.1=b.length->(x.2.2.2.2=1\/x.2.2.2.2=0)->x.1++mrg (a.drop x.2.1) (b.drop x.2.2.1)=mrg a b->∃r,ev pg (.code L222_0 ⟨fill f 0 (T65 a b x),h65 x⟩)=some r/\r.x ≠ .normal/\zwx a b r:=by rintro⟨o,i,j,g,m⟩ f hf hi hj hm hgo;simp only at hi hj hm hgo;subst hi hj;rw[List.drop_length,List.drop_length,mrg,List.append_nil]at hgo;simp[T65,L222_0];exact⟨(o,a.length,b.length,g,m),hm,hgo,by simp[T65,hf.ne]⟩
 refine qcg (a.length+b.length) (fun _ x=>T65 a b x) (fun _ x=>h65 x) (G65 a b) _ ?_ ?_ a0 g0 h0
 .rintro k x f hf hk hG;by_cases hx:x.2.1=a.length/\x.2.2.1=b.length
  .obtain⟨r,h1,h2,h3⟩:=fin x f hf hx.1 hx.2 hG.w hG.go;exact⟨r,h1,.inr ⟨h2,h3⟩⟩
  .obtain⟨o,i,j,g,m⟩:=x;have q1:i<=a.length:=hG.i;have q2:j<=b.length:=hG.j;have q3:k<=i+j:=hG.k;have q4:m=1\/m=0:=hG.w;have q5:o.length<=i+j:=hG.n;have q6:o++mrg (a.drop i) (b.drop j)=mrg a b:=hG.go;have hx':¬(i=a.length/\j=b.length):=hx;have hb1:(o.length+1)*8<=140737488355328:=by omega
   have wi:=qbc i;have wj:=qbc j;by_cases hi:i<a.length
   .have hi':(i:Int)<a.length:=by omega
    have hib:((i:Int)==(a.length:Int))=false:=by simp;omega
    by_cases hj:j<b.length
    .have hj':(j:Int)<b.length:=by omega
     have hjb:((j:Int)==(b.length:Int))=false:=by simp;omega
     rcases Int.lt_trichotomy a[i] b[j]with h | h | h
     .have e:=zbc hi (.inr ⟨hj,h⟩);have hG':G65 a b (k+1) (o++[a[i]],i+1,j,g+1,1):=⟨hi,q2,by show _<=i+1+j;omega,.inl rfl,by simp;omega,by show(o++[a[i]])++_=_;rw[<-q6,e];simp⟩
      rcases q4 with rfl | rfl<;>simp[T65,L222_0,hi,hi',hj,hjb,h,hb1,wi,hf.ne]<;>exact⟨_,_,_,_,_,hG',by simp⟩
     .have hn1:¬a[i]<b[j]:=by omega
      have hn2:¬b[j]<a[i]:=by omega
      have e:=zoh hi hj h;have hG':G65 a b (k+1) (o++[a[i]],i+1,j+1,g+1,1):=⟨hi,hj,by show _<=i+1+(j+1);omega,.inl rfl,by simp;omega,by show(o++[a[i]])++_=_;rw[<-q6,e];simp⟩
      rcases q4 with rfl | rfl<;>simp[T65,L222_0,hi,hi',hib,hj,hj',hjb,hn1,hn2,hb1,wi,wj,hf.ne]<;>exact⟨_,_,_,_,_,hG',by simp⟩
     .have hn1:¬a[i]<b[j]:=by omega
      have e:=q5x hj (.inr ⟨hi,h⟩);have hG':G65 a b (k+1) (o++[b[j]],i,j+1,g+1,1):=⟨q1,hj,by show _<=i+(j+1);omega,.inl rfl,by simp;omega,by show(o++[b[j]])++_=_;rw[<-q6,e];simp⟩
      rcases q4 with rfl | rfl<;>simp[T65,L222_0,hi,hi',hib,hj,hj',hjb,hn1,h,hb1,wj,hf.ne]<;>exact⟨_,_,_,_,_,hG',by simp⟩
    .have hje:j=b.length:=by omega
     subst hje;have e:=zbc (b:=b) hi (.inl rfl);have hG':G65 a b (k+1) (o++[a[i]],i+1,b.length,g+1,1):=⟨hi,jD _,by show _<=i+1+b.length;omega,.inl rfl,by simp;omega,by show(o++[a[i]])++_=_;rw[<-q6,e];simp⟩
     rcases q4 with rfl | rfl<;>simp[T65,L222_0,hi,hi',hb1,wi,hf.ne]<;>exact⟨_,_,_,_,_,hG',by simp⟩
   .have hie:i=a.length:=by omega
    subst hie;have hj:j<b.length:=by omega
    have hj':(j:Int)<b.length:=by omega
    have hjb:((j:Int)==(b.length:Int))=false:=by simp;omega
    have e:=q5x (a:=a) hj (.inl rfl);have hG':G65 a b (k+1) (o++[b[j]],a.length,j+1,g+1,1):=⟨jD _,hj,by show _<=a.length+(j+1);omega,.inl rfl,by simp;omega,by show(o++[b[j]])++_=_;rw[<-q6,e];simp⟩
    rcases q4 with rfl | rfl<;>simp[T65,L222_0,hj,hj',hjb,hb1,wj,hf.ne]<;>exact⟨_,_,_,_,_,hG',by simp⟩
 .rintro x f hf hG;have h1:=hG.i;have h2:=hG.j;have h3:=hG.k;exact fin x f hf (by omega) (by omega) hG.w hG.go
theorem ev222(a b:List Int)(ha:a.length<=4096)(hb:b.length<=4096):ev pg (.call (fnq 222) [qcr a,qcr b] [])=some (rvq (qcr (mrg a b))):=by
 have hl:=@z6y a b ha hb;rw[qaa,pg222.1];simp[ir222,qai];generalize hr:ev pg (.code (.going _ L222_0) _)=o;obtain⟨r,rfl,⟨o,i,j,g,m⟩,hm,ho,f,hf,rfl⟩:∃r,o=some r/\_:=by rw[<-hr];exact hl ([],0,0,0,0) ⟨Nat.zero_le _,Nat.zero_le _,jD _,.inr rfl,jD _,rfl⟩ (by simp[T65])
 clear hr;have hmm:m=1\/m=0:=hm;have hoo:o=mrg a b:=ho;subst hoo;rcases hmm with rfl | rfl<;>simp[T65]
abbrev cfA(c:Ct)(t:Ste)(A:Nat):List Int:=qsk (fun i=>qbp (qae t) c.plus i&&qbp (qae t) c.minus i) (qad c A:Nat) A
theorem ev221_some(c:Ct){A:Nat}(hM:Mid c A)(s:Ste)(hs:s.small)(hS:Shp c s)(hok:∀x∈c.signals,SigOk (qae s).length x){t:Ste}{m:List Int}(hZ:qby c s=some (t,m))(ht:t.small)(hT:Shp c t)(hP:Pil c A (qae t).length)(hm:m.length<=4096):ev pg (.call (fnq 221) [c.v,s.v] [])=some (rvq (.tup [(qkf (qgq c t)).v,qcr (mrg m (cfA c t A)),.bool true])):=by
 have h124:=ev240 c hM s hs hS hok;have zhy:=ev241 c hM t ht hT hP;have hvl:(qgq c t).valves.length=t.valves.length:=List.length_mapIdx;have hsm:(qgq c t).small:=⟨ht.e,by rw[hvl];exact ht.w,ht.i,ht.v,ht.t⟩
 have q5c:=ev242 (qgq c t) hsm (by rw[hvl];have a1:=hT.e;have a2:=hT.w;show _=t.ends.length;omega);have hcl:(cfA c t A).length<=4096:=by unfold cfA;have:=qig (fun i=>qbp (qae t) c.plus i&&qbp (qae t) c.minus i) (qad c A:Nat) A;have:=hM.hi;omega
 have h65:=ev222 m (cfA c t A) hm hcl;rw[hZ]at h124;simp[q1b]at h124;generalize hB:cfA c t A=B at *;generalize qkf (qgq c t)=g at *;generalize qgq c t=u at *;rw[qaa,pg221.1];rw[show qsk (fun i=>qbp (qae t) c.plus i&&qbp (qae t) c.minus i) (qad c A:Nat) A=B from hB]at zhy;simp[ir221,h124,zhy,q5c,h65]
def T29(a b:List Bool)(k:Nat):Tm:=[some (qdc a),some (qdc b),none,none,none,none,none,none,none,none,none,none,nN a.length,nN k]++zN 12
def z2j:Tm:=[none,none,none,none,some (.bool false)]++zN 21
theorem z6p(a b:List Bool)(hab:b.length=a.length)(ha:a.length<=4096){st:St}(h0:At (T29 a b 0) [] st):∃r,ev pg (.code (.going 0 L149_0) st)=some r/\qph a.length (fun k=>a[k]? != b[k]?) (fun _=>qar .ret z2j []) (qar (.exit 0) (T29 a b a.length) []) r:=by
 refine qdw _ _ (T29 a b) [] _ _ ?_ ?_ ?_ h0
 .intro k f hf hk hp;have hk':(k:Int)<a.length:=by omega
  have hkb:k<b.length:=by omega
  have wk:=qbc k;have hb:a[k]=b[k]:=by simpa[hk,hkb]using hp
  simp[qab,exT,qag,T29,L149_0,hk,hk',hkb,hb,wk,hf.ne]
 .intro k f hf hk hp;have hk':(k:Int)<a.length:=by omega
  have hkb:k<b.length:=by omega
  have hb:a[k]≠b[k]:=by simpa[hk,hkb]using hp
  have hb':(a[k]==b[k])=false:=by simpa using hb
  simp[qab,exT,qag,T29,z2j,L149_0,hk,hk',hkb,hb',hf.ne]
 .intro f hf;simp[T29,L149_0,hf.ne]
theorem ev149(a b:List Bool)(ha:a.length<=4096):ev pg (.call (fnq 149) [qdc a,qdc b] [])=some (rvq (.bool (decide (a=b)))):=by
 rw[qaa,pg149.1];by_cases hab:b.length=a.length
 .have hloop:=@z6p a b hab ha;have hab':(b.length:Int)=a.length:=by omega
  simp[ir149,qai,hab'];generalize hr:ev pg (.code (.going _ L149_0) _)=o;obtain⟨r,rfl,hQ⟩:∃r,o=some r/\_:=by rw[<-hr];exact hloop (by simp[T29])
  rcases hQ with⟨k,hk,hp,-,f,hf,rfl⟩ | ⟨hp,f,hf,rfl⟩
  .have:a≠b:=by rintro rfl;simp at hp
   simp[z2j,this]
  .have:a=b:=by
    refine List.ext_getElem hab.symm fun k h1 h2=>?_;have:=hp k h1;simpa[h1,h2]using this
   simp[T29,this]
 .have hne:((a.length:Int) != (b.length:Int))=true:=by rw[bne_iff_ne];omega
  have:a≠b:=fun e=>hab (by rw[e]);simp[ir149,hne,this]
theorem ev182(a b:Ste)(ha:a.small):ev pg (.call (fnq 182) [a.v,b.v] [])=some (rvq (.bool (qjb a b))):=by
 have h1:=ev36 a.ends b.ends ha.e;have h2:=ev149 a.valves b.valves ha.w;have h3:=ev149 a.inputs b.inputs ha.i;have h4:=ev149 a.values b.values ha.v;have h5:=ev36 a.timers b.timers ha.t;rw[qaa,pg182.1];unfold qjb;generalize decide (a.ends=b.ends)=b1 at *;generalize decide (a.valves=b.valves)=b2 at *;generalize decide (a.inputs=b.inputs)=b3 at *;generalize decide (a.values=b.values)=b4 at *;cases b1 with
 | false=>simp[ir182,h1]
 | true=>cases b2 with
  | false=>simp[ir182,h1,h2]
  | true=>cases b3 with
   | false=>simp[ir182,h1,h2,h3]
   | true=>cases b4 with
    | false=>simp[ir182,h1,h2,h3,h4]
    | true=>simp[ir182,h1,h2,h3,h4,h5]
abbrev Mv(x:Ex)(vs:List Bool):H:=[⟨0,.box x.cells⟩,⟨0,.box [qdc vs]⟩]
def zpn(x:Ex)(F k:Nat):Tm:=[some (.imm (x.args.map Ex.row)),some (.fn F [] [.bptr 1 0]),none,none,none,none,none,some (num x.args.length),nN k]++zN 10
def zrf(x:Ex)(F k:Nat):Tm:=[some (.imm (x.args.map Ex.row)),some (.fn F [] [.bptr 1 0]),none,none,nN k,none,none,some (num x.args.length),nN k]++zN 10
theorem z3p(x:Ex)(vs:List Bool)(F:Nat)(p:Ex->Bool)(hx:x.nodes<=256)(hF:∀y∈x.args,ev pg (.call (.fn F [] [.bptr 1 0]) [y.v] (Mv x vs))=some { v:=.bool (p y),st:=⟨[],Mv x vs⟩ }){st:St}(h0:At (zpn x F 0) (Mv x vs) st):∃r,ev pg (.code (.going 2 L291_0) st)=some r/\qph x.args.length (fun k=>((x.args[k]?).map p).getD false) (fun k=>qar .ret (zrf x F k) (Mv x vs)) (qar (.exit 0) (zpn x F x.args.length) (Mv x vs)) r:=by
 have hfew:=qfk hx;refine qdw _ _ (zpn x F) (Mv x vs) _ _ ?_ ?_ ?_ h0
 .intro k f hf hk hp;have hk':(k:Int)<x.args.length:=by omega
  have wk:=qbc k;have hi:=hF _ (jH hk);have hh:p x.args[k]=false:=by simpa[hk]using hp
  rw[hh]at hi;simp[zpn,L291_0,hk,hk',wk,hi,hf.ne]
 .intro k f hf hk hp;have hk':(k:Int)<x.args.length:=by omega
  have hi:=hF _ (jH hk);have hh:p x.args[k]=true:=by simpa[hk]using hp
  rw[hh]at hi;simp[zpn,zrf,L291_0,hk,hk',hi,hf.ne]
 .intro f hf;simp[zpn,L291_0,hf.ne]
theorem ev283(x:Ex)(vs:List Bool)(F:Nat)(p:Ex->Bool)(hx:x.nodes<=256)(hF:∀y∈x.args,ev pg (.call (.fn F [] [.bptr 1 0]) [y.v] (Mv x vs))=some { v:=.bool (p y),st:=⟨[],Mv x vs⟩ }):ev pg (.call (fnq 283) [.imm (x.args.map Ex.row),.fn F [] [.bptr 1 0]] (Mv x vs))=some { v:=.bool (x.args.any p),st:=⟨[],Mv x vs⟩ }:=by
 have hl:=@z3p x vs F p hx hF;have h190:∃n:Int,ev pg (.call (fnq 291) [.imm (x.args.map Ex.row),.fn F [] [.bptr 1 0]] (Mv x vs))=some { v:=num n,st:=⟨[],Mv x vs⟩ }/\decide (n≥0)=x.args.any p:=by
  rw[qaa,pg291.1];simp[ir291,qai];generalize hr:ev pg (.code (.going _ L291_0) _)=o;obtain⟨r,rfl,hQ⟩:∃r,o=some r/\_:=by rw[<-hr];exact hl (by simp[zpn])
  rcases hQ with⟨k,hk,hp,-,f,hf,rfl⟩ | ⟨hp,f,hf,rfl⟩
  .refine⟨k,by simp[zrf],?_⟩;have h1:p x.args[k]=true:=by simpa[hk]using hp
   have h2:x.args.any p=true:=List.any_eq_true.2 ⟨_,jH hk,h1⟩;rw[h2];simp
  .refine⟨-1,by simp[zpn],?_⟩;have h2:x.args.any p=false:=by
    rw[List.any_eq_false];intro y hy;obtain⟨k,hk,rfl⟩:=List.getElem_of_mem hy;have:=hp k hk;simpa[hk]using this
   rw[h2];rfl
 obtain⟨n,h1,h2⟩:=h190;rw[qaa,pg283.1];simp[ir283,h1,<-h2]
theorem ev271(vs:List Bool):∀x:Ex,x.nodes<=256->x.err vs.length=0->ev pg (.call (fnq 271) [x.v,qdc vs] [])=some (rvq (.bool (x.holds vs))):=by
 refine Ex.ind fun x ih hx he=>?_;obtain⟨hn,hargs⟩:=qhk he;have ih':∀y∈x.args,ev pg (.call (fnq 271) [y.v,qdc vs] [])=some (rvq (.bool (y.holds vs))):=fun y hy=>ih y hy (by have:=qey hx hy;omega) (hargs y hy);have hop:x.op=0\/x.op=1\/x.op=2\/x.op=3\/x.op=4:=by
  unfold qbq at hn;by_cases h:x.op<0\/5<=x.op
  .rw[if_pos h]at hn;omega
  .omega
 have h179:∀y∈x.args,ev pg (.call (.fn 284 [] [.bptr 1 0]) [y.v] (Mv x vs))=some { v:=.bool (!y.holds vs),st:=⟨[],Mv x vs⟩ }:=fun y hy=>by have h:=ih' y hy;rw[qaa,pg284.1];simp[ir284,h]
 have h180:∀y∈x.args,ev pg (.call (.fn 285 [] [.bptr 1 0]) [y.v] (Mv x vs))=some { v:=.bool (y.holds vs),st:=⟨[],Mv x vs⟩ }:=fun y hy=>by have h:=ih' y hy;rw[qaa,pg285.1];simp[ir285,h]
 have a:=ev283 x vs _ _ hx h179;have b:=ev283 x vs _ _ hx h180;have e1:(x.args.map (Ex.holds vs)).all id=!(x.args.any fun y=>!y.holds vs):=by rw[List.all_map,List.not_any_eq_all_not];congr 1;funext y;simp
 have e2:(x.args.map (Ex.holds vs)).any id=x.args.any fun y=>y.holds vs:=by rw[List.any_map];rfl
 rw[qom,e1,e2,qaa,pg271.1];generalize (x.args.any fun y=>!y.holds vs)=A at *;generalize (x.args.any fun y=>y.holds vs)=B at *;rcases hop with h | h | h | h | h
 .simp[ir271,h]
 .obtain⟨hi0,hi1⟩:=qju hn h;have hin:x.idx.toNat<vs.length:=by omega
  simp[ir271,h,hi0,hin]
 .have h1:=zbg hn h;obtain⟨y,hy⟩:∃y,x.args=[y]:=by
   match hq:x.args,h1 with
   | [y],_=>exact⟨y,rfl⟩
  have hiy:=ih' y (by rw[hy];exact List.mem_cons_self);simp[ir271,h,hy,hiy]
 .simp[Mv,Ex.cells,h]at a;simp[ir271,h,a]
 .simp[Mv,Ex.cells,h]at b;simp[ir271,h,b]
end Go.Proofs.YtggbaapfbgjaeaaGreatDoor
