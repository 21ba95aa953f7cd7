/- Sorting in place: patterns are broken. Sorting in place: patterns are broken, as a function. Sorting in place: patterns are broken, the function. Sorting in place: the whole. -/
import Derived.Test.YtddeacahiilikaaGreatSo8
set_option linter.all false
namespace Go.Proofs.YtddeacahiilikaaGreat
open Go Go.Am Go.Proofs
set_option maxRecDepth 100000
theorem q6z{n:Int}(h:0<=n)(h2:n<18446744073709551616):IntKind.u64.wrap n=n:=by
 unfold IntKind.wrap;simp[IntKind.bits,IntKind.signed];omega
theorem ofI(r:UInt64):BitVec.ofInt 64 (r.toNat:Int)=r.toBitVec:=by
 rw[BitVec.ofInt_natCast]
 exact BitVec.ofNat_toNat 64 r.toBitVec
theorem jgi(r s:UInt64):zpn .xor .u64 (r.toNat:Int) (s.toNat:Int)=((r ^^^ s).toNat:Int):=by
 show IntKind.u64.wrap ((BitVec.ofInt 64 (r.toNat:Int) ^^^ BitVec.ofInt 64 (s.toNat:Int)).toNat:Int)=_
 rw[ofI,ofI]
 have:=(r ^^^ s).toNat_lt
 rw[q6z (by omega) (by have:=(r.toBitVec ^^^ s.toBitVec).isLt;omega)]
 rfl
theorem jji{a b:Nat}(ha:a<2 ^ 64)(hb:b<2 ^ 64):zpn .and .u64 (a:Int) (b:Int)=((a &&& b:Nat):Int):=by
 show IntKind.u64.wrap ((BitVec.ofInt 64 (a:Int) &&& BitVec.ofInt 64 (b:Int)).toNat:Int)=_
 rw[BitVec.ofInt_natCast,BitVec.ofInt_natCast,BitVec.toNat_and,BitVec.toNat_ofNat,BitVec.toNat_ofNat,Nat.mod_eq_of_lt ha,Nat.mod_eq_of_lt hb]
 have:a &&& b<=a:=Nat.and_le_left
 exact q6z (by omega) (by omega)
theorem jjc(r:UInt64)(k:UInt64)(m:Nat)(hm:k.toNat=m)(h64:m<64):IntKind.u64.wrap ((r.toNat:Int)*2 ^ m)=((r <<< k).toNat:Int):=by
 rw[UInt64.toNat_shiftLeft,hm,Nat.mod_eq_of_lt h64,Nat.shiftLeft_eq]
 unfold IntKind.wrap
 simp[IntKind.bits,IntKind.signed]
theorem jkg(r:UInt64)(k:UInt64)(m:Nat)(hm:k.toNat=m)(h64:m<64):Int.fdiv (r.toNat:Int) (2 ^ m)=((r >>> k).toNat:Int):=by
 rw[UInt64.toNat_shiftRight,hm,Nat.mod_eq_of_lt h64,Nat.shiftRight_eq_div_pow]
 rw[Int.fdiv_eq_ediv_of_nonneg _ (by have:=Int.pow_pos (n:=2) (m:=m) (by omega);omega)]
 simp
abbrev zpb(h:H)(i g:Nat)(d:Array Int)(r:UInt64):H:=put h i g d++[⟨0,.box [.int .u64 (r.toNat:Int)]⟩]
structure MemU(h:H)(i g:Nat):Prop where
 lt:i<h.length
 get:∀d r hh,(put h i g d++[(⟨0,.box [.int .u64 r]⟩:Ob)])[i]'hh=⟨g,.arr 1 (qhg d)⟩
 getq:∀d r,(put h i g d++[(⟨0,.box [.int .u64 r]⟩:Ob)])[i]?=some ⟨g,.arr 1 (qhg d)⟩
 box:∀d r hh,(put h i g d++[(⟨0,.box [.int .u64 r]⟩:Ob)])[h.length]'hh=⟨0,.box [.int .u64 r]⟩
 set:∀d d' r,(put h i g d++[(⟨0,.box [.int .u64 r]⟩:Ob)]).set i ⟨g,.arr 1 (qhg d')⟩=put h i g d'++[(⟨0,.box [.int .u64 r]⟩:Ob)]
 setB:∀d r s,(put h i g d++[(⟨0,.box [.int .u64 r]⟩:Ob)]).set h.length ⟨0,.box [.int .u64 s]⟩=put h i g d++[(⟨0,.box [.int .u64 s]⟩:Ob)]
 cl:∀d r,qbb (h.length+1) (put h i g d++[(⟨0,.box [.int .u64 r]⟩:Ob)])=put h i g d++[(⟨0,.box [.int .u64 r]⟩:Ob)]
 ck:∀d r,qap (h.length+1) (put h i g d++[(⟨0,.box [.int .u64 r]⟩:Ob)])=put h i g d++[(⟨0,.box [.int .u64 r]⟩:Ob)]
 c0:∀d r,qap h.length (put h i g d++[(⟨0,.box [.int .u64 r]⟩:Ob)])=put h i g d
theorem zts{h:H}{i:Nat}(hi:i<h.length)(hc:qce h)(g:Nat):MemU h i g:=by
 have hcal:∀d r,qce (put h i g d++[(⟨0,.box [.int .u64 r]⟩:Ob)]):=fun d r=>by
  refine qdp (qnf hc i g d) ?_
  intro o ho
  rw[List.mem_singleton.1 ho]
  rfl
 refine⟨hi,fun d r hh=>?_,fun d r=>?_,fun d r hh=>?_,fun d d' r=>?_,fun d r s=>?_,fun d r=>?_,fun d r=>?_,fun d r=>?_⟩
 .rw[List.getElem_append_left (by simpa using hi)]
  exact(qhz hi hc g).get d _
 .rw[jI (by simpa using hi),q5i hi]
 .rw[List.getElem_append_right (by simp)]
  simp
 .rw[List.set_append_left _ _ (by simpa using hi),zef]
 .rw[List.set_append_right _ _ (by simp),qks,Nat.sub_self]
  rfl
 .have:=qgz (hcal d r)
  simpa using this
 .have:=qdz (hcal d r)
  simpa using this
 .have:=qcx (qnf hc i g d) [(⟨0,.box [.int .u64 r]⟩:Ob)]
  rwa [qks]at this
theorem ev282{h:H}{i g:Nat}(hm:MemU h i g)(d:Array Int)(r:UInt64):ev pg (.call (.fn 282 [] []) [.bptr h.length 0] (zpb h i g d r))=some { v:=.int .u64 ((Go.Sort.xorNext r).toNat:Int),st:=⟨[],zpb h i g d (Go.Sort.xorNext r)⟩ }:=by
 have m1:=hm.box
 have m2:=hm.setB
 have m4:=hm.ck
 unfold Go.Sort.xorNext
 simp only
 have s1:=jjc r 13 13 rfl (by omega)
 have x1:=jgi r (r <<< 13)
 generalize r <<< 13=r1 at *
 generalize r ^^^ r1=r2 at *
 have s2:=jkg r2 7 7 rfl (by omega)
 have x2:=jgi r2 (r2 >>> 7)
 generalize r2 >>> 7=r3 at *
 generalize r2 ^^^ r3=r4 at *
 have s3:=jjc r4 17 17 rfl (by omega)
 have x3:=jgi r4 (r4 <<< 17)
 generalize r4 <<< 17=r5 at *
 generalize r4 ^^^ r5=r6 at *
 simp at s1 s2 s3
 rw[qac,pg282]
 simp[-qap,-qbb,qaa,exT,qaf,ir282,m1,m2,m4,s1,s2,s3,x1,x2,x3,IntKind.bits]
def jhc:List UInt8:=[0,1,2,2,3,3,3,3,4,4,4,4,4,4,4,4]++List.replicate 16 5++List.replicate 32 6++List.replicate 64 7++List.replicate 128 8
theorem zga:∀k:Fin 256,jhc[k.1]?=some (UInt8.ofNat (Go.Sort.bitsLen k.1))/\(UInt8.ofNat (Go.Sort.bitsLen k.1)).toNat=Go.Sort.bitsLen k.1:=by decide +kernel
theorem qir{n:Nat}(h:2<=n):Go.Sort.bitsLen n=1+Go.Sort.bitsLen (n / 2):=by
 unfold Go.Sort.bitsLen
 rw[if_neg (by omega),if_neg (by omega),Nat.log2_def,if_pos h]
 omega
theorem zhz{n:Nat}(h:256<=n):Go.Sort.bitsLen n=8+Go.Sort.bitsLen (n / 256):=by
 rw[qir (by omega),qir (n:=n / 2) (by omega),qir (n:=n / 2 / 2) (by omega),qir (n:=n / 2 / 2 / 2) (by omega),qir (n:=n / 2 / 2 / 2 / 2) (by omega),qir (n:=n / 2 / 2 / 2 / 2 / 2) (by omega),qir (n:=n / 2 / 2 / 2 / 2 / 2 / 2) (by omega),qir (n:=n / 2 / 2 / 2 / 2 / 2 / 2 / 2) (by omega)]
 rw[show n / 2 / 2 / 2 / 2 / 2 / 2 / 2 / 2=n / 256 by omega]
 omega
theorem qof{n:Nat}(h:n<256):Go.Sort.bitsLen n<=8:=by
 have:=(by decide +kernel:∀k:Fin 256,Go.Sort.bitsLen k.1<=8) ⟨n,h⟩
 exact this
theorem zoz{n:Int}(h:0<=n)(h2:n<256):IntKind.u8.wrap n=n:=by
 unfold IntKind.wrap;simp[IntKind.bits,IntKind.signed];omega
theorem ev253(n:Nat)(hn:n<65536):ev pg (.call (.fn 253 [] []) [.int .u64 (n:Int)] [])=some { v:=num (Go.Sort.bitsLen n:Nat),st:=⟨[],[]⟩ }:=by
 have g1:¬(4294967296:Int)<=n:=by omega
 have g2:¬(65536:Int)<=n:=by omega
 rw[qac,pg253]
 by_cases h:n<256
 .have g3:¬(256:Int)<=n:=by omega
  obtain⟨t1,t2⟩:=zga ⟨n,h⟩
  simp only at t1 t2
  have w8:=zoz (n:=(n:Int)) (by omega) (by omega)
  have hs:=qof h
  simp only[jhc,List.replicate,List.cons_append,List.nil_append]at t1
  generalize Go.Sort.bitsLen n=L at *
  have wL:=qab (n:=(L:Int)) (by omega) (by omega)
  simp[ir253,g1,g2,g3,w8,t1,wL]
  rw[show(L:Int) % 256=L by omega,wL,wL]
 .have g3:(256:Int)<=n:=by omega
  have hf:Int.fdiv (n:Int) 256=((n / 256:Nat):Int):=by
   rw[Int.fdiv_eq_ediv_of_nonneg _ (by omega)]
   simp
  rw[zhz (by omega)]
  have h2:n / 256<256:=by omega
  generalize n / 256=q at *
  obtain⟨t1,t2⟩:=zga ⟨q,h2⟩
  simp only at t1 t2
  have w8:=zoz (n:=(q:Int)) (by omega) (by omega)
  have hs:=qof h2
  simp only[jhc,List.replicate,List.cons_append,List.nil_append]at t1
  generalize Go.Sort.bitsLen q=L at *
  have wL:=qab (n:=(L:Int)) (by omega) (by omega)
  have wL2:=qab (n:=8+(L:Int)) (by omega) (by omega)
  have w88:IntKind.i64.wrap 8=8:=by decide
  simp[ir253,g1,g2,g3,hf,w8,w88,t1,wL,wL2,IntKind.bits]
  rw[show(L:Int) % 256=L by omega,wL,wL2]
theorem ev210(n:Nat)(hn:n<65536):ev pg (.call (.fn 210 [] []) [.int .u64 (n:Int)] [])=some { v:=num (Go.Sort.bitsLen n:Nat),st:=⟨[],[]⟩ }:=by
 have h:=ev253 n hn
 rw[qac,pg210]
 simp[ir210,h]
theorem zdi{n:Nat}(hn:n<65536):Go.Sort.bitsLen n<=16:=by
 by_cases h:n<256
 .have:=qof h;omega
 .rw[zhz (by omega)]
  have:=qof (n:=n / 256) (by omega)
  omega
theorem zwm{n:Nat}(h:1<=n):2 ^ Go.Sort.bitsLen n<=2*n:=by
 unfold Go.Sort.bitsLen
 rw[if_neg (by omega),Nat.pow_succ]
 have:=Nat.log2_self_le (n:=n) (by omega)
 omega
theorem ev281(n:Nat)(hn:n<65536):ev pg (.call (.fn 281 [] []) [num n] [])=some { v:=.int .u64 ((1 <<< Go.Sort.bitsLen n:Nat):Int),st:=⟨[],[]⟩ }:=by
 have h:=ev210 n hn
 have hL:=zdi hn
 have wn:=q6z (n:=(n:Int)) (by omega) (by omega)
 rw[Nat.one_shiftLeft]
 have hp:(2:Int) ^ Go.Sort.bitsLen n=((2 ^ Go.Sort.bitsLen n:Nat):Int):=by simp
 have hb:2 ^ Go.Sort.bitsLen n<=2 ^ 16:=Nat.pow_le_pow_right (by omega) hL
 generalize Go.Sort.bitsLen n=L at *
 have hmin:min L 64=L:=by omega
 have hs:IntKind.u64.wrap ((2:Int) ^ L)=((2 ^ L:Nat):Int):=by
  rw[hp]
  have hb2:(2:Nat) ^ 16=65536:=by decide
  generalize (2:Nat) ^ L=P at *
  exact q6z (by omega) (by omega)
 rw[qac,pg281]
 have hL0:¬(L:Int)<0:=by omega
 simp[ir281,wn,h,IntKind.bits,hmin,hL0]
 simpa using hs
def zol(i g n:Nat)(hl a l M k:Nat):Tm:=[some (.sl i g 1 0 n),some (num a),none,none,none,none,some (num l),some (.bptr hl 0),some (.int .u64 (M:Int)),some (num k)]++List.replicate 55 none
theorem zuq{h:H}{i g:Nat}(hm:MemU h i g)(n a l k:Nat)(hn:n<65536)(hal:a+l<=n)(h8:8<=l)(hk1:k<=a+l / 4*2+1)(r:UInt64)(d:Array Int)(hd:d.size=n){Q:R->Prop}
  (next:∀st,At (zol i g n h.length a l (1 <<< Go.Sort.bitsLen l) (k+1)) (zpb h i g (Go.Sort.breakStep a l (1 <<< Go.Sort.bitsLen l) (r,d) k).2 (Go.Sort.breakStep a l (1 <<< Go.Sort.bitsLen l) (r,d) k).1) st->∃r,ev pg (.code (.going (h.length+1) L245_0) st)=some r/\Q r)
  {st:St} (h0:At (zol i g n h.length a l (1 <<< Go.Sort.bitsLen l) k) (zpb h i g d r) st):∃r,ev pg (.code (.going (h.length+1) L245_0) st)=some r/\Q r:=by
 have hL:=zdi (n:=l) (by omega)
 have hM2:1 <<< Go.Sort.bitsLen l<=2*l:=by rw[Nat.one_shiftLeft];exact zwm (by omega)
 have hM1:1<=1 <<< Go.Sort.bitsLen l:=by rw[Nat.one_shiftLeft];exact Nat.one_le_two_pow
 generalize 1 <<< Go.Sort.bitsLen l=M at *
 refine qgw (fun f hf=>?_) next h0
 have e:=ev282 hm d r
 unfold Go.Sort.breakStep
 simp only[qti]
 generalize Go.Sort.xorNext r=r' at *
 have hr:=r'.toNat_lt
 have hq:Int.tdiv (l:Int) 4=((l / 4:Nat):Int):=by
  rw[show(4:Int)=((4:Nat):Int)by rfl,<-Int.ofNat_tdiv]
 have q1:4*(l / 4)<=l:=by omega
 have q2:2<=l / 4:=by omega
 have q3:k<a+l:=by omega
 generalize l / 4=q at *
 have wq:=qab (n:=(q:Int)) (by omega) (by omega)
 have wq2:=qab (n:=(q:Int)*2) (by omega) (by omega)
 have wj:=qab (n:=(a:Int)+q*2) (by omega) (by omega)
 have wj1:=qab (n:=(a:Int)+q*2+1) (by omega) (by omega)
 have ck:(k:Int)<=(a:Int)+q*2+1:=by omega
 have wM:=q6z (n:=(M:Int)-1) (by omega) (by omega)
 have hand:=jji (a:=r'.toNat) (b:=M-1) (by omega) (by omega)
 rw[show((M-1:Nat):Int)=(M:Int)-1 by omega]at hand
 have hle:r'.toNat &&& (M-1)<=M-1:=Nat.and_le_right
 generalize r'.toNat &&& (M-1)=o at *
 have wo:=qab (n:=(o:Int)) (by omega) (by omega)
 have wk:=qab (n:=(k:Int)+1) (by omega) (by omega)
 have m1:=hm.lt
 have m2:=hm.set
 have m3:=hm.get
 have m3q:=hm.getq
 have m1b:i<h.length+1:=by omega
 have m4:=hm.cl
 have m5:=hm.ck
 have b1:k<d.size:=by omega
 have r1:=qao (d:=d) (k:=k) b1
 by_cases c:o≥l
 .have c':(l:Int)<=o:=by omega
  simp only[c,if_true]
  have wol:IntKind.i64.wrap ((o:Int)-l)=((o-l:Nat):Int):=by
   rw[qab (by omega) (by omega)]
   omega
  have hol:o-l<l:=by omega
  generalize o-l=p at *
  have b2:a+p<d.size:=by omega
  have r2:=qao (d:=d) (k:=a+p) b2
  have wp:=qab (n:=(a:Int)+p) (by omega) (by omega)
  have pp:(0:Int)<=(a:Int)+p:=by omega
  have tp:((a:Int)+p).toNat=a+p:=by omega
  have hsw:(d.setIfInBounds k d[a+p]!).setIfInBounds (a+p) d[k]! = swI d k (a+p):=rfl
  obtain⟨z,r3⟩:=qci (d.setIfInBounds k d[a+p]!) (a+p)
  generalize swI d k (a+p)=d' at *
  generalize d[k]! = x at *
  generalize d[a+p]! = y at *
  simp[-qap,-qbb,qaa,exT,qaf,L245_0,zol,hq,wq,wq2,wj,wj1,ck,e,wM,hand,wo,c',wol,wp,pp,tp,m1,m1b,m2,m3,m3q,m4,m5,r1,r2,r3,b1,b2,qbw,hsw,wk,hd.symm,hf.ne]
 .have c':¬(l:Int)<=o:=by omega
  simp only[c,if_false]
  have b2:a+o<d.size:=by omega
  have r2:=qao (d:=d) (k:=a+o) b2
  have wp:=qab (n:=(a:Int)+o) (by omega) (by omega)
  have pp:(0:Int)<=(a:Int)+o:=by omega
  have tp:((a:Int)+o).toNat=a+o:=by omega
  have hsw:(d.setIfInBounds k d[a+o]!).setIfInBounds (a+o) d[k]! = swI d k (a+o):=rfl
  obtain⟨z,r3⟩:=qci (d.setIfInBounds k d[a+o]!) (a+o)
  generalize swI d k (a+o)=d' at *
  generalize d[k]! = x at *
  generalize d[a+o]! = y at *
  simp[-qap,-qbb,qaa,exT,qaf,L245_0,zol,hq,wq,wq2,wj,wj1,ck,e,wM,hand,wo,c',wp,pp,tp,m1,m1b,m2,m3,m3q,m4,m5,r1,r2,r3,b1,b2,qbw,hsw,wk,hd.symm,hf.ne]
theorem qje(a l M:Nat)(st:UInt64×Array Int)(k:Nat):(Go.Sort.breakStep a l M st k).2.size=st.2.size:=by
 unfold Go.Sort.breakStep
 exact qcv _ _ _
theorem ev245{h:H}{i:Nat}(hi:i<h.length)(hc:qce h)(g:Nat)(d:Array Int)(a l:Nat)(hb:a+l<=d.size)(h8:8<=l)(hn:d.size<65536):ev pg (.call (.fn 245 [] []) [.sl i g 1 0 d.size,num a,num (a+l:Nat)] (put h i g d))=some { v:=.tup [],st:=⟨[],put h i g (Go.Sort.breakPatterns d a (a+l))⟩ }:=by
 have hm:=zts hi hc g
 have m5:=hm.c0
 have m1:=hm.lt
 have e135:=ev281 l (by omega)
 have wl:IntKind.i64.wrap ((a:Int)+l-a)=(l:Int):=by
  rw[qab (by omega) (by omega)]
  omega
 have wlu:=q6z (n:=(l:Int)) (by omega) (by omega)
 have hu:(UInt64.ofNat l).toNat=l:=by
  rw[UInt64.toNat_ofNat']
  omega
 have h8':(8:Int)<=l:=by omega
 unfold Go.Sort.breakPatterns
 simp only[Nat.add_sub_cancel_left,ge_iff_le,h8,if_true]
 have hq:Int.tdiv (l:Int) 4=((l / 4:Nat):Int):=by
  rw[show(4:Int)=((4:Nat):Int)by rfl,<-Int.ofNat_tdiv]
 have q1:4*(l / 4)<=l:=by omega
 have q2:2<=l / 4:=by omega
 have wq:=qab (n:=((l / 4:Nat):Int)) (by omega) (by omega)
 have wq2:=qab (n:=((l / 4:Nat):Int)*2) (by omega) (by omega)
 have wj:=qab (n:=(a:Int)+((l / 4:Nat):Int)*2) (by omega) (by omega)
 have wj1:=qab (n:=(a:Int)+((l / 4:Nat):Int)*2-1) (by omega) (by omega)
 have hidx:(a:Int)+((l / 4:Nat):Int)*2-1=((a+l / 4*2-1:Nat):Int):=by omega
 have hk:a+l / 4*2-1+3=a+l / 4*2+2:=by omega
 generalize hkk:a+l / 4*2-1=k at *
 have hs1:=qje a l (1 <<< Go.Sort.bitsLen l) (UInt64.ofNat l,d) k
 have s1:=fun(Q:R->Prop)=>@zuq h i g hm d.size a l k hn hb h8 (by omega) (UInt64.ofNat l) d rfl Q
 generalize Go.Sort.breakStep a l (1 <<< Go.Sort.bitsLen l) (UInt64.ofNat l,d) k=D1 at *
 obtain⟨u1,d1⟩:=D1
 have hs2:=qje a l (1 <<< Go.Sort.bitsLen l) (u1,d1) (k+1)
 have s2:=fun(Q:R->Prop)=>@zuq h i g hm d.size a l (k+1) hn hb h8 (by omega) u1 d1 hs1 Q
 generalize Go.Sort.breakStep a l (1 <<< Go.Sort.bitsLen l) (u1,d1) (k+1)=D2 at *
 obtain⟨u2,d2⟩:=D2
 simp only at hs1 hs2
 have hs3:=qje a l (1 <<< Go.Sort.bitsLen l) (u2,d2) (k+2)
 have s3:=fun(Q:R->Prop)=>@zuq h i g hm d.size a l (k+2) hn hb h8 (by omega) u2 d2 (by omega) Q
 generalize Go.Sort.breakStep a l (1 <<< Go.Sort.bitsLen l) (u2,d2) (k+2)=D3 at *
 obtain⟨u3,d3⟩:=D3
 simp only at hs3 s1 s2 s3 ⊢
 have fin:∀st,At (zol i g d.size h.length a l (1 <<< Go.Sort.bitsLen l) (k+2+1)) (zpb h i g d3 u3) st->∃r,ev pg (.code (.going (h.length+1) L245_0) st)=some r/\qam (.exit 0) (List.replicate 65 none) (zpb h i g d3 u3) r:=by
  intro st h0
  refine qbf (fun f hf=>?_) h0
  have wj2:=qab (n:=(a:Int)+((l / 4:Nat):Int)*2+1) (by omega) (by omega)
  have ck:¬(k:Int)+2+1<=(a:Int)+((l / 4:Nat):Int)*2+1:=by omega
  generalize l / 4=q at *
  simp[-qap,-qbb,qaa,exT,qaf,L245_0,zol,hq,wq,wq2,wj,wj2,ck,hf.ne]
 have all:∀st,At (zol i g d.size h.length a l (1 <<< Go.Sort.bitsLen l) k) (zpb h i g d (UInt64.ofNat l)) st->∃r,ev pg (.code (.going (h.length+1) L245_0) st)=some r/\qam (.exit 0) (List.replicate 65 none) (zpb h i g d3 u3) r:=fun st h0=>s1 _ (fun st h1=>s2 _ (fun st h2=>s3 _ fin h2) h1) h0
 generalize 1 <<< Go.Sort.bitsLen l=M at *
 generalize l / 4=q at *
 rw[qac,pg245]
 simp[-qap,-qbb,ir245,wl,h8',wlu,e135,hq,wq,wq2,wj,wj1,qag]
 generalize hr:ev pg (.code (.going _ L245_0) _)=o
 obtain⟨r,rfl,f,hf,rfl⟩:∃r,o=some r/\_:=by rw[<-hr];exact all _ (by simp[zol,hidx,hu])
 clear hr
 simp[-qap,-qbb,m5,m1]
end Go.Proofs.YtddeacahiilikaaGreat
namespace Go.Proofs.YtddeacahiilikaaGreat
open Go Go.Am Go.Proofs
open Go.Sort (SWO PermIn SortedIn Below)
set_option maxRecDepth 100000
theorem z4a:SWO ltI where
 irrefl x:=by simp[ltI,Go.Sort.ltInt]
 trans x y z:=by simp only[ltI,Go.Sort.ltInt,jW];omega
 ntrans x y z:=by simp only[ltI,Go.Sort.ltInt,decide_eq_false_iff_not];omega
def zbk:C:=.seq (.reg [⟨some 95,none,.mv (.t 0)⟩,
   ⟨some 96,none,.mv (.t 1)⟩,
   ⟨some 97,none,.mv (.t 2)⟩,
   ⟨some 98,none,.mv (.t 11)⟩,
   ⟨some 99,none,.call (.c (.fn 251 [] [])) [.t 95,.t 96,.t 97,.t 98]⟩,
   ⟨some 94,none,.mv (.t 99)⟩,
   ⟨some 100,none,.ext 0 (.t 94)⟩,
   ⟨some 101,none,.ext 1 (.t 94)⟩,
   ⟨some 14,none,.mv (.t 100)⟩,
   ⟨some 15,none,.mv (.t 101)⟩])
  (.seq (.reg [⟨some 102,none,.mv (.t 15)⟩,
   ⟨some 9,none,.mv (.t 102)⟩])
  (.seq (.reg [⟨some 103,none,.mv (.t 14)⟩,
   ⟨some 104,none,.mv (.t 1)⟩,
   ⟨some 105,none,.bin false .sub (.t 103) (.t 104)⟩,
   ⟨some 106,none,.mv (.t 2)⟩,
   ⟨some 107,none,.mv (.t 14)⟩,
   ⟨some 108,none,.bin false .sub (.t 106) (.t 107)⟩,
   ⟨some 16,none,.mv (.t 105)⟩,
   ⟨some 17,none,.mv (.t 108)⟩])
  (.seq (.reg [⟨some 109,none,.mv (.t 10)⟩,
   ⟨some 110,none,.bin false .quo (.t 109) (.c (.int .i64 8))⟩,
   ⟨some 18,none,.mv (.t 110)⟩])
  (.seq (.reg [⟨some 111,none,.mv (.t 16)⟩,
   ⟨some 112,none,.mv (.t 17)⟩,
   ⟨some 113,none,.bin false .lss (.t 111) (.t 112)⟩])
  (.cond (.t 113) (.seq (.reg [⟨some 114,none,.mv (.t 16)⟩,
    ⟨some 115,none,.mv (.t 18)⟩,
    ⟨some 116,none,.bin false .geq (.t 114) (.t 115)⟩,
    ⟨some 8,none,.mv (.t 116)⟩])
   (.seq (.reg [⟨some 117,none,.mv (.t 0)⟩,
    ⟨some 118,none,.mv (.t 1)⟩,
    ⟨some 119,none,.mv (.t 14)⟩,
    ⟨some 120,none,.mv (.t 3)⟩,
    ⟨some 121,none,.call (.c (.fn 209 [] [])) [.t 117,.t 118,.t 119,.t 120]⟩])
   (.reg [⟨some 122,none,.mv (.t 14)⟩,
    ⟨some 123,none,.bin false .add (.t 122) (.c (.int .i64 1))⟩,
    ⟨some 1,none,.mv (.t 123)⟩])))
   (.seq (.reg [⟨some 124,none,.mv (.t 17)⟩,
    ⟨some 125,none,.mv (.t 18)⟩,
    ⟨some 126,none,.bin false .geq (.t 124) (.t 125)⟩,
    ⟨some 8,none,.mv (.t 126)⟩])
   (.seq (.reg [⟨some 127,none,.mv (.t 0)⟩,
    ⟨some 128,none,.mv (.t 14)⟩,
    ⟨some 129,none,.bin false .add (.t 128) (.c (.int .i64 1))⟩,
    ⟨some 130,none,.mv (.t 2)⟩,
    ⟨some 131,none,.mv (.t 3)⟩,
    ⟨some 132,none,.call (.c (.fn 209 [] [])) [.t 127,.t 129,.t 130,.t 131]⟩])
   (.reg [⟨some 133,none,.mv (.t 14)⟩,
    ⟨some 2,none,.mv (.t 133)⟩]))))))))
def q5g:C:=.seq (.seq (.draw [⟨some 73,none,.mv (.t 1)⟩,
   ⟨some 74,none,.bin false .gtr (.t 73) (.c (.int .i64 0))⟩,
   ⟨some 75,none,.mv (.t 74)⟩,
   ⟨some 76,some (75,true),.mv (.t 0)⟩,
   ⟨some 77,some (75,true),.mv (.t 1)⟩,
   ⟨some 78,some (75,true),.bin false .sub (.t 77) (.c (.int .i64 1))⟩,
   ⟨some 79,some (75,true),.iaddrL 1 (.t 76) (.t 78)⟩,
   ⟨some 80,some (75,true),.load false 1 (.t 79)⟩,
   ⟨some 81,some (75,true),.mv (.t 0)⟩,
   ⟨some 82,some (75,true),.mv (.t 11)⟩,
   ⟨some 83,some (75,true),.iaddrL 1 (.t 81) (.t 82)⟩,
   ⟨some 84,some (75,true),.load false 1 (.t 83)⟩,
   ⟨some 85,some (75,true),.call (.c (.fn 249 [] [])) [.t 80,.t 84]⟩,
   ⟨some 86,some (75,true),.un .not (.t 85)⟩,
   ⟨some 87,none,.pick (.t 75) (.t 86) (.c (.bool false))⟩] [])
  (.cond (.t 87) (.seq (.reg [⟨some 88,none,.mv (.t 0)⟩,
    ⟨some 89,none,.mv (.t 1)⟩,
    ⟨some 90,none,.mv (.t 2)⟩,
    ⟨some 91,none,.mv (.t 11)⟩,
    ⟨some 92,none,.call (.c (.fn 250 [] [])) [.t 88,.t 89,.t 90,.t 91]⟩,
    ⟨some 13,none,.mv (.t 92)⟩])
   (.seq (.reg [⟨some 93,none,.mv (.t 13)⟩,
    ⟨some 1,none,.mv (.t 93)⟩])
   (.exit 1)))
   (.skip))) zbk
def qzq:C:=.seq (.seq (.reg [⟨some 61,none,.mv (.t 8)⟩,
   ⟨some 62,none,.mv (.t 61)⟩,
   ⟨some 63,some (62,true),.mv (.t 9)⟩,
   ⟨some 64,none,.pick (.t 62) (.t 63) (.c (.bool false))⟩,
   ⟨some 65,none,.mv (.t 64)⟩,
   ⟨some 66,some (65,true),.mv (.t 12)⟩,
   ⟨some 67,some (65,true),.bin false .eql (.t 66) (.c (.int .i64 1))⟩,
   ⟨some 68,none,.pick (.t 65) (.t 67) (.c (.bool false))⟩])
  (.cond (.t 68) (.seq (.reg [⟨some 69,none,.mv (.t 0)⟩,
    ⟨some 70,none,.mv (.t 1)⟩,
    ⟨some 71,none,.mv (.t 2)⟩,
    ⟨some 72,none,.call (.c (.fn 248 [] [])) [.t 69,.t 70,.t 71]⟩])
   (.cond (.t 72) (.ret)
    (.skip)))
   (.skip))) q5g
def zhb:C:=.seq (.seq (.reg [⟨some 49,none,.mv (.t 12)⟩,
   ⟨some 50,none,.bin false .eql (.t 49) (.c (.int .i64 2))⟩])
  (.cond (.t 50) (.seq (.reg [⟨some 51,none,.mv (.t 0)⟩,
    ⟨some 52,none,.mv (.t 1)⟩,
    ⟨some 53,none,.mv (.t 2)⟩,
    ⟨some 54,none,.call (.c (.fn 247 [] [])) [.t 51,.t 52,.t 53]⟩])
   (.seq (.reg [⟨some 55,none,.mv (.t 2)⟩,
    ⟨some 56,none,.bin false .sub (.t 55) (.c (.int .i64 1))⟩,
    ⟨some 57,none,.mv (.t 11)⟩,
    ⟨some 58,none,.mv (.t 1)⟩,
    ⟨some 59,none,.bin false .sub (.t 57) (.t 58)⟩,
    ⟨some 60,none,.bin false .sub (.t 56) (.t 59)⟩,
    ⟨some 11,none,.mv (.t 60)⟩])
   (.reg [⟨some 12,none,.mv (.c (.int .i64 1))⟩])))
   (.skip))) qzq
def zeu:C:=.seq (.reg [⟨some 43,none,.mv (.t 0)⟩,
   ⟨some 44,none,.mv (.t 1)⟩,
   ⟨some 45,none,.mv (.t 2)⟩,
   ⟨some 46,none,.call (.c (.fn 246 [] [])) [.t 43,.t 44,.t 45]⟩,
   ⟨some 42,none,.mv (.t 46)⟩,
   ⟨some 47,none,.ext 0 (.t 42)⟩,
   ⟨some 48,none,.ext 1 (.t 42)⟩,
   ⟨some 11,none,.mv (.t 47)⟩,
   ⟨some 12,none,.mv (.t 48)⟩]) zhb
def zal:C:=.seq (.seq (.reg [⟨some 34,none,.mv (.t 8)⟩,
   ⟨some 35,none,.un .not (.t 34)⟩])
  (.cond (.t 35) (.seq (.reg [⟨some 36,none,.mv (.t 0)⟩,
    ⟨some 37,none,.mv (.t 1)⟩,
    ⟨some 38,none,.mv (.t 2)⟩,
    ⟨some 39,none,.call (.c (.fn 245 [] [])) [.t 36,.t 37,.t 38]⟩])
   (.reg [⟨some 40,none,.mv (.t 3)⟩,
    ⟨some 41,none,.bin false .sub (.t 40) (.c (.int .i64 1))⟩,
    ⟨some 3,none,.mv (.t 41)⟩]))
   (.skip))) zeu
theorem L73_split:L209_0=.block 1 (.seq (.reg [⟨some 19,none,.mv (.t 2)⟩,
   ⟨some 20,none,.mv (.t 1)⟩,
   ⟨some 21,none,.bin false .sub (.t 19) (.t 20)⟩,
   ⟨some 10,none,.mv (.t 21)⟩]) (.seq (.seq (.reg [⟨some 22,none,.mv (.t 10)⟩,
   ⟨some 23,none,.bin false .leq (.t 22) (.c (.int .i64 12))⟩])
  (.cond (.t 23) (.seq (.reg [⟨some 24,none,.mv (.t 0)⟩,
    ⟨some 25,none,.mv (.t 1)⟩,
    ⟨some 26,none,.mv (.t 2)⟩,
    ⟨some 27,none,.call (.c (.fn 243 [] [])) [.t 24,.t 25,.t 26]⟩])
   (.ret))
   (.skip))) (.seq (.seq (.reg [⟨some 28,none,.mv (.t 3)⟩,
   ⟨some 29,none,.bin false .eql (.t 28) (.c (.int .i64 0))⟩])
  (.cond (.t 29) (.seq (.reg [⟨some 30,none,.mv (.t 0)⟩,
    ⟨some 31,none,.mv (.t 1)⟩,
    ⟨some 32,none,.mv (.t 2)⟩,
    ⟨some 33,none,.call (.c (.fn 244 [] [])) [.t 30,.t 31,.t 32]⟩])
   (.ret))
   (.skip))) zal))):=rfl
def T73(i g n a b lim:Nat)(wb wp:Bool):Tm:=[some (.sl i g 1 0 n),some (num a),some (num b),some (num lim),none,none,none,none,some (.bool wb),some (.bool wp)]++List.replicate 124 none
def zll(i g n a b lim:Nat)(wb wp:Bool):Tm:=[some (.sl i g 1 0 n),some (num a),some (num b),some (num lim),none,none,none,none,some (.bool wb),some (.bool wp),some (num (b-a:Nat))]++List.replicate 123 none
def qwp(i g n a b lim:Nat)(wb wp:Bool)(pv:Nat)(ht:Int):Tm:=[some (.sl i g 1 0 n),some (num a),some (num b),some (num lim),none,none,none,none,some (.bool wb),some (.bool wp),some (num (b-a:Nat)),some (num pv),some (num ht)]++List.replicate 121 none
inductive Res73 (h:H) (i g n a b:Nat) (d0:Array Int) (r:R):Prop where
 | done (d':Array Int) (hp:PermIn a b d0 d') (hs:SortedIn ltI a b d') (he:qam .ret (List.replicate 134 none) (put h i g d') r)
 | more (a' b' lim:Nat) (wb wp:Bool) (d':Array Int) (hx:r.x=.normal\/r.x=.exit 1) (hd:d'.size=n) (hab:a'<=b') (hb:b'<=n) (hlt:b'-a'<b-a) (hl:lim<=64) (hB:Below ltI a' b' d')
   (hA:At (T73 i g n a' b' lim wb wp) (put h i g d') r.st) (hf:∀D,PermIn a' b' d' D->SortedIn ltI a' b' D->PermIn a b d0 D/\SortedIn ltI a b D)
def qzf(h:H)(i g n m:Nat):Prop:=∀(a b lim:Nat) (d:Array Int),b-a<m->d.size=n->a<=b->b<=n->lim<=64->Below ltI a b d->∃d',PermIn a b d d'/\SortedIn ltI a b d'/\ev pg (.call (.fn 209 [] []) [.sl i g 1 0 n,num a,num b,num lim] (put h i g d))=some { v:=.tup [],st:=⟨[],put h i g d'⟩ }
structure Ctx73(h:H)(i g n a b:Nat)(d0:Array Int):Prop where
 hi:i<h.length
 hc:qce h
 hn:n<65536
 hb:b<=n
 h12:12<b-a
 ih:qzf h i g n (b-a)
theorem zcn{a b:Nat}{d d' d'':Array Int}(h1:PermIn a b d d')(h2:PermIn a b d' d''):PermIn a b d d'':=Go.Sort.permIn_trans _ _ _ a b h1 h2
theorem jgz{h:H}{i g n a b:Nat}{d0:Array Int}(C:Ctx73 h i g n a b d0)(d:Array Int)(hd:d.size=n)(lim:Nat)(hl:lim<=64)(wb wp:Bool)(pv:Nat)(ht:Int)(hp1:a<=pv)(hp2:pv<b)(hP:PermIn a b d0 d)(hB:Below ltI a b d) :
  ∀st,At (qwp i g n a b lim wb wp pv ht) (put h i g d) st->∃r,ev pg (.code zbk st)=some r/\Res73 h i g n a b d0 r:=by
 intro st h0
 obtain⟨f,hf,rfl⟩:=h0.eq
 have hn:=C.hn
 have hb:=C.hb
 have h12:=C.h12
 have m1:=C.hi
 have e:=ev251 C.hi C.hc g d a b pv (by omega) (by omega) (by omega) (by omega)
 rw[hd]at e
 cases hx:Go.Sort.partition ltI d a b pv with
 | mk mid t =>
 obtain⟨ap,d4⟩:=t
 rw[hx]at e
 obtain⟨k1,k2,k3,k4,k5,k6,k7⟩:=Go.Sort.round_part z4a (Go.Sort.partition_holds ltI) hp1 hp2 (by omega) hB hx
 simp only at e
 have w1:=qab (n:=(mid:Int)-a) (by omega) (by omega)
 have w2:=qab (n:=(b:Int)-mid) (by omega) (by omega)
 have w3:=qab (n:=(mid:Int)+1) (by omega) (by omega)
 have hq:Int.tdiv ((b-a:Nat):Int) 8=(((b-a) / 8:Nat):Int):=by
  rw[show(8:Int)=((8:Nat):Int)by rfl,<-Int.ofNat_tdiv]
 have w4:=qab (n:=(((b-a) / 8:Nat):Int)) (by omega) (by omega)
 unfold qwp
 generalize hL:b-a=L at *
 generalize hLq:L / 8=q at *
 by_cases c:mid-a<b-mid
 .have c':(mid:Int)-a<(b:Int)-mid:=by omega
  obtain⟨d5,p5,s5,e5⟩:=C.ih a mid lim d4 (by omega) (by omega) k1 (by omega) hl k4
  obtain⟨j1,j2⟩:=k6 d5 p5 s5
  have z3:((mid+1:Nat):Int)=(mid:Int)+1:=by omega
  simp[-qap,-qbb,zbk,e,w1,w2,w3,w4,hq,c',e5,m1,hf.ne]
  refine .more (mid+1) b lim (decide ((q:Int)<=(mid:Int)-a)) ap d5 (.inl rfl) (by rw[p5.1,k3];exact hd) (by omega) hb (by omega) hl j1 ?_ (fun D h1 h2=>?_)
  .simp[T73,hf.ne]
  .obtain⟨q1,q2⟩:=j2 D h1 h2
   exact⟨zcn hP q1,q2⟩
 .have c':¬(mid:Int)-a<(b:Int)-mid:=by omega
  obtain⟨d5,p5,s5,e5⟩:=C.ih (mid+1) b lim d4 (by omega) (by omega) (by omega) (by omega) hl k5
  obtain⟨j1,j2⟩:=k7 d5 p5 s5
  rw[show((mid+1:Nat):Int)=(mid:Int)+1 by omega]at e5
  simp[-qap,-qbb,zbk,e,w1,w2,w3,w4,hq,c',e5,m1,hf.ne]
  refine .more a mid lim (decide ((q:Int)<=(b:Int)-mid)) ap d5 (.inl rfl) (by rw[p5.1,k3];exact hd) k1 (by omega) (by omega) hl j1 ?_ (fun D h1 h2=>?_)
  .simp[T73,hf.ne]
  .obtain⟨q1,q2⟩:=j2 D h1 h2
   exact⟨zcn hP q1,q2⟩
end Go.Proofs.YtddeacahiilikaaGreat
