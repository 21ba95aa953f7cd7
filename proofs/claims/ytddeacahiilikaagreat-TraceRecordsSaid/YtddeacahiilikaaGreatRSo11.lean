/- Sorting in place: patterns are broken. Sorting in place: patterns are broken, as a function. Sorting in place: patterns are broken, the function. -/
import Derived.Test.YtddeacahiilikaaGreatRSo8
set_option linter.all false
namespace Go.Proofs.YtddeacahiilikaaGreat
open Go Go.Am Go.Proofs
set_option maxRecDepth 100000
theorem q1j{n:Int}(h:0<=n)(h2:n<18446744073709551616):IntKind.u64.wrap n=n:=by
 unfold IntKind.wrap;simp[IntKind.bits,IntKind.signed];omega
theorem ofI(r:UInt64):BitVec.ofInt 64 (r.toNat:Int)=r.toBitVec:=by
 rw[BitVec.ofInt_natCast]
 exact BitVec.ofNat_toNat 64 r.toBitVec
theorem z2c(r s:UInt64):zgp .xor .u64 (r.toNat:Int) (s.toNat:Int)=((r ^^^ s).toNat:Int):=by
 show IntKind.u64.wrap ((BitVec.ofInt 64 (r.toNat:Int) ^^^ BitVec.ofInt 64 (s.toNat:Int)).toNat:Int)=_
 rw[ofI,ofI]
 have:=(r ^^^ s).toNat_lt
 rw[q1j (by omega) (by have:=(r.toBitVec ^^^ s.toBitVec).isLt;omega)]
 rfl
theorem z2w{a b:Nat}(ha:a<2 ^ 64)(hb:b<2 ^ 64):zgp .and .u64 (a:Int) (b:Int)=((a &&& b:Nat):Int):=by
 show IntKind.u64.wrap ((BitVec.ofInt 64 (a:Int) &&& BitVec.ofInt 64 (b:Int)).toNat:Int)=_
 rw[BitVec.ofInt_natCast,BitVec.ofInt_natCast,BitVec.toNat_and,BitVec.toNat_ofNat,BitVec.toNat_ofNat,Nat.mod_eq_of_lt ha,Nat.mod_eq_of_lt hb]
 have:a &&& b<=a:=Nat.and_le_left
 exact q1j (by omega) (by omega)
theorem z2r(r:UInt64)(k:UInt64)(m:Nat)(hm:k.toNat=m)(h64:m<64):IntKind.u64.wrap ((r.toNat:Int)*2 ^ m)=((r <<< k).toNat:Int):=by
 rw[UInt64.toNat_shiftLeft,hm,Nat.mod_eq_of_lt h64,Nat.shiftLeft_eq]
 unfold IntKind.wrap
 simp[IntKind.bits,IntKind.signed]
theorem z3z(r:UInt64)(k:UInt64)(m:Nat)(hm:k.toNat=m)(h64:m<64):Int.fdiv (r.toNat:Int) (2 ^ m)=((r >>> k).toNat:Int):=by
 rw[UInt64.toNat_shiftRight,hm,Nat.mod_eq_of_lt h64,Nat.shiftRight_eq_div_pow]
 rw[Int.fdiv_eq_ediv_of_nonneg _ (by have:=Int.pow_pos (n:=2) (m:=m) (by omega);omega)]
 simp
abbrev zfs(h:H)(i g:Nat)(d:Array Int)(r:UInt64):H:=put h i g d++[⟨0,.box [.int .u64 (r.toNat:Int)]⟩]
structure MemU(h:H)(i g:Nat):Prop where
 lt:i<h.length
 get:∀d r hh,(put h i g d++[(⟨0,.box [.int .u64 r]⟩:Ob)])[i]'hh=⟨g,.arr 1 (qgc d)⟩
 getq:∀d r,(put h i g d++[(⟨0,.box [.int .u64 r]⟩:Ob)])[i]?=some ⟨g,.arr 1 (qgc d)⟩
 box:∀d r hh,(put h i g d++[(⟨0,.box [.int .u64 r]⟩:Ob)])[h.length]'hh=⟨0,.box [.int .u64 r]⟩
 set:∀d d' r,(put h i g d++[(⟨0,.box [.int .u64 r]⟩:Ob)]).set i ⟨g,.arr 1 (qgc d')⟩=put h i g d'++[(⟨0,.box [.int .u64 r]⟩:Ob)]
 setB:∀d r s,(put h i g d++[(⟨0,.box [.int .u64 r]⟩:Ob)]).set h.length ⟨0,.box [.int .u64 s]⟩=put h i g d++[(⟨0,.box [.int .u64 s]⟩:Ob)]
 cl:∀d r,qbc (h.length+1) (put h i g d++[(⟨0,.box [.int .u64 r]⟩:Ob)])=put h i g d++[(⟨0,.box [.int .u64 r]⟩:Ob)]
 ck:∀d r,qaq (h.length+1) (put h i g d++[(⟨0,.box [.int .u64 r]⟩:Ob)])=put h i g d++[(⟨0,.box [.int .u64 r]⟩:Ob)]
 c0:∀d r,qaq h.length (put h i g d++[(⟨0,.box [.int .u64 r]⟩:Ob)])=put h i g d
theorem znv{h:H}{i:Nat}(hi:i<h.length)(hc:qdb h)(g:Nat):MemU h i g:=by
 have hcal:∀d r,qdb (put h i g d++[(⟨0,.box [.int .u64 r]⟩:Ob)]):=fun d r=>by
  refine qfq (qku hc i g d) ?_
  intro o ho
  rw[List.mem_singleton.1 ho]
  rfl
 refine⟨hi,fun d r hh=>?_,fun d r=>?_,fun d r hh=>?_,fun d d' r=>?_,fun d r s=>?_,fun d r=>?_,fun d r=>?_,fun d r=>?_⟩
 .rw[List.getElem_append_left (by simpa using hi)]
  exact(qgu hi hc g).get d _
 .rw[jI (by simpa using hi),q0w hi]
 .rw[List.getElem_append_right (by simp)]
  simp
 .rw[List.set_append_left _ _ (by simpa using hi),q9z]
 .rw[List.set_append_right _ _ (by simp),qjd,Nat.sub_self]
  rfl
 .have:=qmr (hcal d r)
  simpa using this
 .have:=qeo (hcal d r)
  simpa using this
 .have:=qgh (qku hc i g d) [(⟨0,.box [.int .u64 r]⟩:Ob)]
  rwa [qjd]at this
theorem ev282{h:H}{i g:Nat}(hm:MemU h i g)(d:Array Int)(r:UInt64):ev pg (.call (.fn 282 [] []) [.bptr h.length 0] (zfs h i g d r))=some { v:=.int .u64 ((Go.Sort.xorNext r).toNat:Int),st:=⟨[],zfs h i g d (Go.Sort.xorNext r)⟩ }:=by
 have m1:=hm.box
 have m2:=hm.setB
 have m4:=hm.ck
 unfold Go.Sort.xorNext
 simp only
 have s1:=z2r r 13 13 rfl (by omega)
 have x1:=z2c r (r <<< 13)
 generalize r <<< 13=r1 at *
 generalize r ^^^ r1=r2 at *
 have s2:=z3z r2 7 7 rfl (by omega)
 have x2:=z2c r2 (r2 >>> 7)
 generalize r2 >>> 7=r3 at *
 generalize r2 ^^^ r3=r4 at *
 have s3:=z2r r4 17 17 rfl (by omega)
 have x3:=z2c r4 (r4 <<< 17)
 generalize r4 <<< 17=r5 at *
 generalize r4 ^^^ r5=r6 at *
 simp at s1 s2 s3
 rw[qac,pg282]
 simp[-qaq,-qbc,qaa,exT,qae,ir282,m1,m2,m4,s1,s2,s3,x1,x2,x3,IntKind.bits]
def z1z:List UInt8:=[0,1,2,2,3,3,3,3,4,4,4,4,4,4,4,4]++List.replicate 16 5++List.replicate 32 6++List.replicate 64 7++List.replicate 128 8
theorem zao:∀k:Fin 256,z1z[k.1]?=some (UInt8.ofNat (Go.Sort.bitsLen k.1))/\(UInt8.ofNat (Go.Sort.bitsLen k.1)).toNat=Go.Sort.bitsLen k.1:=by decide +kernel
theorem qhq{n:Nat}(h:2<=n):Go.Sort.bitsLen n=1+Go.Sort.bitsLen (n / 2):=by
 unfold Go.Sort.bitsLen
 rw[if_neg (by omega),if_neg (by omega),Nat.log2_def,if_pos h]
 omega
theorem q8s{n:Nat}(h:256<=n):Go.Sort.bitsLen n=8+Go.Sort.bitsLen (n / 256):=by
 rw[qhq (by omega),qhq (n:=n / 2) (by omega),qhq (n:=n / 2 / 2) (by omega),qhq (n:=n / 2 / 2 / 2) (by omega),qhq (n:=n / 2 / 2 / 2 / 2) (by omega),qhq (n:=n / 2 / 2 / 2 / 2 / 2) (by omega),qhq (n:=n / 2 / 2 / 2 / 2 / 2 / 2) (by omega),qhq (n:=n / 2 / 2 / 2 / 2 / 2 / 2 / 2) (by omega)]
 rw[show n / 2 / 2 / 2 / 2 / 2 / 2 / 2 / 2=n / 256 by omega]
 omega
theorem qnd{n:Nat}(h:n<256):Go.Sort.bitsLen n<=8:=by
 have:=(by decide +kernel:∀k:Fin 256,Go.Sort.bitsLen k.1<=8) ⟨n,h⟩
 exact this
theorem zfz{n:Int}(h:0<=n)(h2:n<256):IntKind.u8.wrap n=n:=by
 unfold IntKind.wrap;simp[IntKind.bits,IntKind.signed];omega
theorem ev253(n:Nat)(hn:n<65536):ev pg (.call (.fn 253 [] []) [.int .u64 (n:Int)] [])=some { v:=num (Go.Sort.bitsLen n:Nat),st:=⟨[],[]⟩ }:=by
 have g1:¬(4294967296:Int)<=n:=by omega
 have g2:¬(65536:Int)<=n:=by omega
 rw[qac,pg253]
 by_cases h:n<256
 .have g3:¬(256:Int)<=n:=by omega
  obtain⟨t1,t2⟩:=zao ⟨n,h⟩
  simp only at t1 t2
  have w8:=zfz (n:=(n:Int)) (by omega) (by omega)
  have hs:=qnd h
  simp only[z1z,List.replicate,List.cons_append,List.nil_append]at t1
  generalize Go.Sort.bitsLen n=L at *
  have wL:=qab (n:=(L:Int)) (by omega) (by omega)
  simp[ir253,g1,g2,g3,w8,t1,wL]
  rw[show(L:Int) % 256=L by omega,wL,wL]
 .have g3:(256:Int)<=n:=by omega
  have hf:Int.fdiv (n:Int) 256=((n / 256:Nat):Int):=by
   rw[Int.fdiv_eq_ediv_of_nonneg _ (by omega)]
   simp
  rw[q8s (by omega)]
  have h2:n / 256<256:=by omega
  generalize n / 256=q at *
  obtain⟨t1,t2⟩:=zao ⟨q,h2⟩
  simp only at t1 t2
  have w8:=zfz (n:=(q:Int)) (by omega) (by omega)
  have hs:=qnd h2
  simp only[z1z,List.replicate,List.cons_append,List.nil_append]at t1
  generalize Go.Sort.bitsLen q=L at *
  have wL:=qab (n:=(L:Int)) (by omega) (by omega)
  have wL2:=qab (n:=8+(L:Int)) (by omega) (by omega)
  have w88:IntKind.i64.wrap 8=8:=by decide
  simp[ir253,g1,g2,g3,hf,w8,w88,t1,wL,wL2,IntKind.bits]
  rw[show(L:Int) % 256=L by omega,wL,wL2]
theorem ev210(n:Nat)(hn:n<65536):ev pg (.call (.fn 210 [] []) [.int .u64 (n:Int)] [])=some { v:=num (Go.Sort.bitsLen n:Nat),st:=⟨[],[]⟩ }:=by
 have h:=ev253 n hn
 rw[qac,pg210]
 simp[ir210,h]
theorem q8t{n:Nat}(hn:n<65536):Go.Sort.bitsLen n<=16:=by
 by_cases h:n<256
 .have:=qnd h;omega
 .rw[q8s (by omega)]
  have:=qnd (n:=n / 256) (by omega)
  omega
theorem zoc{n:Nat}(h:1<=n):2 ^ Go.Sort.bitsLen n<=2*n:=by
 unfold Go.Sort.bitsLen
 rw[if_neg (by omega),Nat.pow_succ]
 have:=Nat.log2_self_le (n:=n) (by omega)
 omega
theorem ev281(n:Nat)(hn:n<65536):ev pg (.call (.fn 281 [] []) [num n] [])=some { v:=.int .u64 ((1 <<< Go.Sort.bitsLen n:Nat):Int),st:=⟨[],[]⟩ }:=by
 have h:=ev210 n hn
 have hL:=q8t hn
 have wn:=q1j (n:=(n:Int)) (by omega) (by omega)
 rw[Nat.one_shiftLeft]
 have hp:(2:Int) ^ Go.Sort.bitsLen n=((2 ^ Go.Sort.bitsLen n:Nat):Int):=by simp
 have hb:2 ^ Go.Sort.bitsLen n<=2 ^ 16:=Nat.pow_le_pow_right (by omega) hL
 generalize Go.Sort.bitsLen n=L at *
 have hmin:min L 64=L:=by omega
 have hs:IntKind.u64.wrap ((2:Int) ^ L)=((2 ^ L:Nat):Int):=by
  rw[hp]
  have hb2:(2:Nat) ^ 16=65536:=by decide
  generalize (2:Nat) ^ L=P at *
  exact q1j (by omega) (by omega)
 rw[qac,pg281]
 have hL0:¬(L:Int)<0:=by omega
 simp[ir281,wn,h,IntKind.bits,hmin,hL0]
 simpa using hs
def zeq(i g n:Nat)(hl a l M k:Nat):Tm:=[some (.sl i g 1 0 n),some (num a),none,none,none,none,some (num l),some (.bptr hl 0),some (.int .u64 (M:Int)),some (num k)]++List.replicate 55 none
theorem znt{h:H}{i g:Nat}(hm:MemU h i g)(n a l k:Nat)(hn:n<65536)(hal:a+l<=n)(h8:8<=l)(hk1:k<=a+l / 4*2+1)(r:UInt64)(d:Array Int)(hd:d.size=n){Q:R->Prop}
  (next:∀st,At (zeq i g n h.length a l (1 <<< Go.Sort.bitsLen l) (k+1)) (zfs h i g (Go.Sort.breakStep a l (1 <<< Go.Sort.bitsLen l) (r,d) k).2 (Go.Sort.breakStep a l (1 <<< Go.Sort.bitsLen l) (r,d) k).1) st->∃r,ev pg (.code (.going (h.length+1) L245_0) st)=some r/\Q r)
  {st:St} (h0:At (zeq i g n h.length a l (1 <<< Go.Sort.bitsLen l) k) (zfs h i g d r) st):∃r,ev pg (.code (.going (h.length+1) L245_0) st)=some r/\Q r:=by
 have hL:=q8t (n:=l) (by omega)
 have hM2:1 <<< Go.Sort.bitsLen l<=2*l:=by rw[Nat.one_shiftLeft];exact zoc (by omega)
 have hM1:1<=1 <<< Go.Sort.bitsLen l:=by rw[Nat.one_shiftLeft];exact Nat.one_le_two_pow
 generalize 1 <<< Go.Sort.bitsLen l=M at *
 refine qfy (fun f hf=>?_) next h0
 have e:=ev282 hm d r
 unfold Go.Sort.breakStep
 simp only[qsu]
 generalize Go.Sort.xorNext r=r' at *
 have hr:=r'.toNat_lt
 have hq:Int.tdiv (l:Int) 4=((l / 4:Nat):Int):=by
  rw[show(4:Int)=((4:Nat):Int)by rfl,<-Int.ofNat_tdiv]
 have q1:4*(l / 4)<=l:=by omega
 have q2:2<=l / 4:=by omega
 have q3:k<a+l:=by omega
 generalize l / 4=q at *
 have wq:=qab (n:=(q:Int)) (by omega) (by omega)
 have wq2:=qab (n:=(q:Int)*2) (by omega) (by omega)
 have wj:=qab (n:=(a:Int)+q*2) (by omega) (by omega)
 have wj1:=qab (n:=(a:Int)+q*2+1) (by omega) (by omega)
 have ck:(k:Int)<=(a:Int)+q*2+1:=by omega
 have wM:=q1j (n:=(M:Int)-1) (by omega) (by omega)
 have hand:=z2w (a:=r'.toNat) (b:=M-1) (by omega) (by omega)
 rw[show((M-1:Nat):Int)=(M:Int)-1 by omega]at hand
 have hle:r'.toNat &&& (M-1)<=M-1:=Nat.and_le_right
 generalize r'.toNat &&& (M-1)=o at *
 have wo:=qab (n:=(o:Int)) (by omega) (by omega)
 have wk:=qab (n:=(k:Int)+1) (by omega) (by omega)
 have m1:=hm.lt
 have m2:=hm.set
 have m3:=hm.get
 have m3q:=hm.getq
 have m1b:i<h.length+1:=by omega
 have m4:=hm.cl
 have m5:=hm.ck
 have b1:k<d.size:=by omega
 have r1:=qal (d:=d) (k:=k) b1
 by_cases c:o≥l
 .have c':(l:Int)<=o:=by omega
  simp only[c,if_true]
  have wol:IntKind.i64.wrap ((o:Int)-l)=((o-l:Nat):Int):=by
   rw[qab (by omega) (by omega)]
   omega
  have hol:o-l<l:=by omega
  generalize o-l=p at *
  have b2:a+p<d.size:=by omega
  have r2:=qal (d:=d) (k:=a+p) b2
  have wp:=qab (n:=(a:Int)+p) (by omega) (by omega)
  have pp:(0:Int)<=(a:Int)+p:=by omega
  have tp:((a:Int)+p).toNat=a+p:=by omega
  have hsw:(d.setIfInBounds k d[a+p]!).setIfInBounds (a+p) d[k]! = swI d k (a+p):=rfl
  obtain⟨z,r3⟩:=qbx (d.setIfInBounds k d[a+p]!) (a+p)
  generalize swI d k (a+p)=d' at *
  generalize d[k]! = x at *
  generalize d[a+p]! = y at *
  simp[-qaq,-qbc,qaa,exT,qae,L245_0,zeq,hq,wq,wq2,wj,wj1,ck,e,wM,hand,wo,c',wol,wp,pp,tp,m1,m1b,m2,m3,m3q,m4,m5,r1,r2,r3,b1,b2,qbm,hsw,wk,hd.symm,hf.ne]
 .have c':¬(l:Int)<=o:=by omega
  simp only[c,if_false]
  have b2:a+o<d.size:=by omega
  have r2:=qal (d:=d) (k:=a+o) b2
  have wp:=qab (n:=(a:Int)+o) (by omega) (by omega)
  have pp:(0:Int)<=(a:Int)+o:=by omega
  have tp:((a:Int)+o).toNat=a+o:=by omega
  have hsw:(d.setIfInBounds k d[a+o]!).setIfInBounds (a+o) d[k]! = swI d k (a+o):=rfl
  obtain⟨z,r3⟩:=qbx (d.setIfInBounds k d[a+o]!) (a+o)
  generalize swI d k (a+o)=d' at *
  generalize d[k]! = x at *
  generalize d[a+o]! = y at *
  simp[-qaq,-qbc,qaa,exT,qae,L245_0,zeq,hq,wq,wq2,wj,wj1,ck,e,wM,hand,wo,c',wp,pp,tp,m1,m1b,m2,m3,m3q,m4,m5,r1,r2,r3,b1,b2,qbm,hsw,wk,hd.symm,hf.ne]
theorem qhv(a l M:Nat)(st:UInt64×Array Int)(k:Nat):(Go.Sort.breakStep a l M st k).2.size=st.2.size:=by
 unfold Go.Sort.breakStep
 exact qch _ _ _
theorem ev245{h:H}{i:Nat}(hi:i<h.length)(hc:qdb h)(g:Nat)(d:Array Int)(a l:Nat)(hb:a+l<=d.size)(h8:8<=l)(hn:d.size<65536):ev pg (.call (.fn 245 [] []) [.sl i g 1 0 d.size,num a,num (a+l:Nat)] (put h i g d))=some { v:=.tup [],st:=⟨[],put h i g (Go.Sort.breakPatterns d a (a+l))⟩ }:=by
 have hm:=znv hi hc g
 have m5:=hm.c0
 have m1:=hm.lt
 have e135:=ev281 l (by omega)
 have wl:IntKind.i64.wrap ((a:Int)+l-a)=(l:Int):=by
  rw[qab (by omega) (by omega)]
  omega
 have wlu:=q1j (n:=(l:Int)) (by omega) (by omega)
 have hu:(UInt64.ofNat l).toNat=l:=by
  rw[UInt64.toNat_ofNat']
  omega
 have h8':(8:Int)<=l:=by omega
 unfold Go.Sort.breakPatterns
 simp only[Nat.add_sub_cancel_left,ge_iff_le,h8,if_true]
 have hq:Int.tdiv (l:Int) 4=((l / 4:Nat):Int):=by
  rw[show(4:Int)=((4:Nat):Int)by rfl,<-Int.ofNat_tdiv]
 have q1:4*(l / 4)<=l:=by omega
 have q2:2<=l / 4:=by omega
 have wq:=qab (n:=((l / 4:Nat):Int)) (by omega) (by omega)
 have wq2:=qab (n:=((l / 4:Nat):Int)*2) (by omega) (by omega)
 have wj:=qab (n:=(a:Int)+((l / 4:Nat):Int)*2) (by omega) (by omega)
 have wj1:=qab (n:=(a:Int)+((l / 4:Nat):Int)*2-1) (by omega) (by omega)
 have hidx:(a:Int)+((l / 4:Nat):Int)*2-1=((a+l / 4*2-1:Nat):Int):=by omega
 have hk:a+l / 4*2-1+3=a+l / 4*2+2:=by omega
 generalize hkk:a+l / 4*2-1=k at *
 have hs1:=qhv a l (1 <<< Go.Sort.bitsLen l) (UInt64.ofNat l,d) k
 have s1:=fun(Q:R->Prop)=>@znt h i g hm d.size a l k hn hb h8 (by omega) (UInt64.ofNat l) d rfl Q
 generalize Go.Sort.breakStep a l (1 <<< Go.Sort.bitsLen l) (UInt64.ofNat l,d) k=D1 at *
 obtain⟨u1,d1⟩:=D1
 have hs2:=qhv a l (1 <<< Go.Sort.bitsLen l) (u1,d1) (k+1)
 have s2:=fun(Q:R->Prop)=>@znt h i g hm d.size a l (k+1) hn hb h8 (by omega) u1 d1 hs1 Q
 generalize Go.Sort.breakStep a l (1 <<< Go.Sort.bitsLen l) (u1,d1) (k+1)=D2 at *
 obtain⟨u2,d2⟩:=D2
 simp only at hs1 hs2
 have hs3:=qhv a l (1 <<< Go.Sort.bitsLen l) (u2,d2) (k+2)
 have s3:=fun(Q:R->Prop)=>@znt h i g hm d.size a l (k+2) hn hb h8 (by omega) u2 d2 (by omega) Q
 generalize Go.Sort.breakStep a l (1 <<< Go.Sort.bitsLen l) (u2,d2) (k+2)=D3 at *
 obtain⟨u3,d3⟩:=D3
 simp only at hs3 s1 s2 s3 ⊢
 have fin:∀st,At (zeq i g d.size h.length a l (1 <<< Go.Sort.bitsLen l) (k+2+1)) (zfs h i g d3 u3) st->∃r,ev pg (.code (.going (h.length+1) L245_0) st)=some r/\qaj (.exit 0) (List.replicate 65 none) (zfs h i g d3 u3) r:=by
  intro st h0
  refine qay (fun f hf=>?_) h0
  have wj2:=qab (n:=(a:Int)+((l / 4:Nat):Int)*2+1) (by omega) (by omega)
  have ck:¬(k:Int)+2+1<=(a:Int)+((l / 4:Nat):Int)*2+1:=by omega
  generalize l / 4=q at *
  simp[-qaq,-qbc,qaa,exT,qae,L245_0,zeq,hq,wq,wq2,wj,wj2,ck,hf.ne]
 have all:∀st,At (zeq i g d.size h.length a l (1 <<< Go.Sort.bitsLen l) k) (zfs h i g d (UInt64.ofNat l)) st->∃r,ev pg (.code (.going (h.length+1) L245_0) st)=some r/\qaj (.exit 0) (List.replicate 65 none) (zfs h i g d3 u3) r:=fun st h0=>s1 _ (fun st h1=>s2 _ (fun st h2=>s3 _ fin h2) h1) h0
 generalize 1 <<< Go.Sort.bitsLen l=M at *
 generalize l / 4=q at *
 rw[qac,pg245]
 simp[-qaq,-qbc,ir245,wl,h8',wlu,e135,hq,wq,wq2,wj,wj1,qaf]
 generalize hr:ev pg (.code (.going _ L245_0) _)=o
 obtain⟨r,rfl,f,hf,rfl⟩:∃r,o=some r/\_:=by rw[<-hr];exact all _ (by simp[zeq,hidx,hu])
 clear hr
 simp[-qaq,-qbc,m5,m1]
end Go.Proofs.YtddeacahiilikaaGreat
