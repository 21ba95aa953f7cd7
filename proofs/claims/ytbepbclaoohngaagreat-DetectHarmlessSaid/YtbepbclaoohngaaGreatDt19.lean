/- The reference's Verify: its loops. -/
import Derived.Test.YtbepbclaoohngaaGreatMa1
import Derived.Test.YtbepbclaoohngaaGreatDt13
import Derived.KernelRfl
import Derived.Test.YtbepbclaoohngaaGreatDt15
set_option linter.all false
namespace Go.Proofs.YtbepbclaoohngaaGreat
open Go Go.Am Go.Proofs
set_option maxRecDepth 1000000
def zqn:qcl:=(219,[quu,z2n],{ v:=zrs,st:=⟨[],[⟨0,.arr 1 [[mai 0]]⟩,⟨0,.arr 1 [[.bool false]]⟩,⟨0,.arr 1 [[.bool true]]⟩,⟨0,.arr 1 [[.bool true],[.bool false]]⟩,⟨0,.arr 1 [[mai 0],[mai 0]]⟩,⟨0,.arr 1 []⟩]⟩ })
theorem z0z:Okc pg zqn:=qbf [qht] 600 (qae qif (qbg)) (by kernel_rfl)
def zbb:qcl:=(219,[quu,zoh],{ v:=zrs,st:=⟨[],[⟨0,.arr 1 [[mai 1]]⟩,⟨0,.arr 1 [[.bool true]]⟩,⟨0,.arr 1 [[.bool true]]⟩,⟨0,.arr 1 [[.bool true],[.bool false]]⟩,⟨0,.arr 1 [[mai 0],[mai 0]]⟩,⟨0,.arr 1 []⟩]⟩ })
theorem zjb:Okc pg zbb:=qbf [qht] 600 (qae qif (qbg)) (by kernel_rfl)
def zbc:qcl:=(89,[quu,z2n],{ v:=.tup [zoh,.imm [],mai 0],st:=⟨[],[]⟩ })
theorem zjc:Okc pg zbc:=qbf [qht,zqn,zbb] 600 (qae qif (qae z0z (qae zjb (qbg)))) (by kernel_rfl)
def zqo:qcl:=(219,[zlm,z2m],{ v:=zwe,st:=⟨[],[⟨0,.arr 1 [[mai 0]]⟩,⟨0,.arr 1 [[.bool false]]⟩,⟨0,.arr 1 [[.bool true]]⟩,⟨0,.arr 1 [[.bool true],[.bool false],[.bool false]]⟩,⟨0,.arr 1 [[mai 0],[mai 0],[mai 0]]⟩,⟨0,.arr 1 []⟩]⟩ })
theorem z1a:Okc pg zqo:=qbf [qwx] 600 (qae qza (qbg)) (by kernel_rfl)
def ziu:qcl:=(219,[zlm,zwd],{ v:=zwe,st:=⟨[],[⟨0,.arr 1 [[mai 0]]⟩,⟨0,.arr 1 [[.bool false]]⟩,⟨0,.arr 1 [[.bool true]]⟩,⟨0,.arr 1 [[.bool true],[.bool false],[.bool false]]⟩,⟨0,.arr 1 [[mai 0],[mai 0],[mai 0]]⟩,⟨0,.arr 1 []⟩]⟩ })
theorem zrl:Okc pg ziu:=qbf [qwx] 600 (qae qza (qbg)) (by kernel_rfl)
def ziv:qcl:=(89,[zlm,z2m],{ v:=.tup [zwd,.imm [],mai 0],st:=⟨[],[]⟩ })
theorem zrm:Okc pg ziv:=qbf [qwx,zqo,ziu] 600 (qae qza (qae z1a (qae zrl (qbg)))) (by kernel_rfl)
def zqp:qcl:=(48,[.agg [mai 1,zdw,z9u,qzc,zdx,mai 1,zdw,z2a,.imm [[mai 5]],zdx],mai 20],{ v:=.tup [.agg [.imm [],.imm [[mai 2,mai 0,.bool true]],.bool true],mai 0],st:=⟨[],[]⟩ })
theorem z1b:Okc pg zqp:=qbf [qht,zod,zoe,qwx,zvw,zvy,zof,zit,zbc,ziv] 600 (qae qif (qae zvz (qae zwa (qae qza (qae z1x (qae z1z (qae zwb (qae zrk (qae zjc (qae zrm (qbg))))))))))) (by kernel_rfl)
def zqq:qcl:=(168,[.agg [mai 2,.imm [[z2c],[.imm [[mai (-1099511627776)],[mai 0],[mai (-1099511627776)]]],[zwc]]],mai 1,mai 0,mai 0],{ v:=.tup [z2i,mai 0],st:=⟨[],[]⟩ })
theorem z1c:Okc pg zqq:=qbf [] 600 (qbg) (by kernel_rfl)
def zqr:qcl:=(168,[z2i,mai 0,mai 1,mai 0],{ v:=.tup [z2j,mai 0],st:=⟨[],[]⟩ })
theorem z1d:Okc pg zqr:=qbf [] 600 (qbg) (by kernel_rfl)
def ziw:qcl:=(150,[quu,zoh],{ v:=zdv,st:=⟨[],[]⟩ })
theorem zrn:Okc pg ziw:=qbf [qht,zbb] 600 (qae qif (qae zjb (qbg))) (by kernel_rfl)
def zix:qcl:=(219,[quu,zoi],{ v:=zrs,st:=⟨[],[⟨0,.arr 1 [[mai 2]]⟩,⟨0,.arr 1 [[.bool true]]⟩,⟨0,.arr 1 [[.bool true]]⟩,⟨0,.arr 1 [[.bool true],[.bool false]]⟩,⟨0,.arr 1 [[mai 0],[mai 0]]⟩,⟨0,.arr 1 []⟩]⟩ })
theorem zro:Okc pg zix:=qbf [qht] 600 (qae qif (qbg)) (by kernel_rfl)
end Go.Proofs.YtbepbclaoohngaaGreat
namespace Go.Proofs.YtbepbclaoohngaaGreat
open Go Go.Am Go.Proofs
set_option maxRecDepth 1000000
def ziy:qcl:=(89,[quu,zoi],{ v:=.tup [zoi,.imm [],mai 0],st:=⟨[],[]⟩ })
theorem zrp:Okc pg ziy:=qbf [qht,zix] 600 (qae qif (qae zro (qbg))) (by kernel_rfl)
def zqs:qcl:=(168,[z2j,mai 2,mai 1,mai 0],{ v:=.tup [z2k,mai 0],st:=⟨[],[]⟩ })
theorem z1e:Okc pg zqs:=qbf [] 600 (qbg) (by kernel_rfl)
def zqt:qcl:=(168,[z2k,mai 1,mai 2,mai 300],{ v:=.tup [z2d,mai 0],st:=⟨[],[]⟩ })
theorem z1f:Okc pg zqt:=qbf [] 600 (qbg) (by kernel_rfl)
def zqu:qcl:=(168,[z2d,mai 2,mai 1,mai (-200)],{ v:=.tup [z2r,mai 0],st:=⟨[],[]⟩ })
theorem z1g:Okc pg zqu:=qbf [] 600 (qbg) (by kernel_rfl)
def ziz:qcl:=(150,[quu,zoi],{ v:=zdv,st:=⟨[],[]⟩ })
theorem zrq:Okc pg ziz:=qbf [qht,zix] 600 (qae qif (qae zro (qbg))) (by kernel_rfl)
def zqv:qcl:=(51,[quu,z2g,z2f],{ v:=.tup [z2r,mai 0,mai 0],st:=⟨[],[]⟩ })
theorem z1h:Okc pg zqv:=qbf [qht,zod,zoe,zof,zbc,zqq,zqr,ziw,ziy,zqs,zqt,zqu,ziz] 600 (qae qif (qae zvz (qae zwa (qae zwb (qae zjc (qae z1c (qae z1d (qae zrn (qae zrp (qae z1e (qae z1f (qae z1g (qae zrq (qbg)))))))))))))) (by kernel_rfl)
def zja:qcl:=(174,[z2r],{ v:=.nilx,st:=⟨[],[]⟩ })
theorem zrr:Okc pg zja:=qbf [] 600 (qbg) (by kernel_rfl)
def zqw:qcl:=(52,[z2r,mai 1],{ v:=.tup [mai 0,mai 0,mai 0],st:=⟨[],[]⟩ })
theorem z1i:Okc pg zqw:=qbf [zja] 600 (qae zrr (qbg)) (by kernel_rfl)
def zqx:qcl:=(52,[z2r,mai 2],{ v:=.tup [mai 200,mai 300,mai 0],st:=⟨[],[]⟩ })
theorem z1j:Okc pg zqx:=qbf [zja] 600 (qae zrr (qbg)) (by kernel_rfl)
def zqy:qcl:=(150,[zlm,zwd],{ v:=zdv,st:=⟨[],[]⟩ })
theorem z1k:Okc pg zqy:=qbf [qwx,ziu] 600 (qae qza (qae zrl (qbg))) (by kernel_rfl)
def zqz:qcl:=(23,[quu,z2g,.agg [mai 0,mai 0],z2f],{ v:=.tup [mai 1,mai 300,mai 0],st:=⟨[],[]⟩ })
theorem z1l:Okc pg zqz:=qbf [zqv,zqw,zqx,qht,zvu,qwx,zvw,zvy,zit,ziv,zqy] 600 (qae z1h (qae z1i (qae z1j (qae qif (qae z0y (qae qza (qae z1x (qae z1z (qae zrk (qae zrm (qae z1k (qbg)))))))))))) (by kernel_rfl)
end Go.Proofs.YtbepbclaoohngaaGreat
namespace Go.Proofs.YtbepbclaoohngaaGreat
open Go Go.Am Go.Proofs
set_option maxRecDepth 1000000
def zra:qcl:=(86,[quu,.agg [mai 2,mai 1]],{ v:=.tup [quu,.imm []],st:=⟨[],[]⟩ })
theorem z1m:Okc pg zra:=qbf [qht] 600 (qae qif (qbg)) (by kernel_rfl)
def zrb:qcl:=(219,[quu,z2o],{ v:=zrs,st:=⟨[],[⟨0,.arr 1 [[mai 1]]⟩,⟨0,.arr 1 [[.bool true]]⟩,⟨0,.arr 1 [[.bool false]]⟩,⟨0,.arr 1 [[.bool false],[.bool true]]⟩,⟨0,.arr 1 [[mai 0],[mai 0]]⟩,⟨0,.arr 1 []⟩]⟩ })
theorem z1n:Okc pg zrb:=qbf [qht] 600 (qae qif (qbg)) (by kernel_rfl)
def zbd:qcl:=(219,[quu,zoj],{ v:=zrs,st:=⟨[],[⟨0,.arr 1 [[mai 3]]⟩,⟨0,.arr 1 [[.bool false]]⟩,⟨0,.arr 1 [[.bool false]]⟩,⟨0,.arr 1 [[.bool false],[.bool true]]⟩,⟨0,.arr 1 [[mai 0],[mai 0]]⟩,⟨0,.arr 1 []⟩]⟩ })
theorem zjd:Okc pg zbd:=qbf [qht] 600 (qae qif (qbg)) (by kernel_rfl)
def zrc:qcl:=(89,[quu,z2o],{ v:=.tup [zoj,.imm [],mai 0],st:=⟨[],[]⟩ })
theorem z1o:Okc pg zrc:=qbf [qht,zrb,zbd] 600 (qae qif (qae z1n (qae zjd (qbg)))) (by kernel_rfl)
def zrd:qcl:=(150,[quu,zoj],{ v:=zdv,st:=⟨[],[]⟩ })
theorem z1p:Okc pg zrd:=qbf [qht,zbd] 600 (qae qif (qae zjd (qbg))) (by kernel_rfl)
def zre:qcl:=(219,[quu,z2p],{ v:=zrs,st:=⟨[],[⟨0,.arr 1 [[mai 2]]⟩,⟨0,.arr 1 [[.bool true]]⟩,⟨0,.arr 1 [[.bool false]]⟩,⟨0,.arr 1 [[.bool false],[.bool true]]⟩,⟨0,.arr 1 [[mai 0],[mai 0]]⟩,⟨0,.arr 1 []⟩]⟩ })
theorem z1q:Okc pg zre:=qbf [qht] 600 (qae qif (qbg)) (by kernel_rfl)
def zrf:qcl:=(89,[quu,z2p],{ v:=.tup [zoj,.imm [],mai 0],st:=⟨[],[]⟩ })
theorem z1r:Okc pg zrf:=qbf [qht,zre,zbd] 600 (qae qif (qae z1q (qae zjd (qbg)))) (by kernel_rfl)
def zrg:qcl:=(75,[jem,.agg [qzc,qqx,qqx,qzb,q2t,qzc,qqx,qqx,qzb,q2t]],{ v:=mai 3,st:=⟨[],[]⟩ })
theorem z1t:Okc pg zrg:=qbf [] 600 (qbg) (by kernel_rfl)
def zrh:qcl:=(219,[quu,z2q],{ v:=zrs,st:=⟨[],[⟨0,.arr 1 [[mai 3]]⟩,⟨0,.arr 1 [[.bool false]]⟩,⟨0,.arr 1 [[.bool true]]⟩,⟨0,.arr 1 [[.bool true],[.bool false]]⟩,⟨0,.arr 1 [[mai 0],[mai 0]]⟩,⟨0,.arr 1 []⟩]⟩ })
theorem z1u:Okc pg zrh:=qbf [qht] 600 (qae qif (qbg)) (by kernel_rfl)
def zri:qcl:=(89,[quu,z2q],{ v:=.tup [zoh,.imm [],mai 0],st:=⟨[],[]⟩ })
theorem z1v:Okc pg zri:=qbf [qht,zrh,zbb] 600 (qae qif (qae z1u (qae zjb (qbg)))) (by kernel_rfl)
def zrj:qcl:=(48,[.agg [mai 1,zdw,z9u,qzc,zdx,mai 1,zdw,z9u,qzc,zdx],mai 20],{ v:=.tup [.agg [jem,.imm [],.bool false],mai 0],st:=⟨[],[]⟩ })
theorem z1w:Okc pg zrj:=qbf [qht,zod,zoe,zof,zbc,ziw,ziy,ziz,zrc,zrd,zrf,zrg,zri] 600 (qae qif (qae zvz (qae zwa (qae zwb (qae zjc (qae zrn (qae zrp (qae zrq (qae z1o (qae z1p (qae z1r (qae z1t (qae z1v (qbg)))))))))))))) (by kernel_rfl)
end Go.Proofs.YtbepbclaoohngaaGreat
namespace Go.Proofs.YtbepbclaoohngaaGreat
open Go Go.Am Go.Proofs
set_option maxRecDepth 1000000
theorem ev12:ev pg (.call (.fn 12 [] []) [] [])=some { v:=.bool true,st:=⟨[],[]⟩ }:=qbf (c:=(12,[],{ v:=.bool true,st:=⟨[],[]⟩ })) [qht,zvu,qwx,zqp,zqz,zra,zrj] 600 (qae qif (qae z0y (qae qza (qae z1b (qae z1l (qae z1m (qae z1w qbg))))))) (by kernel_rfl)
set_option maxHeartbeats 4000000
theorem zpf{w:Ct×Ct}{most:Int}{k:Nat}{s:Sr}(h:SrOk w most s)(hk:k<s.D.length)(x:Evn):∀z,(qhg w most k s x).2=some z->z.1.length<=s.D.length:=by
 intro z hz
 have hkN:k<s.N.length:=by rw[h.len];exact hk
 have hr:=h.run k hkN
 unfold qhg at hz
 split at hz
 .split at hz
  .simp only[jC]at hz
   rw[<-hz,jA hkN]
   simp only[Option.getD_some,jF,List.length_cons,List.length_nil]
   omega
  .split at hz
   .cases hz
   .split at hz
    .simp only[jC]at hz
     rw[<-hz]
     simp
    .cases hz
 .simp only[jC]at hz
  rw[<-hz]
  simp
theorem q4w{w:Ct×Ct}(hw:WS w){most:Int}{k:Nat}:∀(l:List Evn) (s:Sr),SrOk w most s->k<s.D.length->∀z,(qck (qhg w most k) s l).2=some z->(z.1.length:Int)<=most
 | [],s,h,hk,z,hz=>by cases hz
 | x :: l,s,h,hk,z,hz=>by
  have h1:=q3h hw h hk x
  have h2:=q3g w most k s x
  have h3:=zpf h hk x
  simp only[qck]at hz
  cases hy:qhg w most k s x with
  | mk s' o =>
   rw[hy]at hz h1 h2 h3
   cases o with
   | none=>exact q4w hw l s' h1 (by simp only at h2;omega) z hz
   | some u =>
    simp only[jC]at hz
    have h4:=h3 u rfl
    have:=h.most
    rw[<-hz]
    omega
theorem zsb{w:Ct×Ct}(hw:WS w){most:Int}:∀(d k:Nat) (s:Sr),SrOk w most s->SrOk w most (sGo w most d k s).1/\∀z,(sGo w most d k s).2=some z->(z.1.length:Int)<=most
 | 0,k,s,h=>⟨h,fun z hz=>by cases hz⟩
 | d+1,k,s,h=>by
  simp only[sGo]
  split
  .rename_i hk
   have h1:=qya hw h hk
   have h2:=q4w hw (qkm w ((s.D[k]?).getD qyq)) s h hk
   have hR:qde w most k s=qck (qhg w most k) s (qkm w ((s.D[k]?).getD qyq)):=rfl
   rw[<-hR]at h2
   generalize qde w most k s=z at *
   obtain⟨s',z⟩:=z
   cases z with
   | none=>exact zsb hw d (k+1) s' h1
   | some y=>exact⟨h1,fun z hz=>by simp only[jC]at hz;rw[<-hz];exact h2 y rfl⟩
  .exact⟨h,fun z hz=>by cases hz⟩
theorem zcc{w:Ct×Ct}{most:Int}(h1:1<=most)(hl:LieP w (qap w).1):SrOk w most ⟨[(qap w).1],[[]]⟩:=⟨by simpa using hl,rfl,by simpa using h1,by simp⟩
theorem zes{w:Ct×Ct}(hw:WS w){most:Int}(h1:1<=most):(∀p∈(qdt w most).1.1,LieP w p)/\((qdt w most).1.1.length:Int)<=most/\((qdt w most).1.2.2.1.length:Int)<=most:=by
 have hlie:=qtk hw
 unfold qdt
 by_cases he:(qap w).2.2=0
 .rw[if_pos he]
  cases hr:(qap w).2.1 with
  | true =>
   cases hd:difP w (qap w).1 with
   | true=>simp;omega
   | false =>
    simp only[Bool.not_true,Bool.or_self,Bool.false_eq_true,if_false]
    obtain⟨a,b⟩:=zsb hw (most.toNat+1) 0 _ (zcc h1 (hlie he hr))
    generalize sGo w most (most.toNat+1) 0 ⟨[(qap w).1],[[]]⟩=z at *
    obtain⟨s,z⟩:=z
    cases z with
    | none=>exact⟨a.lie,a.most,by simp[zyj];omega⟩
    | some z=>exact⟨by simp[zyj],by simp[zyj];omega,b z rfl⟩
  | false=>simp;omega
 .rw[if_neg he]
  simp;omega
def q7f(w:Ct×Ct)(l:List (Ste×Ste))(p:Ste×Ste)(b:Bool)(x:Evn):Bool×Option Int :=
 if(qfg w p x).2.2=0 then(b&&((qfg w p x).2.1&&qzu l (qfg w p x).1),none)else(b,some (qfg w p x).2.2)
def q3r(w:Ct×Ct)(l:List (Ste×Ste))(b:Bool)(p:Ste×Ste):Bool×Option Int:=qck (q7f w l p) (b && !difP w p) (qkm w p)
def zpp(w:Ct×Ct)(l:List (Ste×Ste))(b:Bool):Bool×Option Int:=qck (q3r w l) b l
def zse(b:Bool):Int:=if b=true then 0 else 15
def zsf(x:Bool×Option Int):Int:=match x.2 with
 | none=>zse x.1
 | some e=>e
def qyz(w:Ct×Ct):List (Ste×Ste)->Int
 | []=>0
 | p :: l=>if(qec w.1 p.1).2=0 then(if(qec w.2 p.2).2=0 then qyz w l else(qec w.2 p.2).2)else(qec w.1 p.1).2
def zfh(w:Ct×Ct)(l:List (Ste×Ste)):Int :=
 if l=[]then 13
 else if 16384<l.length then 5
 else if qyz w l=0 then
  (if(qap w).2.2=0 then zsf (zpp w l ((qap w).2.1&&qzu l (qap w).1))else(qap w).2.2)
 else qyz w l
def qnm(c:Ct)(k i:Int)(l:List (Ste×Ste)):Int:=if qhs c k i=0 then zfh (c,qio c k i) l else qhs c k i
def jac(e:Int)(r:R):Prop:=∃S H,r={ x:=.ret,st:=⟨S,H⟩ }/\qag S 8=num e
@[simp] theorem zzo{e:Int}{x:X}{st:St}:jac e { x:=x,v:=.undef,st:=st }<->x=.ret/\qag st.s 8=num e:=by
 constructor
 .rintro⟨S,H,h,h2⟩
  cases h
  exact⟨rfl,h2⟩
 .rintro⟨rfl,h⟩
  exact⟨st.s,st.h,rfl,h⟩
def jab(e:Int)(r:R):Prop:=∃S H,r={ x:=.ret,st:=⟨S,H⟩ }/\qag S 6=num e
@[simp] theorem zzm{e:Int}{x:X}{st:St}:jab e { x:=x,v:=.undef,st:=st }<->x=.ret/\qag st.s 6=num e:=by
 constructor
 .rintro⟨S,H,h,h2⟩
  cases h
  exact⟨rfl,h2⟩
 .rintro⟨rfl,h⟩
  exact⟨st.s,st.h,rfl,h⟩
def zyb(w:Ct×Ct)(_:Unit)(p:Ste×Ste):Unit×Option Int:=if(qec w.1 p.1).2=0 then(if(qec w.2 p.2).2=0 then((),none)else((),some (qec w.2 p.2).2))else((),some (qec w.1 p.1).2)
theorem q5l(w:Ct×Ct):∀l,(qck (zyb w) () l).2=if qyz w l=0 then none else some (qyz w l)
 | []=>rfl
 | p :: l=>by
  have ih:=q5l w l
  simp only[qck,zyb,qyz]
  by_cases h1:(qec w.1 p.1).2=0
  .by_cases h2:(qec w.2 p.2).2=0
   .simp[h1,h2,ih]
   .simp[h1,h2]
  .simp[h1]
theorem qqb{w:Ct×Ct}{p:Ste×Ste}(h:LieP w p)(x:Evn):(qfg w p x).2.2=(qbk w.1 p.1 x).2.2:=by
 unfold qfg
 rw[h.g.next1]
 split
 .rename_i h;exact h.symm
 .rfl
end Go.Proofs.YtbepbclaoohngaaGreat
