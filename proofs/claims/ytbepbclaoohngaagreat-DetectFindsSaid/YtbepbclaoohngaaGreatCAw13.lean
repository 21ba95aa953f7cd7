/- The examples of the laws of detect, run by Am: they hold. -/
import Derived.Test.YtbepbclaoohngaaGreatCPg7
import Derived.Test.YtbepbclaoohngaaGreatCEn6
set_option linter.all false
namespace Go.Proofs.YtbepbclaoohngaaGreat
open Go Go.Am Go.Proofs
abbrev mai(n:Int):V:=.int .i64 n
abbrev z2l:V:=.imm [[mai 1,mai 2,.imm []]]
abbrev jam:V:=.imm [[.str [117,112],mai 0,mai 1,mai 2,.imm [],mai 0,mai 0,.imm [],mai 0,.bool false],[.str [100,111,119,110],mai 0,mai 2,mai 0,z2l,mai 0,mai 0,.imm [],mai 0,.bool false]]
abbrev qyr:V:=.imm [[mai 3]]
abbrev zdk:V:=.imm [[.str [103,111]]]
abbrev zdl:V:=.imm [[mai 4]]
abbrev qur:V:=.agg [mai 1,zdk,jam,qyr,zdl]
abbrev z2a:V:=.imm [[.str [117,112],mai 0,mai 1,mai 2,.imm [],mai 0,mai 0,.imm [],mai 0,.bool false],[.str [100,111,119,110],mai 0,mai 2,mai 0,z2l,mai 0,mai 0,.imm [],mai 0,.bool false],[.str [115,116,117,99,107,48],mai 0,mai 0,mai 0,.imm [],mai 0,mai 0,.imm [],mai 0,.bool false]]
abbrev zkv:V:=.agg [mai 1,zdk,z2a,.imm [[mai 5]],zdl]
abbrev q2n:V:=.imm [[mai 0],[mai 0]]
abbrev zvx:V:=.imm [[mai 0],[mai 0],[mai (-1099511627776)]]
abbrev qqv:V:=.imm [[.bool false]]
abbrev zri:V:=.tup [.agg [.sl 0 0 1 0 1,.sl 1 0 1 0 1,.sl 2 0 1 0 1,.sl 3 0 1 0 2,.sl 4 0 1 0 2],.sl 5 0 1 0 0,mai 0]
abbrev qyq:V:=.imm [[.bool false],[.bool true]]
abbrev qmd:V:=.imm [[.bool true]]
abbrev q5r:V:=.imm [[.bool true],[.bool false]]
abbrev q2m:V:=.imm [[mai 0]]
abbrev zny:V:=.imm [[mai 1]]
abbrev znz:V:=.imm [[mai 2]]
abbrev jge:V:=.imm [[q2m,qqv,qqv,qyq,q2n,q2m,qqv,qqv,qyq,q2n],[zny,qmd,qmd,q5r,q2n,zny,qmd,qmd,q5r,q2n],[znz,qmd,qmd,q5r,q2n,znz,qmd,qmd,q5r,q2n],[qyr,qqv,qqv,qyq,q2n,qyr,qqv,qqv,qyq,q2n]]
abbrev z2h:V:=.imm [[mai 0],[mai 0],[mai 300]]
abbrev z2r:V:=.agg [mai 2,.imm [[zvx],[z2h],[.imm [[mai (-1099511627776)],[mai (-200)],[mai 0]]]]]
abbrev znu:V:=.imm [[mai 0],[mai 0],[mai 0]]
abbrev z2e:V:=.imm [[.bool false],[.bool true],[.bool false]]
abbrev z2s:V:=.agg [q2m,qqv,qqv,z2e,znu]
abbrev zvu:V:=.imm [[mai (-1099511627776)],[mai (-1099511627776)],[mai 0]]
abbrev zvv:V:=.agg [q2m,qqv,qmd,.imm [[.bool true],[.bool false],[.bool false]],znu]
abbrev zvw:V:=.tup [.agg [.sl 0 0 1 0 1,.sl 1 0 1 0 1,.sl 2 0 1 0 1,.sl 3 0 1 0 3,.sl 4 0 1 0 3],.sl 5 0 1 0 0,mai 0]
abbrev z2b:V:=.imm [[mai (-1099511627776)],[mai 0],[mai 0]]
abbrev z2c:V:=.imm [[mai 0],[mai (-1099511627776)],[mai (-1099511627776)]]
abbrev znv:V:=.agg [zny,qmd,qmd,q5r,q2n]
abbrev znw:V:=.agg [znz,qmd,qmd,q5r,q2n]
abbrev ziu:V:=.agg [q2m,qqv,qqv,qyq,q2n]
abbrev zdj:V:=.tup [.bool true,mai 0]
abbrev znx:V:=.agg [qyr,qqv,qqv,qyq,q2n]
abbrev z2d:V:=.agg [mai 2,.imm [[zvx],[z2h],[z2b]]]
abbrev z2f:V:=.imm [[mai 2,mai 0,.bool true],[mai 0,mai 0,.bool false]]
abbrev z2g:V:=.agg [.imm [[mai 200,mai 300,mai 200,mai 300]]]
abbrev z2i:V:=.agg [mai 2,.imm [[z2c],[zvx],[zvu]]]
abbrev z2j:V:=.agg [mai 2,.imm [[zvx],[zvx],[zvu]]]
abbrev z2k:V:=.agg [mai 2,.imm [[zvx],[zvx],[z2b]]]
abbrev z2m:V:=.agg [q2m,qqv,qmd,z2e,znu]
abbrev z2n:V:=.agg [q2m,qqv,qmd,qyq,q2n]
abbrev z2o:V:=.agg [zny,qmd,qqv,q5r,q2n]
abbrev z2p:V:=.agg [znz,qmd,qqv,q5r,q2n]
abbrev z2q:V:=.agg [qyr,qqv,qmd,qyq,q2n]
end Go.Proofs.YtbepbclaoohngaaGreat
namespace Go.Am
abbrev qco:=Nat×List V×R
def zdh:List qco->Nat->List V->Option R
 | [],_,_=>none
 | c :: l,g,bs=>match Nat.beq c.1 g with
  | true=>match qza c.2.1 bs with
   | true=>some c.2.2
   | false=>zdh l g bs
  | false=>zdh l g bs
def zug(m:List qco):Q->Option R
 | .call (.fn f [] []) az []=>zdh m f az
 | _=>none
def evM(P:Prg)(m:List qco):Nat->Q->Option R
 | 0,_=>none
 | n+1,q=>match zug m q with
  | some r=>some r
  | none=>qci P (evM P m n) q
def Okc(P:Prg)(c:qco):Prop:=ev P (.call (.fn c.1 [] []) c.2.1 [])=some c.2.2
theorem q2j{P:Prg}:∀{m:List qco} {f:Nat} {az:List V} {r:R},(∀c∈m,Okc P c)->zdh m f az=some r->ev P (.call (.fn f [] []) az [])=some r
 | [],_,_,_,_,h=>by simp[zdh]at h
 | c :: l,f,az,r,hm,h=>by
  simp only[zdh]at h
  split at h
  .rename_i e1
   split at h
   .rename_i e2
    have:=hm c List.mem_cons_self
    unfold Okc at this
    rw[Nat.eq_of_beq_eq_true e1,qka e2]at this
    rw[this];exact h
   .exact q2j (fun c hc=>hm c (List.mem_cons_of_mem _ hc)) h
  .exact q2j (fun c hc=>hm c (List.mem_cons_of_mem _ hc)) h
theorem zno{P:Prg}{m:List qco}{q:Q}{r:R}(hm:∀c∈m,Okc P c)(h:zug m q=some r):ev P q=some r:=by
 unfold zug at h
 split at h
 .exact q2j hm h
 .cases h
theorem zpt{P:Prg}{m:List qco}(hm:∀c∈m,Okc P c):∀(n:Nat) (q:Q) (r:R),evM P m n q=some r->ev P q=some r
 | 0,_,_,h=>by simp[evM]at h
 | n+1,q,r,h=>by
  simp only[evM]at h
  split at h
  .rename_i r' e
   rw[zno hm e];exact h
  .rw[qia]
   exact qyf (fun q r h=>zpt hm n q r h) q r h
theorem qbg{P:Prg}{c:qco}(m:List qco)(n:Nat)(hm:∀c∈m,Okc P c)(h:evM P m n (.call (.fn c.1 [] []) c.2.1 [])=some c.2.2):Okc P c:=zpt hm _ _ _ h
theorem qbh{P:Prg}:∀c∈([]:List qco),Okc P c:=fun _ h=>by cases h
theorem qaf{P:Prg}{c:qco}{m:List qco}(h:Okc P c)(hm:∀c∈m,Okc P c):∀d∈c :: m,Okc P d:=by
 intro d hd
 cases hd with
 | head=>exact h
 | tail _ hd=>exact hm d hd
end Go.Am
namespace Go.Proofs.YtbepbclaoohngaaGreat
open Go Go.Am Go.Proofs
set_option maxRecDepth 1000000
def qhr:qco:=(87,[qur],{ v:=mai 0,st:=⟨[],[]⟩ })
theorem qib:Okc pg qhr:=qbg [] 600 (qbh) (by kernel_rfl)
def zvm:qco:=(86,[qur,.agg [mai 0,mai 0]],{ v:=.tup [zkv,qqv],st:=⟨[],[]⟩ })
theorem z0y:Okc pg zvm:=qbg [qhr] 600 (qaf qib (qbh)) (by kernel_rfl)
def qwt:qco:=(87,[zkv],{ v:=mai 0,st:=⟨[],[]⟩ })
theorem qyp:Okc pg qwt:=qbg [] 600 (qbh) (by kernel_rfl)
def znq:qco:=(146,[qur,.agg [q2m,qqv,qqv,.imm [[.bool false],[.bool false]],q2n]],{ v:=ziu,st:=⟨[],[]⟩ })
theorem zvr:Okc pg znq:=qbg [] 600 (qbh) (by kernel_rfl)
def zvn:qco:=(219,[qur,ziu],{ v:=zri,st:=⟨[],[⟨0,.arr 1 [[mai 0]]⟩,⟨0,.arr 1 [[.bool false]]⟩,⟨0,.arr 1 [[.bool false]]⟩,⟨0,.arr 1 [[.bool false],[.bool true]]⟩,⟨0,.arr 1 [[mai 0],[mai 0]]⟩,⟨0,.arr 1 []⟩]⟩ })
theorem z1s:Okc pg zvn:=qbg [qhr] 600 (qaf qib (qbh)) (by kernel_rfl)
def znr:qco:=(89,[qur,ziu],{ v:=.tup [ziu,.imm [],mai 0],st:=⟨[],[]⟩ })
theorem zvs:Okc pg znr:=qbg [qhr,zvn] 600 (qaf qib (qaf z1s (qbh))) (by kernel_rfl)
def zvo:qco:=(146,[zkv,.agg [q2m,qqv,qqv,.imm [[.bool false],[.bool false],[.bool false]],znu]],{ v:=z2s,st:=⟨[],[]⟩ })
theorem z1x:Okc pg zvo:=qbg [] 600 (qbh) (by kernel_rfl)
def zvp:qco:=(219,[zkv,z2s],{ v:=zvw,st:=⟨[],[⟨0,.arr 1 [[mai 0]]⟩,⟨0,.arr 1 [[.bool false]]⟩,⟨0,.arr 1 [[.bool false]]⟩,⟨0,.arr 1 [[.bool false],[.bool true],[.bool false]]⟩,⟨0,.arr 1 [[mai 0],[mai 0],[mai 0]]⟩,⟨0,.arr 1 []⟩]⟩ })
theorem z1y:Okc pg zvp:=qbg [qwt] 600 (qaf qyp (qbh)) (by kernel_rfl)
def zvq:qco:=(89,[zkv,z2s],{ v:=.tup [z2s,.imm [],mai 0],st:=⟨[],[]⟩ })
theorem z1z:Okc pg zvq:=qbg [qwt,zvp] 600 (qaf qyp (qaf z1y (qbh))) (by kernel_rfl)
def zns:qco:=(150,[qur,ziu],{ v:=zdj,st:=⟨[],[]⟩ })
theorem zvt:Okc pg zns:=qbg [qhr,zvn] 600 (qaf qib (qaf z1s (qbh))) (by kernel_rfl)
def zig:qco:=(150,[zkv,z2s],{ v:=zdj,st:=⟨[],[]⟩ })
theorem zra:Okc pg zig:=qbg [qwt,zvp] 600 (qaf qyp (qaf z1y (qbh))) (by kernel_rfl)
end Go.Proofs.YtbepbclaoohngaaGreat
namespace Go.Proofs.YtbepbclaoohngaaGreat
open Go Go.Am Go.Proofs
set_option maxRecDepth 1000000
def zqd:qco:=(219,[qur,z2n],{ v:=zri,st:=⟨[],[⟨0,.arr 1 [[mai 0]]⟩,⟨0,.arr 1 [[.bool false]]⟩,⟨0,.arr 1 [[.bool true]]⟩,⟨0,.arr 1 [[.bool true],[.bool false]]⟩,⟨0,.arr 1 [[mai 0],[mai 0]]⟩,⟨0,.arr 1 []⟩]⟩ })
theorem z0z:Okc pg zqd:=qbg [qhr] 600 (qaf qib (qbh)) (by kernel_rfl)
def zal:qco:=(219,[qur,znv],{ v:=zri,st:=⟨[],[⟨0,.arr 1 [[mai 1]]⟩,⟨0,.arr 1 [[.bool true]]⟩,⟨0,.arr 1 [[.bool true]]⟩,⟨0,.arr 1 [[.bool true],[.bool false]]⟩,⟨0,.arr 1 [[mai 0],[mai 0]]⟩,⟨0,.arr 1 []⟩]⟩ })
theorem zio:Okc pg zal:=qbg [qhr] 600 (qaf qib (qbh)) (by kernel_rfl)
def zam:qco:=(89,[qur,z2n],{ v:=.tup [znv,.imm [],mai 0],st:=⟨[],[]⟩ })
theorem ziq:Okc pg zam:=qbg [qhr,zqd,zal] 600 (qaf qib (qaf z0z (qaf zio (qbh)))) (by kernel_rfl)
def zqe:qco:=(219,[zkv,z2m],{ v:=zvw,st:=⟨[],[⟨0,.arr 1 [[mai 0]]⟩,⟨0,.arr 1 [[.bool false]]⟩,⟨0,.arr 1 [[.bool true]]⟩,⟨0,.arr 1 [[.bool true],[.bool false],[.bool false]]⟩,⟨0,.arr 1 [[mai 0],[mai 0],[mai 0]]⟩,⟨0,.arr 1 []⟩]⟩ })
theorem z1a:Okc pg zqe:=qbg [qwt] 600 (qaf qyp (qbh)) (by kernel_rfl)
def zih:qco:=(219,[zkv,zvv],{ v:=zvw,st:=⟨[],[⟨0,.arr 1 [[mai 0]]⟩,⟨0,.arr 1 [[.bool false]]⟩,⟨0,.arr 1 [[.bool true]]⟩,⟨0,.arr 1 [[.bool true],[.bool false],[.bool false]]⟩,⟨0,.arr 1 [[mai 0],[mai 0],[mai 0]]⟩,⟨0,.arr 1 []⟩]⟩ })
theorem zrb:Okc pg zih:=qbg [qwt] 600 (qaf qyp (qbh)) (by kernel_rfl)
def zii:qco:=(89,[zkv,z2m],{ v:=.tup [zvv,.imm [],mai 0],st:=⟨[],[]⟩ })
theorem zrc:Okc pg zii:=qbg [qwt,zqe,zih] 600 (qaf qyp (qaf z1a (qaf zrb (qbh)))) (by kernel_rfl)
def zqf:qco:=(48,[.agg [mai 1,zdk,jam,qyr,zdl,mai 1,zdk,z2a,.imm [[mai 5]],zdl],mai 20],{ v:=.tup [.agg [.imm [],.imm [[mai 2,mai 0,.bool true]],.bool true],mai 0],st:=⟨[],[]⟩ })
theorem z1b:Okc pg zqf:=qbg [qhr,znq,znr,qwt,zvo,zvq,zns,zig,zam,zii] 600 (qaf qib (qaf zvr (qaf zvs (qaf qyp (qaf z1x (qaf z1z (qaf zvt (qaf zra (qaf ziq (qaf zrc (qbh))))))))))) (by kernel_rfl)
def zqg:qco:=(168,[.agg [mai 2,.imm [[z2c],[.imm [[mai (-1099511627776)],[mai 0],[mai (-1099511627776)]]],[zvu]]],mai 1,mai 0,mai 0],{ v:=.tup [z2i,mai 0],st:=⟨[],[]⟩ })
theorem z1c:Okc pg zqg:=qbg [] 600 (qbh) (by kernel_rfl)
def zqh:qco:=(168,[z2i,mai 0,mai 1,mai 0],{ v:=.tup [z2j,mai 0],st:=⟨[],[]⟩ })
theorem z1d:Okc pg zqh:=qbg [] 600 (qbh) (by kernel_rfl)
def zij:qco:=(150,[qur,znv],{ v:=zdj,st:=⟨[],[]⟩ })
theorem zrd:Okc pg zij:=qbg [qhr,zal] 600 (qaf qib (qaf zio (qbh))) (by kernel_rfl)
def zik:qco:=(219,[qur,znw],{ v:=zri,st:=⟨[],[⟨0,.arr 1 [[mai 2]]⟩,⟨0,.arr 1 [[.bool true]]⟩,⟨0,.arr 1 [[.bool true]]⟩,⟨0,.arr 1 [[.bool true],[.bool false]]⟩,⟨0,.arr 1 [[mai 0],[mai 0]]⟩,⟨0,.arr 1 []⟩]⟩ })
theorem zre:Okc pg zik:=qbg [qhr] 600 (qaf qib (qbh)) (by kernel_rfl)
end Go.Proofs.YtbepbclaoohngaaGreat
namespace Go.Proofs.YtbepbclaoohngaaGreat
open Go Go.Am Go.Proofs
set_option maxRecDepth 1000000
def zil:qco:=(89,[qur,znw],{ v:=.tup [znw,.imm [],mai 0],st:=⟨[],[]⟩ })
theorem zrf:Okc pg zil:=qbg [qhr,zik] 600 (qaf qib (qaf zre (qbh))) (by kernel_rfl)
def zqi:qco:=(168,[z2j,mai 2,mai 1,mai 0],{ v:=.tup [z2k,mai 0],st:=⟨[],[]⟩ })
theorem z1e:Okc pg zqi:=qbg [] 600 (qbh) (by kernel_rfl)
def zqj:qco:=(168,[z2k,mai 1,mai 2,mai 300],{ v:=.tup [z2d,mai 0],st:=⟨[],[]⟩ })
theorem z1f:Okc pg zqj:=qbg [] 600 (qbh) (by kernel_rfl)
def zqk:qco:=(168,[z2d,mai 2,mai 1,mai (-200)],{ v:=.tup [z2r,mai 0],st:=⟨[],[]⟩ })
theorem z1g:Okc pg zqk:=qbg [] 600 (qbh) (by kernel_rfl)
def zim:qco:=(150,[qur,znw],{ v:=zdj,st:=⟨[],[]⟩ })
theorem zrg:Okc pg zim:=qbg [qhr,zik] 600 (qaf qib (qaf zre (qbh))) (by kernel_rfl)
def zql:qco:=(51,[qur,z2g,z2f],{ v:=.tup [z2r,mai 0,mai 0],st:=⟨[],[]⟩ })
theorem z1h:Okc pg zql:=qbg [qhr,znq,znr,zns,zam,zqg,zqh,zij,zil,zqi,zqj,zqk,zim] 600 (qaf qib (qaf zvr (qaf zvs (qaf zvt (qaf ziq (qaf z1c (qaf z1d (qaf zrd (qaf zrf (qaf z1e (qaf z1f (qaf z1g (qaf zrg (qbh)))))))))))))) (by kernel_rfl)
def zin:qco:=(174,[z2r],{ v:=.nilx,st:=⟨[],[]⟩ })
theorem zrh:Okc pg zin:=qbg [] 600 (qbh) (by kernel_rfl)
def zqm:qco:=(52,[z2r,mai 1],{ v:=.tup [mai 0,mai 0,mai 0],st:=⟨[],[]⟩ })
theorem z1i:Okc pg zqm:=qbg [zin] 600 (qaf zrh (qbh)) (by kernel_rfl)
def zqn:qco:=(52,[z2r,mai 2],{ v:=.tup [mai 200,mai 300,mai 0],st:=⟨[],[]⟩ })
theorem z1j:Okc pg zqn:=qbg [zin] 600 (qaf zrh (qbh)) (by kernel_rfl)
def zqo:qco:=(150,[zkv,zvv],{ v:=zdj,st:=⟨[],[]⟩ })
theorem z1k:Okc pg zqo:=qbg [qwt,zih] 600 (qaf qyp (qaf zrb (qbh))) (by kernel_rfl)
def zqp:qco:=(23,[qur,z2g,.agg [mai 0,mai 0],z2f],{ v:=.tup [mai 1,mai 300,mai 0],st:=⟨[],[]⟩ })
theorem z1l:Okc pg zqp:=qbg [zql,zqm,zqn,qhr,zvm,qwt,zvo,zvq,zig,zii,zqo] 600 (qaf z1h (qaf z1i (qaf z1j (qaf qib (qaf z0y (qaf qyp (qaf z1x (qaf z1z (qaf zra (qaf zrc (qaf z1k (qbh)))))))))))) (by kernel_rfl)
end Go.Proofs.YtbepbclaoohngaaGreat
namespace Go.Proofs.YtbepbclaoohngaaGreat
open Go Go.Am Go.Proofs
set_option maxRecDepth 1000000
def zqq:qco:=(86,[qur,.agg [mai 2,mai 1]],{ v:=.tup [qur,.imm []],st:=⟨[],[]⟩ })
theorem z1m:Okc pg zqq:=qbg [qhr] 600 (qaf qib (qbh)) (by kernel_rfl)
def zqr:qco:=(219,[qur,z2o],{ v:=zri,st:=⟨[],[⟨0,.arr 1 [[mai 1]]⟩,⟨0,.arr 1 [[.bool true]]⟩,⟨0,.arr 1 [[.bool false]]⟩,⟨0,.arr 1 [[.bool false],[.bool true]]⟩,⟨0,.arr 1 [[mai 0],[mai 0]]⟩,⟨0,.arr 1 []⟩]⟩ })
theorem z1n:Okc pg zqr:=qbg [qhr] 600 (qaf qib (qbh)) (by kernel_rfl)
def zan:qco:=(219,[qur,znx],{ v:=zri,st:=⟨[],[⟨0,.arr 1 [[mai 3]]⟩,⟨0,.arr 1 [[.bool false]]⟩,⟨0,.arr 1 [[.bool false]]⟩,⟨0,.arr 1 [[.bool false],[.bool true]]⟩,⟨0,.arr 1 [[mai 0],[mai 0]]⟩,⟨0,.arr 1 []⟩]⟩ })
theorem zir:Okc pg zan:=qbg [qhr] 600 (qaf qib (qbh)) (by kernel_rfl)
def zqs:qco:=(89,[qur,z2o],{ v:=.tup [znx,.imm [],mai 0],st:=⟨[],[]⟩ })
theorem z1o:Okc pg zqs:=qbg [qhr,zqr,zan] 600 (qaf qib (qaf z1n (qaf zir (qbh)))) (by kernel_rfl)
def zqt:qco:=(150,[qur,znx],{ v:=zdj,st:=⟨[],[]⟩ })
theorem z1p:Okc pg zqt:=qbg [qhr,zan] 600 (qaf qib (qaf zir (qbh))) (by kernel_rfl)
def zqu:qco:=(219,[qur,z2p],{ v:=zri,st:=⟨[],[⟨0,.arr 1 [[mai 2]]⟩,⟨0,.arr 1 [[.bool true]]⟩,⟨0,.arr 1 [[.bool false]]⟩,⟨0,.arr 1 [[.bool false],[.bool true]]⟩,⟨0,.arr 1 [[mai 0],[mai 0]]⟩,⟨0,.arr 1 []⟩]⟩ })
theorem z1q:Okc pg zqu:=qbg [qhr] 600 (qaf qib (qbh)) (by kernel_rfl)
def zqv:qco:=(89,[qur,z2p],{ v:=.tup [znx,.imm [],mai 0],st:=⟨[],[]⟩ })
theorem z1r:Okc pg zqv:=qbg [qhr,zqu,zan] 600 (qaf qib (qaf z1q (qaf zir (qbh)))) (by kernel_rfl)
def zqw:qco:=(75,[jge,.agg [qyr,qqv,qqv,qyq,q2n,qyr,qqv,qqv,qyq,q2n]],{ v:=mai 3,st:=⟨[],[]⟩ })
theorem z1t:Okc pg zqw:=qbg [] 600 (qbh) (by kernel_rfl)
def zqx:qco:=(219,[qur,z2q],{ v:=zri,st:=⟨[],[⟨0,.arr 1 [[mai 3]]⟩,⟨0,.arr 1 [[.bool false]]⟩,⟨0,.arr 1 [[.bool true]]⟩,⟨0,.arr 1 [[.bool true],[.bool false]]⟩,⟨0,.arr 1 [[mai 0],[mai 0]]⟩,⟨0,.arr 1 []⟩]⟩ })
theorem z1u:Okc pg zqx:=qbg [qhr] 600 (qaf qib (qbh)) (by kernel_rfl)
def zqy:qco:=(89,[qur,z2q],{ v:=.tup [znv,.imm [],mai 0],st:=⟨[],[]⟩ })
theorem z1v:Okc pg zqy:=qbg [qhr,zqx,zal] 600 (qaf qib (qaf z1u (qaf zio (qbh)))) (by kernel_rfl)
def zqz:qco:=(48,[.agg [mai 1,zdk,jam,qyr,zdl,mai 1,zdk,jam,qyr,zdl],mai 20],{ v:=.tup [.agg [jge,.imm [],.bool false],mai 0],st:=⟨[],[]⟩ })
theorem z1w:Okc pg zqz:=qbg [qhr,znq,znr,zns,zam,zij,zil,zim,zqs,zqt,zqv,zqw,zqy] 600 (qaf qib (qaf zvr (qaf zvs (qaf zvt (qaf ziq (qaf zrd (qaf zrf (qaf zrg (qaf z1o (qaf z1p (qaf z1r (qaf z1t (qaf z1v (qbh)))))))))))))) (by kernel_rfl)
end Go.Proofs.YtbepbclaoohngaaGreat
namespace Go.Proofs.YtbepbclaoohngaaGreat
open Go Go.Am Go.Proofs
set_option maxRecDepth 1000000
theorem ev12:ev pg (.call (.fn 12 [] []) [] [])=some { v:=.bool true,st:=⟨[],[]⟩ }:=qbg (c:=(12,[],{ v:=.bool true,st:=⟨[],[]⟩ })) [qhr,zvm,qwt,zqf,zqp,zqq,zqz] 600 (qaf qib (qaf z0y (qaf qyp (qaf z1b (qaf z1l (qaf z1m (qaf z1w qbh))))))) (by kernel_rfl)
end Go.Proofs.YtbepbclaoohngaaGreat
