/- The law DetectVerifies, in Am: it returns true. -/
import Derived.Test.YtbepbclaoohngaaGreatVEn6
import Derived.Test.YtbepbclaoohngaaGreatVMa0
import Derived.KernelRfl
set_option linter.all false
namespace Go.Am
abbrev qcl:=Nat×List V×R
def zcr:List qcl->Nat->List V->Option R
 | [],_,_=>none
 | c :: l,g,bs=>match Nat.beq c.1 g with
  | true=>match q2r c.2.1 bs with
   | true=>some c.2.2
   | false=>zcr l g bs
  | false=>zcr l g bs
def ztf(m:List qcl):Q->Option R
 | .call (.fn f [] []) az []=>zcr m f az
 | _=>none
def evM(P:Prg)(m:List qcl):Nat->Q->Option R
 | 0,_=>none
 | n+1,q=>match ztf m q with
  | some r=>some r
  | none=>qch P (evM P m n) q
def Okc(P:Prg)(c:qcl):Prop:=ev P (.call (.fn c.1 [] []) c.2.1 [])=some c.2.2
theorem q1l{P:Prg}:∀{m:List qcl} {f:Nat} {az:List V} {r:R},(∀c∈m,Okc P c)->zcr m f az=some r->ev P (.call (.fn f [] []) az [])=some r
 | [],_,_,_,_,h=>by simp[zcr]at h
 | c :: l,f,az,r,hm,h=>by
  simp only[zcr]at h
  split at h
  .rename_i e1
   split at h
   .rename_i e2
    have:=hm c List.mem_cons_self
    unfold Okc at this
    rw[Nat.eq_of_beq_eq_true e1,qjv e2]at this
    rw[this];exact h
   .exact q1l (fun c hc=>hm c (List.mem_cons_of_mem _ hc)) h
  .exact q1l (fun c hc=>hm c (List.mem_cons_of_mem _ hc)) h
theorem zmo{P:Prg}{m:List qcl}{q:Q}{r:R}(hm:∀c∈m,Okc P c)(h:ztf m q=some r):ev P q=some r:=by
 unfold ztf at h
 split at h
 .exact q1l hm h
 .cases h
theorem zov{P:Prg}{m:List qcl}(hm:∀c∈m,Okc P c):∀(n:Nat) (q:Q) (r:R),evM P m n q=some r->ev P q=some r
 | 0,_,_,h=>by simp[evM]at h
 | n+1,q,r,h=>by
  simp only[evM]at h
  split at h
  .rename_i r' e
   rw[zmo hm e];exact h
  .rw[qhx]
   exact qxp (fun q r h=>zov hm n q r h) q r h
theorem qbg{P:Prg}{c:qcl}(m:List qcl)(n:Nat)(hm:∀c∈m,Okc P c)(h:evM P m n (.call (.fn c.1 [] []) c.2.1 [])=some c.2.2):Okc P c:=zov hm _ _ _ h
theorem qbh{P:Prg}:∀c∈([]:List qcl),Okc P c:=fun _ h=>by cases h
theorem qaf{P:Prg}{c:qcl}{m:List qcl}(h:Okc P c)(hm:∀c∈m,Okc P c):∀d∈c :: m,Okc P d:=by
 intro d hd
 cases hd with
 | head=>exact h
 | tail _ hd=>exact hm d hd
end Go.Am
namespace Go.Proofs.YtbepbclaoohngaaGreat
open Go Go.Am Go.Proofs
set_option maxRecDepth 1000000
def qhp:qcl:=(87,[qub],{ v:=mai 0,st:=⟨[],[]⟩ })
theorem qhy:Okc pg qhp:=qbg [] 600 (qbh) (by kernel_rfl)
def zuk:qcl:=(86,[qub,.agg [mai 0,mai 0]],{ v:=.tup [zka,qql],st:=⟨[],[]⟩ })
theorem z0a:Okc pg zuk:=qbg [qhp] 600 (qaf qhy (qbh)) (by kernel_rfl)
def qwg:qcl:=(87,[zka],{ v:=mai 0,st:=⟨[],[]⟩ })
theorem qxx:Okc pg qwg:=qbg [] 600 (qbh) (by kernel_rfl)
def zmq:qcl:=(146,[qub,.agg [q1o,qql,qql,.imm [[.bool false],[.bool false]],q1p]],{ v:=zhz,st:=⟨[],[]⟩ })
theorem zup:Okc pg zmq:=qbg [] 600 (qbh) (by kernel_rfl)
def zul:qcl:=(219,[qub,zhz],{ v:=zqk,st:=⟨[],[⟨0,.arr 1 [[mai 0]]⟩,⟨0,.arr 1 [[.bool false]]⟩,⟨0,.arr 1 [[.bool false]]⟩,⟨0,.arr 1 [[.bool false],[.bool true]]⟩,⟨0,.arr 1 [[mai 0],[mai 0]]⟩,⟨0,.arr 1 []⟩]⟩ })
theorem z0u:Okc pg zul:=qbg [qhp] 600 (qaf qhy (qbh)) (by kernel_rfl)
def zmr:qcl:=(89,[qub,zhz],{ v:=.tup [zhz,.imm [],mai 0],st:=⟨[],[]⟩ })
theorem zuq:Okc pg zmr:=qbg [qhp,zul] 600 (qaf qhy (qaf z0u (qbh))) (by kernel_rfl)
def zum:qcl:=(146,[zka,.agg [q1o,qql,qql,.imm [[.bool false],[.bool false],[.bool false]],zmu]],{ v:=z1u,st:=⟨[],[]⟩ })
theorem z0z:Okc pg zum:=qbg [] 600 (qbh) (by kernel_rfl)
def zun:qcl:=(219,[zka,z1u],{ v:=zuu,st:=⟨[],[⟨0,.arr 1 [[mai 0]]⟩,⟨0,.arr 1 [[.bool false]]⟩,⟨0,.arr 1 [[.bool false]]⟩,⟨0,.arr 1 [[.bool false],[.bool true],[.bool false]]⟩,⟨0,.arr 1 [[mai 0],[mai 0],[mai 0]]⟩,⟨0,.arr 1 []⟩]⟩ })
theorem z1a:Okc pg zun:=qbg [qwg] 600 (qaf qxx (qbh)) (by kernel_rfl)
def zuo:qcl:=(89,[zka,z1u],{ v:=.tup [z1u,.imm [],mai 0],st:=⟨[],[]⟩ })
theorem z1b:Okc pg zuo:=qbg [qwg,zun] 600 (qaf qxx (qaf z1a (qbh))) (by kernel_rfl)
def zms:qcl:=(150,[qub,zhz],{ v:=zct,st:=⟨[],[]⟩ })
theorem zur:Okc pg zms:=qbg [qhp,zul] 600 (qaf qhy (qaf z0u (qbh))) (by kernel_rfl)
def zhm:qcl:=(150,[zka,z1u],{ v:=zct,st:=⟨[],[]⟩ })
theorem zqc:Okc pg zhm:=qbg [qwg,zun] 600 (qaf qxx (qaf z1a (qbh))) (by kernel_rfl)
end Go.Proofs.YtbepbclaoohngaaGreat
namespace Go.Proofs.YtbepbclaoohngaaGreat
open Go Go.Am Go.Proofs
set_option maxRecDepth 1000000
def zpf:qcl:=(219,[qub,z1p],{ v:=zqk,st:=⟨[],[⟨0,.arr 1 [[mai 0]]⟩,⟨0,.arr 1 [[.bool false]]⟩,⟨0,.arr 1 [[.bool true]]⟩,⟨0,.arr 1 [[.bool true],[.bool false]]⟩,⟨0,.arr 1 [[mai 0],[mai 0]]⟩,⟨0,.arr 1 []⟩]⟩ })
theorem z0b:Okc pg zpf:=qbg [qhp] 600 (qaf qhy (qbh)) (by kernel_rfl)
def q9t:qcl:=(219,[qub,zmv],{ v:=zqk,st:=⟨[],[⟨0,.arr 1 [[mai 1]]⟩,⟨0,.arr 1 [[.bool true]]⟩,⟨0,.arr 1 [[.bool true]]⟩,⟨0,.arr 1 [[.bool true],[.bool false]]⟩,⟨0,.arr 1 [[mai 0],[mai 0]]⟩,⟨0,.arr 1 []⟩]⟩ })
theorem zhu:Okc pg q9t:=qbg [qhp] 600 (qaf qhy (qbh)) (by kernel_rfl)
def q9u:qcl:=(89,[qub,z1p],{ v:=.tup [zmv,.imm [],mai 0],st:=⟨[],[]⟩ })
theorem zhv:Okc pg q9u:=qbg [qhp,zpf,q9t] 600 (qaf qhy (qaf z0b (qaf zhu (qbh)))) (by kernel_rfl)
def zpg:qcl:=(219,[zka,z1o],{ v:=zuu,st:=⟨[],[⟨0,.arr 1 [[mai 0]]⟩,⟨0,.arr 1 [[.bool false]]⟩,⟨0,.arr 1 [[.bool true]]⟩,⟨0,.arr 1 [[.bool true],[.bool false],[.bool false]]⟩,⟨0,.arr 1 [[mai 0],[mai 0],[mai 0]]⟩,⟨0,.arr 1 []⟩]⟩ })
theorem z0c:Okc pg zpg:=qbg [qwg] 600 (qaf qxx (qbh)) (by kernel_rfl)
def zhn:qcl:=(219,[zka,zut],{ v:=zuu,st:=⟨[],[⟨0,.arr 1 [[mai 0]]⟩,⟨0,.arr 1 [[.bool false]]⟩,⟨0,.arr 1 [[.bool true]]⟩,⟨0,.arr 1 [[.bool true],[.bool false],[.bool false]]⟩,⟨0,.arr 1 [[mai 0],[mai 0],[mai 0]]⟩,⟨0,.arr 1 []⟩]⟩ })
theorem zqd:Okc pg zhn:=qbg [qwg] 600 (qaf qxx (qbh)) (by kernel_rfl)
def zho:qcl:=(89,[zka,z1o],{ v:=.tup [zut,.imm [],mai 0],st:=⟨[],[]⟩ })
theorem zqe:Okc pg zho:=qbg [qwg,zpg,zhn] 600 (qaf qxx (qaf z0c (qaf zqd (qbh)))) (by kernel_rfl)
def zph:qcl:=(48,[.agg [mai 1,zcu,z9q,qxz,zcv,mai 1,zcu,z1c,.imm [[mai 5]],zcv],mai 20],{ v:=.tup [.agg [.imm [],.imm [[mai 2,mai 0,.bool true]],.bool true],mai 0],st:=⟨[],[]⟩ })
theorem z0d:Okc pg zph:=qbg [qhp,zmq,zmr,qwg,zum,zuo,zms,zhm,q9u,zho] 600 (qaf qhy (qaf zup (qaf zuq (qaf qxx (qaf z0z (qaf z1b (qaf zur (qaf zqc (qaf zhv (qaf zqe (qbh))))))))))) (by kernel_rfl)
def zpi:qcl:=(168,[.agg [mai 2,.imm [[z1e],[.imm [[mai (-1099511627776)],[mai 0],[mai (-1099511627776)]]],[zus]]],mai 1,mai 0,mai 0],{ v:=.tup [z1k,mai 0],st:=⟨[],[]⟩ })
theorem z0e:Okc pg zpi:=qbg [] 600 (qbh) (by kernel_rfl)
def zpj:qcl:=(168,[z1k,mai 0,mai 1,mai 0],{ v:=.tup [z1l,mai 0],st:=⟨[],[]⟩ })
theorem z0f:Okc pg zpj:=qbg [] 600 (qbh) (by kernel_rfl)
def zhp:qcl:=(150,[qub,zmv],{ v:=zct,st:=⟨[],[]⟩ })
theorem zqf:Okc pg zhp:=qbg [qhp,q9t] 600 (qaf qhy (qaf zhu (qbh))) (by kernel_rfl)
def zhq:qcl:=(219,[qub,zmw],{ v:=zqk,st:=⟨[],[⟨0,.arr 1 [[mai 2]]⟩,⟨0,.arr 1 [[.bool true]]⟩,⟨0,.arr 1 [[.bool true]]⟩,⟨0,.arr 1 [[.bool true],[.bool false]]⟩,⟨0,.arr 1 [[mai 0],[mai 0]]⟩,⟨0,.arr 1 []⟩]⟩ })
theorem zqg:Okc pg zhq:=qbg [qhp] 600 (qaf qhy (qbh)) (by kernel_rfl)
end Go.Proofs.YtbepbclaoohngaaGreat
namespace Go.Proofs.YtbepbclaoohngaaGreat
open Go Go.Am Go.Proofs
set_option maxRecDepth 1000000
def zhr:qcl:=(89,[qub,zmw],{ v:=.tup [zmw,.imm [],mai 0],st:=⟨[],[]⟩ })
theorem zqh:Okc pg zhr:=qbg [qhp,zhq] 600 (qaf qhy (qaf zqg (qbh))) (by kernel_rfl)
def zpk:qcl:=(168,[z1l,mai 2,mai 1,mai 0],{ v:=.tup [z1m,mai 0],st:=⟨[],[]⟩ })
theorem z0g:Okc pg zpk:=qbg [] 600 (qbh) (by kernel_rfl)
def zpl:qcl:=(168,[z1m,mai 1,mai 2,mai 300],{ v:=.tup [z1f,mai 0],st:=⟨[],[]⟩ })
theorem z0h:Okc pg zpl:=qbg [] 600 (qbh) (by kernel_rfl)
def zpm:qcl:=(168,[z1f,mai 2,mai 1,mai (-200)],{ v:=.tup [z1t,mai 0],st:=⟨[],[]⟩ })
theorem z0i:Okc pg zpm:=qbg [] 600 (qbh) (by kernel_rfl)
def zhs:qcl:=(150,[qub,zmw],{ v:=zct,st:=⟨[],[]⟩ })
theorem zqi:Okc pg zhs:=qbg [qhp,zhq] 600 (qaf qhy (qaf zqg (qbh))) (by kernel_rfl)
def zpn:qcl:=(51,[qub,z1i,z1h],{ v:=.tup [z1t,mai 0,mai 0],st:=⟨[],[]⟩ })
theorem z0j:Okc pg zpn:=qbg [qhp,zmq,zmr,zms,q9u,zpi,zpj,zhp,zhr,zpk,zpl,zpm,zhs] 600 (qaf qhy (qaf zup (qaf zuq (qaf zur (qaf zhv (qaf z0e (qaf z0f (qaf zqf (qaf zqh (qaf z0g (qaf z0h (qaf z0i (qaf zqi (qbh)))))))))))))) (by kernel_rfl)
def zht:qcl:=(174,[z1t],{ v:=.nilx,st:=⟨[],[]⟩ })
theorem zqj:Okc pg zht:=qbg [] 600 (qbh) (by kernel_rfl)
def zpo:qcl:=(52,[z1t,mai 1],{ v:=.tup [mai 0,mai 0,mai 0],st:=⟨[],[]⟩ })
theorem z0k:Okc pg zpo:=qbg [zht] 600 (qaf zqj (qbh)) (by kernel_rfl)
def zpp:qcl:=(52,[z1t,mai 2],{ v:=.tup [mai 200,mai 300,mai 0],st:=⟨[],[]⟩ })
theorem z0l:Okc pg zpp:=qbg [zht] 600 (qaf zqj (qbh)) (by kernel_rfl)
def zpq:qcl:=(150,[zka,zut],{ v:=zct,st:=⟨[],[]⟩ })
theorem z0m:Okc pg zpq:=qbg [qwg,zhn] 600 (qaf qxx (qaf zqd (qbh))) (by kernel_rfl)
def zpr:qcl:=(23,[qub,z1i,.agg [mai 0,mai 0],z1h],{ v:=.tup [mai 1,mai 300,mai 0],st:=⟨[],[]⟩ })
theorem z0n:Okc pg zpr:=qbg [zpn,zpo,zpp,qhp,zuk,qwg,zum,zuo,zhm,zho,zpq] 600 (qaf z0j (qaf z0k (qaf z0l (qaf qhy (qaf z0a (qaf qxx (qaf z0z (qaf z1b (qaf zqc (qaf zqe (qaf z0m (qbh)))))))))))) (by kernel_rfl)
end Go.Proofs.YtbepbclaoohngaaGreat
namespace Go.Proofs.YtbepbclaoohngaaGreat
open Go Go.Am Go.Proofs
set_option maxRecDepth 1000000
def zps:qcl:=(86,[qub,.agg [mai 2,mai 1]],{ v:=.tup [qub,.imm []],st:=⟨[],[]⟩ })
theorem z0o:Okc pg zps:=qbg [qhp] 600 (qaf qhy (qbh)) (by kernel_rfl)
def zpt:qcl:=(219,[qub,z1q],{ v:=zqk,st:=⟨[],[⟨0,.arr 1 [[mai 1]]⟩,⟨0,.arr 1 [[.bool true]]⟩,⟨0,.arr 1 [[.bool false]]⟩,⟨0,.arr 1 [[.bool false],[.bool true]]⟩,⟨0,.arr 1 [[mai 0],[mai 0]]⟩,⟨0,.arr 1 []⟩]⟩ })
theorem z0p:Okc pg zpt:=qbg [qhp] 600 (qaf qhy (qbh)) (by kernel_rfl)
def q9v:qcl:=(219,[qub,zmx],{ v:=zqk,st:=⟨[],[⟨0,.arr 1 [[mai 3]]⟩,⟨0,.arr 1 [[.bool false]]⟩,⟨0,.arr 1 [[.bool false]]⟩,⟨0,.arr 1 [[.bool false],[.bool true]]⟩,⟨0,.arr 1 [[mai 0],[mai 0]]⟩,⟨0,.arr 1 []⟩]⟩ })
theorem zhw:Okc pg q9v:=qbg [qhp] 600 (qaf qhy (qbh)) (by kernel_rfl)
def zpu:qcl:=(89,[qub,z1q],{ v:=.tup [zmx,.imm [],mai 0],st:=⟨[],[]⟩ })
theorem z0q:Okc pg zpu:=qbg [qhp,zpt,q9v] 600 (qaf qhy (qaf z0p (qaf zhw (qbh)))) (by kernel_rfl)
def zpv:qcl:=(150,[qub,zmx],{ v:=zct,st:=⟨[],[]⟩ })
theorem z0r:Okc pg zpv:=qbg [qhp,q9v] 600 (qaf qhy (qaf zhw (qbh))) (by kernel_rfl)
def zpw:qcl:=(219,[qub,z1r],{ v:=zqk,st:=⟨[],[⟨0,.arr 1 [[mai 2]]⟩,⟨0,.arr 1 [[.bool true]]⟩,⟨0,.arr 1 [[.bool false]]⟩,⟨0,.arr 1 [[.bool false],[.bool true]]⟩,⟨0,.arr 1 [[mai 0],[mai 0]]⟩,⟨0,.arr 1 []⟩]⟩ })
theorem z0s:Okc pg zpw:=qbg [qhp] 600 (qaf qhy (qbh)) (by kernel_rfl)
def zpx:qcl:=(89,[qub,z1r],{ v:=.tup [zmx,.imm [],mai 0],st:=⟨[],[]⟩ })
theorem z0t:Okc pg zpx:=qbg [qhp,zpw,q9v] 600 (qaf qhy (qaf z0s (qaf zhw (qbh)))) (by kernel_rfl)
def zpy:qcl:=(75,[jez,.agg [qxz,qql,qql,qxy,q1p,qxz,qql,qql,qxy,q1p]],{ v:=mai 3,st:=⟨[],[]⟩ })
theorem z0v:Okc pg zpy:=qbg [] 600 (qbh) (by kernel_rfl)
def zpz:qcl:=(219,[qub,z1s],{ v:=zqk,st:=⟨[],[⟨0,.arr 1 [[mai 3]]⟩,⟨0,.arr 1 [[.bool false]]⟩,⟨0,.arr 1 [[.bool true]]⟩,⟨0,.arr 1 [[.bool true],[.bool false]]⟩,⟨0,.arr 1 [[mai 0],[mai 0]]⟩,⟨0,.arr 1 []⟩]⟩ })
theorem z0w:Okc pg zpz:=qbg [qhp] 600 (qaf qhy (qbh)) (by kernel_rfl)
def zqa:qcl:=(89,[qub,z1s],{ v:=.tup [zmv,.imm [],mai 0],st:=⟨[],[]⟩ })
theorem z0x:Okc pg zqa:=qbg [qhp,zpz,q9t] 600 (qaf qhy (qaf z0w (qaf zhu (qbh)))) (by kernel_rfl)
def zqb:qcl:=(48,[.agg [mai 1,zcu,z9q,qxz,zcv,mai 1,zcu,z9q,qxz,zcv],mai 20],{ v:=.tup [.agg [jez,.imm [],.bool false],mai 0],st:=⟨[],[]⟩ })
theorem z0y:Okc pg zqb:=qbg [qhp,zmq,zmr,zms,q9u,zhp,zhr,zhs,zpu,zpv,zpx,zpy,zqa] 600 (qaf qhy (qaf zup (qaf zuq (qaf zur (qaf zhv (qaf zqf (qaf zqh (qaf zqi (qaf z0q (qaf z0r (qaf z0t (qaf z0v (qaf z0x (qbh)))))))))))))) (by kernel_rfl)
end Go.Proofs.YtbepbclaoohngaaGreat
namespace Go.Proofs.YtbepbclaoohngaaGreat
open Go Go.Am Go.Proofs
set_option maxRecDepth 1000000
theorem ev12:ev pg (.call (.fn 12 [] []) [] [])=some { v:=.bool true,st:=⟨[],[]⟩ }:=qbg (c:=(12,[],{ v:=.bool true,st:=⟨[],[]⟩ })) [qhp,zuk,qwg,zph,zpr,zps,zqb] 600 (qaf qhy (qaf z0a (qaf qxx (qaf z0d (qaf z0n (qaf z0o (qaf z0y qbh))))))) (by kernel_rfl)
set_option maxHeartbeats 8000000
theorem ev32_aux(c d:Ct)(hW:Wld (c,d))(k i:Int)(l:List (Ste×Ste))(hl:l.length<=100000)(hS:∀q∈l,PS q)(h0:qoi c k i=0)(hd:ofW c k i=(c,d)):ev pg (.call (.fn 32 [] []) [c.v,fv k i,prs l] [])=some { v:=num (zwz (c,d) l),st:=⟨[],[]⟩ }:=by
 have hc:c.small=true:=hW.g
 have e1:=ev47 c hc k i
 rw[h0,hd]at e1
 have e2:=ev74 (c,d) hW.toWS l hl hS
 have e3:=ev64 (c,d) hW.toWS
 have hps:=q5t hW.toWS
 have e4:=fun q hq=>ev75 l hl q hq
 have hpl:=qzk l
 have q1:=fun p0 b st=>jdm c k i l hl hS (c,d) hW.toWS p0 b (st:=st)
 have hv:zwz (c,d) l=if zwu (c,d) l=0 then(if(qid (c,d)).2.2=0 then q2k (zba (c,d) l ((qid (c,d)).2.1&&q2t l (qid (c,d)).1))else(qid (c,d)).2.2)else zwu (c,d) l:=by
  unfold zwz zwu
  by_cases hn:l=[]
  .simp[hn]
  .by_cases hg:16384<l.length
   .simp[hn,hg]
   .simp[hn,hg]
 rw[hv]
 rw[qaa,pg32]
 generalize zwu (c,d) l=li at *
 by_cases hli:li=0
 .subst hli
  rw[if_pos rfl]
  unfold znm at e3
  generalize qid (c,d)=y at *
  obtain⟨p,b,e⟩:=y
  simp only at *
  have e5:=e4 p hps
  have hpp:=hpl p
  clear e4 hpl
  generalize qtl l p=pl at *
  by_cases he:e=0
  .subst he
   rw[if_pos rfl]
   cases b with
   | true =>
    rw[Bool.true_and]
    cases hh:q2t l p with
    | true =>
     rw[hh]at hpp
     have hp':0<=pl:=by simpa using hpp
     have q2:=q1 p true
     simp[ir32,qah,e1,e2,e3,e5,hp']
     generalize hr:ev pg (.code (.going _ L32_2) _)=o
     obtain⟨r,rfl,h1,h2⟩:∃r,o=some r/\_:=by rw[<-hr];exact q2 _ (by simp[q3d]) (by simp)
     clear hr q1 q2
     generalize zba (c,d) l true=z at *
     obtain⟨b',z⟩:=z
     cases z with
     | none =>
      obtain⟨f',hf',rfl⟩:=h1 rfl
      cases b'<;>simp[q3d,q2k,q6d]
     | some e =>
      obtain⟨hx,h6,h7⟩:=h2 e rfl
      obtain⟨rx,rv,S,H⟩:=r
      simp only at hx h6 h7
      subst hx
      simp[h6,h7,q2k]
    | false =>
     rw[hh]at hpp
     have hp':¬0<=pl:=by simpa using hpp
     have q2:=q1 p false
     simp[ir32,qah,e1,e2,e3,e5,hp']
     generalize hr:ev pg (.code (.going _ L32_2) _)=o
     obtain⟨r,rfl,h1,h2⟩:∃r,o=some r/\_:=by rw[<-hr];exact q2 _ (by simp[q3d]) (by simp)
     clear hr q1 q2
     generalize zba (c,d) l false=z at *
     obtain⟨b',z⟩:=z
     cases z with
     | none =>
      obtain⟨f',hf',rfl⟩:=h1 rfl
      cases b'<;>simp[q3d,q2k,q6d]
     | some e =>
      obtain⟨hx,h6,h7⟩:=h2 e rfl
      obtain⟨rx,rv,S,H⟩:=r
      simp only at hx h6 h7
      subst hx
      simp[h6,h7,q2k]
   | false =>
    rw[Bool.false_and]
    have q2:=q1 p false
    simp[ir32,qah,e1,e2,e3]
    generalize hr:ev pg (.code (.going _ L32_2) _)=o
    obtain⟨r,rfl,h1,h2⟩:∃r,o=some r/\_:=by rw[<-hr];exact q2 _ (by simp[q3d]) (by simp)
    clear hr q1 q2
    generalize zba (c,d) l false=z at *
    obtain⟨b',z⟩:=z
    cases z with
    | none =>
     obtain⟨f',hf',rfl⟩:=h1 rfl
     cases b'<;>simp[q3d,q2k,q6d]
    | some e =>
     obtain⟨hx,h6,h7⟩:=h2 e rfl
     obtain⟨rx,rv,S,H⟩:=r
     simp only at hx h6 h7
     subst hx
     simp[h6,h7,q2k]
  .have heb:(e==0)=false:=by simpa using he
   rw[if_neg he]
   simp[ir32,e1,e2,e3,he,heb]
 .have hb:(li==0)=false:=by simpa using hli
  rw[if_neg hli]
  simp[ir32,e1,e2,hli,hb]
theorem ev32(c:Ct)(hc:c.small=true)(k i:Int)(l:List (Ste×Ste))(hl:l.length<=100000)(hS:∀q∈l,PS q):ev pg (.call (.fn 32 [] []) [c.v,fv k i,prs l] [])=some { v:=num (qxs c k i l),st:=⟨[],[]⟩ }:=by
 unfold qxs
 by_cases h:qoi c k i=0
 .rw[if_pos h]
  exact ev32_aux c _ (q7j hc h).1 k i l hl hS h (q7j hc h).2
 .have e1:=ev47 c hc k i
  have hb:(qoi c k i==0)=false:=by simpa using h
  rw[if_neg h]
  rw[qaa,pg32]
  generalize ofW c k i=w at *
  generalize qoi c k i=e at *
  simp[ir32,e1,h,hb]
def zyp(l:List (Ste×Ste)):Bool:=(l.all fun p=>p.1.few&&p.2.few)&&decide (l.length<=30)
def zju(l:List (Ste×Ste))(j:Nat):Tm:=[some (prs l),none,none,nN j]++zN 25
def z3m:Tm:=[none,none,some (.bool false)]++zN 26
theorem jdl(l:List (Ste×Ste))(hl:l.length<=140737488355328){st:St}(h0:At (zju l 0) [] st) :
  ∃r,ev pg (.code (.going 0 L31_0) st)=some r/\qkt l.length (fun j=>!((l[j]?).map fun p=>p.1.few&&p.2.few).getD true) (fun _=>qaq .ret z3m []) (qaq (.exit 0) (zju l l.length) []) r:=by
 refine qby _ _ (zju l) _ _ _ ?_ ?_ ?_ h0
 .intro j f hf hj hb
  have hj':(j:Int)<l.length:=by omega
  have wj:=qbb (k:=j) (by omega)
  have e1:=ev73 l[j].1
  have e2:=ev73 l[j].2
  have hb':l[j].1.few=true/\l[j].2.few=true:=by simpa[hj]using hb
  rw[hb'.1]at e1
  rw[hb'.2]at e2
  simp[zju,L31_0,hj,hj',e1,e2,wj,hf.ne]
 .intro j f hf hj hb
  have hj':(j:Int)<l.length:=by omega
  have e1:=ev73 l[j].1
  have e2:=ev73 l[j].2
  have hb':(l[j].1.few&&l[j].2.few)=false:=by simp[hj]at hb;rcases hb with h | h<;>simp[h]
  cases h1:l[j].1.few with
  | false =>
   rw[h1]at e1
   simp[zju,z3m,L31_0,hj,hj',e1,hf.ne]
  | true =>
   rw[h1]at e1 hb'
   have h2:l[j].2.few=false:=by simpa using hb'
   rw[h2]at e2
   simp[zju,z3m,L31_0,hj,hj',e1,e2,hf.ne]
 .intro f hf
  simp[zju,L31_0,hf.ne]
theorem ev31(l:List (Ste×Ste))(hl:l.length<=140737488355328):ev pg (.call (.fn 31 [] []) [prs l] [])=some { v:=.bool (zyp l),st:=⟨[],[]⟩ }:=by
 have q:=fun st=>jdl l hl (st:=st)
 rw[qaa,pg31]
 simp[ir31,qah]
 generalize hr:ev pg (.code (.going _ L31_0) _)=o
 obtain⟨r,rfl,hQ⟩:∃r,o=some r/\_:=by rw[<-hr];exact q _ (by simp[zju])
 clear hr q
 unfold zyp
 rcases hQ with⟨j,hj,hb,-,f,hf,rfl⟩ | ⟨hb,f,hf,rfl⟩
 .have:(l.all fun p=>p.1.few&&p.2.few)=false:=by
   rw[Bool.eq_false_iff]
   intro h
   rw[jP]at h
   have:=h l[j] (jH hj)
   simp[hj,this]at hb
  simp[z3m,this]
 .have:(l.all fun p=>p.1.few&&p.2.few)=true:=by
   rw[jP]
   intro p hp
   obtain⟨j,hj,rfl⟩:=List.mem_iff_getElem.1 hp
   have:=hb j hj
   simpa[hj]using this
  rw[this]
  by_cases h:l.length<=30
  .have h':(l.length:Int)<=30:=by omega
   simp[zju,h,h']
  .have h':¬(l.length:Int)<=30:=by omega
   simp[zju,h,h']
theorem zbx{l:List (Ste×Ste)}(h:zyp l=true):l.length<=30/\∀q∈l,PS q:=by
 unfold zyp at h
 simp only[jE,jP,jW]at h
 exact⟨h.2,fun q hq=>⟨qyl (h.1 q hq).1,qyl (h.1 q hq).2⟩⟩
theorem ev7(c:Ct)(k i:Int)(l:List (Ste×Ste))(hl:l.length<=140737488355328):ev pg (.call (.fn 7 [] []) [c.v,fv k i,prs l] [])=some { v:=.bool true,st:=⟨[],[]⟩ }:=by
 have e1:=ev26 c
 have e2:=ev31 l hl
 have e12:=ev12
 rw[qaa,pg7]
 cases hf:c.few with
 | false =>
  rw[hf]at e1
  simp[ir7,e1,e12]
 | true =>
  rw[hf]at e1
  cases hp:zyp l with
  | false =>
   rw[hp]at e2
   simp[ir7,e1,e2,e12]
  | true =>
   rw[hp]at e2
   obtain⟨h30,hS⟩:=zbx hp
   have hs:=zge hf
   have e3:=ev33 l (by omega)
   have e4:=ev32 c hs k i l (by omega) hS
   have e5:=ev34 c hs k i l (by omega) hS
   generalize qxs c k i l=x at *
   simp[ir7,qab,exT,qal,e1,e2,e3,e4,e5,e12]
end Go.Proofs.YtbepbclaoohngaaGreat
