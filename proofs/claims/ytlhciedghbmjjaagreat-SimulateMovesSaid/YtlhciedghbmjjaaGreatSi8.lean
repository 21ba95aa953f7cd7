/- Courses that are the same, by the reference. The examples of the law of plant. Strokes begun, with the check of the ends: by the program and by the reference. An event happens in a course, by the program. A course goes on to another state, by the reference. -/
import Derived.Test.YtlhciedghbmjjaaGreatAf2
import Derived.KernelRfl
import Derived.Test.YtlhciedghbmjjaaGreatSv1
import Derived.Test.YtlhciedghbmjjaaGreatGt2
import Derived.Test.YtlhciedghbmjjaaGreatSi6
set_option linter.all false
namespace Go.Proofs.YtlhciedghbmjjaaGreat
open Go Go.Am Go.Proofs
set_option maxRecDepth 100000
def T66(a:List Int)(k:Nat):Tm:=[some (qbx a),some (qbx a),none,none,none,some (num k)]++List.replicate 20 none
theorem jfp(a:List Int)(ha:a.length<=100000){st:St}(h0:At (T66 a 0) [] st):∃r,ev pg (.code (.going 0 L33_0) st)=some r/\qag (.exit 0) (T66 a a.length) [] r:=by
 refine qcd a.length (T66 a) (fun _=>[]) _ ?_ ?_ h0
 .intro k f hf hk
  have hk':(k:Int)<a.length:=by omega
  have wk:=qab (n:=(k:Int)+1) (by omega) (by omega)
  simp[qaa,exT,qae,T66,L33_0,hk,hk',wk,hf.ne]
 .intro f hf
  simp[T66,L33_0,hf.ne]
theorem ev33s(a:List Int)(ha:a.length<=100000):ev pg (.call (.fn 33 [] []) [qbx a,qbx a] [])=some { v:=.bool true,st:=⟨[],[]⟩ }:=by
 have hl:=@jfp a ha
 rw[qac,pg33]
 simp[ir33,qaf]
 generalize hr:ev pg (.code (.going _ L33_0) _)=o
 obtain⟨r,rfl,f,hf,rfl⟩:∃r,o=some r/\_:=by rw[<-hr];exact hl (by simp[T66])
 simp[T66]
abbrev lls(a:List (List (Int×Bool))):V:=.imm (a.map jel)
def zrm(a:List (List (Int×Bool)))(i k:Nat):Tm:=[some (lls a),some (lls a),none,none,none,some (num i),some (num k)]++List.replicate 46 none
def zub(a:List (List (Int×Bool)))(i:Nat):Tm:=[some (lls a),some (lls a),none,none,none,some (num i)]++List.replicate 47 none
theorem z9d(a:List (List (Int×Bool)))(i:Nat)(hi:i<a.length)(ha:a[i].length<=100000){st:St}(h0:At (zrm a i 0) [] st):∃r,ev pg (.code (.going 0 L52_0) st)=some r/\qag (.exit 2) (zrm a i a[i].length) [] r:=by
 refine qcd a[i].length (zrm a i) (fun _=>[]) _ ?_ ?_ h0
 .intro k f hf hk
  have hk':(k:Int)<a[i].length:=by omega
  have wk:=qab (n:=(k:Int)+1) (by omega) (by omega)
  simp[qaa,exT,qae,zrm,L52_0,hi,hk,hk',wk,hf.ne]
 .intro f hf
  simp[zrm,L52_0,hi,hf.ne]
theorem jdf(a:List (List (Int×Bool)))(ha:a.length<=100000)(hb:∀l∈a,l.length<=100000){st:St}(h0:At (zub a 0) [] st):∃r,ev pg (.code (.going 0 L52_1) st)=some r/\qag (.exit 0) (zub a a.length) [] r:=by
 refine qcd a.length (zub a) (fun _=>[]) _ ?_ ?_ h0
 .intro i f hf hi
  have hi':(i:Int)<a.length:=by omega
  have wi:=qab (n:=(i:Int)+1) (by omega) (by omega)
  have hl:=@z9d a i hi (hb _ (jH hi))
  simp[qaa,exT,qae,zub,L52_1,hi,hi',qaf,hf.ne]
  generalize hr:ev pg (.code (.going _ L52_0) _)=o
  obtain⟨r,rfl,f2,hf2,rfl⟩:∃r,o=some r/\_:=by rw[<-hr];exact hl (by simp[zrm,hf.ne])
  clear hr
  simp[zrm,wi,hf2.ne]
 .intro f hf
  simp[zub,L52_1,hf.ne]
theorem ev52s(a:List (List (Int×Bool)))(ha:a.length<=100000)(hb:∀l∈a,l.length<=100000):ev pg (.call (.fn 52 [] []) [lls a,lls a] [])=some { v:=.bool true,st:=⟨[],[]⟩ }:=by
 have hl:=@jdf a ha hb
 rw[qac,pg52]
 simp[ir52,qaf]
 generalize hr:ev pg (.code (.going _ L52_1) _)=o
 obtain⟨r,rfl,f,hf,rfl⟩:∃r,o=some r/\_:=by rw[<-hr];exact hl (by simp[zub])
 simp[zub]
structure Crs.small(r:Crs):Prop where
 st:r.st.small
 len:r.strokes.length<=100000
 each:∀l∈r.strokes,l.length<=100000
 conf:r.conf.length<=4096
theorem qjx:zeroS.small:=⟨by simp[zeroS],by simp[zeroS],by simp[zeroS],by simp[zeroS],by simp[zeroS]⟩
theorem zaf(a b:Ste):(qdo a b).length<=a.ends.length:=by rw[q3k];exact qni _ _ _
theorem zct(c:Ct)(hc:c.check=0):qby c=qse c (qdq c):=by
 unfold qby qse
 rw[if_pos hc,if_pos (qfq hc)]
theorem q3h{c:Ct}{s:Ste}(h:Rdy c s)(x:Evn):(qah c s x).1.small:=by
 by_cases hz:(qah c s x).2.2=0
 .exact Rdy.small ⟨h.few,qrz h.st hz⟩
 .unfold qah at hz ⊢
  split
  .exact qjx
  .rename_i h1
   rw[if_neg h1]at hz
   split
   .rename_i h2
    rw[if_pos h2]at hz
    unfold qhj at hz ⊢
    cases e:qfr c (qcc s x)with
    | none=>exact qjx
    | some y=>rw[e]at hz;exact absurd rfl hz
   .exact qjx
theorem q5g{c:Ct}(hc:c.small=true)(s:Ste)(x:Evn):(qil c s x).1.small:=by
 unfold qil
 split
 .rename_i h
  exact q3h (zcd hc h) x
 .exact qjx
end Go.Proofs.YtlhciedghbmjjaaGreat
namespace Go.Proofs.YtlhciedghbmjjaaGreat
open Go Go.Am Go.Proofs
set_option maxRecDepth 1000000
def one:Ct:=⟨1,[[115,116,97,114,116]],[⟨[109],1,.mk 3 0 [.mk 1 2 [],.mk 1 0 []],.mk 1 1 [],0,false⟩,⟨[103],0,.mk 2 0 [.mk 1 3 []],.mk 0 0 [],0,false⟩],[3],[4]⟩
def two:Ct:=⟨1,[[115,116,97,114,116]],[⟨[109],1,.mk 3 0 [.mk 1 2 [],.mk 1 0 []],.mk 1 1 [],0,false⟩,⟨[103],0,.mk 2 0 [.mk 1 3 []],.mk 0 0 [],0,false⟩],[3],[3]⟩
theorem zmy:evN pg 200 (.call (.fn 37 [] []) [] [])=some { v:=one.v,st:=⟨[],[]⟩ }:=by kernel_rfl
theorem ev37:ev pg (.call (.fn 37 [] []) [] [])=some { v:=one.v,st:=⟨[],[]⟩ }:=zrw zmy
theorem znw:one.small=true:=by kernel_rfl
def begE(a b:Ste):Int:=if a.ends.length≠b.ends.length\/6<a.ends.length then 8 else if(a.ends++b.ends).any (qfe 4)=true then 1 else 0
def zrp(a b:Ste):List (Int×Bool):=if begE a b=0 then qdo a b else []
def T38(n k:Nat):Tm:=[none,none,some (.bptr 0 0),some (.bptr 1 0),none,some (num 0)]++List.replicate 20 none++[some (.sl 2 0 1 0 n),some (num n),some (num k)]++List.replicate 13 none
def z4i:Tm:=[none,none,none,none,some .nils,some (num 1)]++List.replicate 36 none
abbrev h38(a b:Ste)(l:List Int):H:=[⟨0,.box a.cells⟩,⟨0,.box b.cells⟩,⟨0,.arr 1 (l.map qdc)⟩,o0]
theorem jex(a b:Ste)(l:List Int)(hl:l.length<=100000){st:St}(h0:At (T38 l.length 0) (h38 a b l) st):∃r,ev pg (.code (.going 4 L67_0) st)=some r/\qkt l.length (fun k=>qfe 4 ((l[k]?).getD 0)) (fun _=>qag .ret z4i (h38 a b l)) (qag (.exit 0) (T38 l.length l.length) (h38 a b l)) r:=by
 refine qcw _ _ (T38 l.length) (h38 a b l) _ _ ?_ ?_ ?_ h0
 .intro k f hf hk hp
  have hk':(k:Int)<l.length:=by omega
  have wk:=qab (n:=(k:Int)+1) (by omega) (by omega)
  have hp':¬l[k]<0/\¬4<=l[k]:=by simpa[qfe,hk]using hp
  simp[T38,L67_0,hk,hk',wk,hp',hf.ne]
 .intro k f hf hk hp
  have hk':(k:Int)<l.length:=by omega
  have hp':l[k]<0\/4<=l[k]:=by simpa[qfe,hk]using hp
  by_cases h1:l[k]<0
  .simp[T38,z4i,L67_0,hk,hk',h1,hf.ne]
  .have h2:4<=l[k]:=by omega
   simp[T38,z4i,L67_0,hk,hk',h1,h2,hf.ne]
 .intro f hf
  simp[T38,L67_0,hf.ne]
theorem zbi{l:List Int}{X:Nat->R->Prop}{Y:R->Prop}{r:R}(h:qkt l.length (fun k=>qfe 4 ((l[k]?).getD 0)) X Y r):(l.any (qfe 4)=true/\∃k,X k r)\/(l.any (qfe 4)=false/\Y r):=by
 rcases h with⟨k,hk,hp,-,hX⟩ | ⟨hp,hY⟩
 .refine .inl ⟨List.any_eq_true.2 ⟨l[k],jH hk,by simpa[hk]using hp⟩,k,hX⟩
 .refine .inr ⟨?_,hY⟩
  rw[List.any_eq_false]
  intro x hx
  obtain⟨k,hk,rfl⟩:=List.getElem_of_mem hx
  have:=hp k hk
  simpa[hk]using this
theorem zbr{a b:Ste}(h:a.ends.length≠b.ends.length\/6<a.ends.length):begE a b=8:=by unfold begE;rw[if_pos h]
theorem zbl{a b:Ste}(h1:a.ends.length=b.ends.length)(h2:¬6<a.ends.length):begE a b=if(a.ends++b.ends).any (qfe 4)=true then 1 else 0:=by unfold begE;rw[if_neg (by omega)]
theorem ev67(a b:Ste)(ha:a.small)(hb:b.small):ev pg (.call (.fn 67 [] []) [a.v,b.v] [])=some { v:=.tup [q0n (zrp a b),num (begE a b)],st:=⟨[],[]⟩ }:=by
 unfold zrp
 rw[qac,pg67]
 by_cases h1:a.ends.length=b.ends.length
 .have h1':(a.ends.length:Int)=b.ends.length:=by omega
  by_cases h2:6<a.ends.length
  .rw[zbr (.inr h2)]
   have h2b:(6:Int)<b.ends.length:=by omega
   simp[ir67,h1',h2b]
  .rw[zbl h1 h2]
   have h2b:¬(6:Int)<b.ends.length:=by omega
   have e62:=ev58 a b ha h1.symm
   have e32:=ev72c [a.ends,b.ends] (by simp) (by simp) (by simp;have:=ha.e;have:=hb.e;omega)
   have hl:=@jex a b (a.ends++b.ends) (by simp;have:=ha.e;have:=hb.e;omega)
   simp only[zew,List.map_cons,List.map_nil,List.flatten_cons,List.flatten_nil,List.append_nil]at e32
   generalize a.ends++b.ends=l at *
   generalize qdo a b=F at *
   generalize hB:l.any (qfe 4)=B
   simp[ir67,h1',h2b,e32,qaf,qcr,qeo,qks,qem]
   generalize hr:ev pg (.code (.going _ L67_0) _)=o
   obtain⟨r,rfl,hQ⟩:∃r,o=some r/\_:=by rw[<-hr];exact hl (by simp[T38])
   clear hr
   have hfa:=zbi hQ
   rw[hB]at hfa
   clear hQ
   rcases hfa with⟨rfl,k,f,hf,rfl⟩ | ⟨rfl,f,hf,rfl⟩
   .simp[z4i,qcr,qeo,qks,qem]
   .simp[T38,e62,qcr,qeo,qks,qem]
 .rw[zbr (.inl h1)]
  have h1':¬(a.ends.length:Int)=b.ends.length:=by omega
  have hne:((a.ends.length:Int) != (b.ends.length:Int))=true:=by rw[bne_iff_ne];exact h1'
  simp[ir67,h1',hne]
theorem q7f{h:H}(hc:qck h){x:Nat}{o:Ob}(ho:qbg h.length o=o):qck (h.set x o):=by
 rw[qgk]at hc ⊢
 intro q hq
 rw[jU]
 rcases jT hq with h1 | rfl
 .exact hc q h1
 .exact ho
theorem Sl.set{h:H}{l:List Int}{v:V}(hv:Sl h l v){x:Nat}{o:Ob}{cs:List V}(hx:h[x]?=some ⟨0,.box cs⟩):Sl (h.set x o) l v:=by
 rcases hv with _ | ⟨i,g,hi⟩
 .exact .imm
 .refine .own i g ?_
  have hne:x≠i:=by
   rintro rfl
   rw[hx]at hi
   cases hi
  rw[jO hne]
  exact hi
abbrev o0s:Ob:=⟨0,.arr 0 []⟩
abbrev z1j(x k:Nat)(d:Due)(n:List V):H:=[⟨0,.box [.bptr x 0]⟩,⟨0,.box d.row⟩,o0s,o0s,o0s,o0s,o0s,⟨0,.box n⟩,⟨0,.box [.fn 68 [] [.bptr (k+1) 0]]⟩]
theorem zjv{h:H}{x:Nat}{m:Mch}{s n:Ste}{ve vt:V}{l:List Prs}{d:Due}(hx:h[x]?=some ⟨0,.box (qlh m s ve vt l)⟩)(hc:qck h){k:Nat}(hk:k=h.length)(r:H)(hr:∀o∈r,∃w rows,o=(⟨0,.arr w rows⟩:Ob)) :
  Hap (h++(z1j x k d n.cells++r)) x (k+7) k (k+8) (k+1) m s n ve vt l d:=by
 subst hk
 have hlt:=qar hx
 refine⟨qcl hc ?_,qbj hx,?_,?_,?_,?_⟩
 .intro o ho
  rcases jQ.1 ho with ho | ho
  .have h9:(z1j x h.length d n.cells++r).length=9+r.length:=by simp;omega
   rw[h9]
   simp only[z1j,List.mem_cons,List.not_mem_nil,or_false]at ho
   rcases ho with rfl | rfl | rfl | rfl | rfl | rfl | rfl | rfl | rfl<;>simp[qbg]<;>omega
  .obtain⟨w,rows,rfl⟩:=hr o ho
   rfl
 .rw[qap];rfl
 .rw[qal];rfl
 .rw[qap];rfl
 .rw[qap];rfl
def jdk(h:H)(x:Nat)(m:Mch)(s:Ste)(e t:List Int)(l:List Prs)(d:Due):R :=
 if(qil m.c s d.e).2.2=0 then
  if begE s (qil m.c s d.e).1=0 then { v:=.tup [q0n (zrp s (qil m.c s d.e).1),qbx (qil m.c s d.e).2.1,num 0],st:=⟨[],h.set x ⟨0,.box (qlh m (qil m.c s d.e).1 (qbx (qbc e d.t (onE s (qil m.c s d.e).1 d))) (qbx (qbc t d.t (onT s (qil m.c s d.e).1 d))) l)⟩⟩ }
  else { v:=.tup [q0n [],qbx [],num (begE s (qil m.c s d.e).1)],st:=⟨[],h⟩ }
 else { v:=.tup [q0n [],qbx [],num (qil m.c s d.e).2.2],st:=⟨[],h⟩ }
theorem ev41{h:H}{x:Nat}{m:Mch}{s:Ste}{e t:List Int}{ve vt:V}{l:List Prs}(hx:h[x]?=some ⟨0,.box (qlh m s ve vt l)⟩)(hc:qck h)(hve:Sl h e ve)(hvt:Sl h t vt)(hT:Tim m s e t)(hs:s.small)(hfew:m.c.small=true)(d:Due)
  (hn:(qil m.c s d.e).1.small) (hl1:(qil m.c s d.e).2.2=0->(qil m.c s d.e).1.ends.length=s.ends.length) (hl2:(qil m.c s d.e).2.2=0->(qil m.c s d.e).1.timers.length=s.timers.length) :
  ev pg (.call (.fn 41 [] []) [.bptr x 0,d.v] h)=some (jdk h x m s e t l d):=by
 have hck:=qdd hc
 have hlt:=qar hx
 have hxr:=fun r=>qbj (r:=r) hx
 have e66:=ev66 m.c s hfew hs d.e
 have e67:=ev67 s (qil m.c s d.e).1 hs hn
 unfold jdk
 generalize hZ:qil m.c s d.e=Z at *
 obtain⟨n,cf,er⟩:=Z
 simp only at *
 simp only[zam]at e66
 by_cases h1:er=0
 .subst h1
  by_cases h2:begE s n=0
  .have hl1:=hl1 rfl
   have hl2:=hl2 rfl
   have le:=hT.le
   have lt:=hT.lt
   have ne:=hT.ne
   have nt:=hT.nt
   have slm:∀{a:List Int} {v:V} {h:H} (r:H),Sl h a v->Sl (h++r) a v:=fun r hv=>by
    rcases hv with _ | ⟨i,g,hi⟩
    .exact .imm
    .exact .own i g (qbj hi)
   have arrs:∀rows:List (List V),∀o∈([⟨0,.arr 1 rows⟩,⟨0,.arr 0 []⟩]:H),∃w rows,o=(⟨0,.arr w rows⟩:Ob):=fun rows o ho=>by
    simp only[List.mem_cons,List.not_mem_nil,or_false]at ho
    rcases ho with rfl | rfl
    .exact⟨1,rows,rfl⟩
    .exact⟨0,[],rfl⟩
   have hlow:∀a b c:Nat,qfm 0 [.bptr a 0,.bptr b 0,.bptr c 0]=false:=fun a b c=>by simp
   -- the first list
   have hA:=zjv (n:=n) (d:=d) hx hc (k:=h.length) rfl [] (fun o ho=>by cases ho)
   rw[List.append_nil]at hA
   have e69a:=ev69 (f:=70) (caps:=[.bptr (h.length+7) 0,.bptr h.length 0,.bptr (h.length+8) 0]) (h:=h++z1j x h.length d n.cells) (l:=e) (ve:=ve) d.t (p:=onE s n d) (slm _ hve) (by omega) (hlow _ _ _) (by simp) hA.cm
    (fun rows i hi=>by
     have hB:=zjv (n:=n) (d:=d) hx hc (k:=h.length) rfl [⟨0,.arr 1 rows⟩,⟨0,.arr 0 []⟩] (arrs rows)
     rw[<-List.append_assoc]at hB
     exact ev70 hB (by omega) (by omega))
   generalize hE:qbc e d.t (onE s n d)=E at *
   -- the second list
   have hx2:(h.set x ⟨0,.box (qlh m s (qbx E) vt l)⟩)[x]?=some ⟨0,.box (qlh m s (qbx E) vt l)⟩:=jN hlt
   have hvt2:Sl (h.set x ⟨0,.box (qlh m s (qbx E) vt l)⟩) t vt:=hvt.set hx
   have hlow2:vt.low h.length=true:=by
    rcases hvt with _ | ⟨i,g,hi⟩
    .rfl
    .simp[qar hi]
   have hc2:qck (h.set x ⟨0,.box (qlh m s (qbx E) vt l)⟩):=q7f hc (by simp[qbg,qcz,hlow2])
   have hlen2:h.length=(h.set x ⟨0,.box (qlh m s (qbx E) vt l)⟩).length:=by simp
   have hA2:=zjv (n:=n) (d:=d) hx2 hc2 (k:=h.length) hlen2 [] (fun o ho=>by cases ho)
   rw[List.append_nil]at hA2
   have e69b:=ev69 (f:=71) (caps:=[.bptr (h.length+7) 0,.bptr h.length 0,.bptr (h.length+8) 0]) (h:=h.set x ⟨0,.box (qlh m s (qbx E) vt l)⟩++z1j x h.length d n.cells) (l:=t) (ve:=vt) d.t (p:=onT s n d) (slm _ hvt2) (by omega) (hlow _ _ _) (by simp) hA2.cm
    (fun rows i hi=>by
     have hB:=zjv (n:=n) (d:=d) hx2 hc2 (k:=h.length) hlen2 [⟨0,.arr 1 rows⟩,⟨0,.arr 0 []⟩] (arrs rows)
     rw[<-List.append_assoc]at hB
     exact ev71 hB (by omega) (by omega))
   generalize hT':qbc t d.t (onT s n d)=T at *
   have hck3:∀r,qaq h.length (h.set x ⟨0,.box (qlh m n (qbx E) (qbx T) l)⟩++r)=h.set x ⟨0,.box (qlh m n (qbx E) (qbx T) l)⟩:=fun r=>by
    have:=qdd (h:=h.set x ⟨0,.box (qlh m n (qbx E) (qbx T) l)⟩) (q7f hc (by simp[qbg])) r
    rwa [jU]at this
   have setl:∀(o:Ob) (r:H),(h++r).set x o=h.set x o++r:=fun o r=>List.set_append_left _ _ hlt
   have setl2:∀(o o':Ob) (r:H),(h.set x o++r).set x o'=h.set x o'++r:=fun o o' r=>by rw[List.set_append_left _ _ (by rw[jU];exact hlt),List.set_set]
   have gx:∀(o:Ob) (r:H),(h.set x o++r)[x]?=some o:=fun o r=>qbj (jN hlt)
   have gr:∀(o:Ob) (r:H) (k:Nat),(h.set x o++r)[h.length+k]?=r[k]?:=fun o r k=>by
    have:=qap (h:=h.set x o) (r:=r) (k:=k)
    rwa [jU]at this
   have gr0:∀(o:Ob) (r:H),(h.set x o++r)[h.length]?=r[0]?:=fun o r=>gr o r 0
   generalize zrp s n=F at *
   rw[qac,pg41]
   simp[-qaq,qaa,exT,qae,ir41,hck,hxr,e66,e67,h2,qap,qal,qdk,qcv,e69a,e69b,setl,setl2,gx,gr,gr0,hck3]
  .generalize zrp s n=F at *
   generalize begE s n=q at *
   have h2b:(q==0)=false:=by simpa using h2
   rw[qac,pg41]
   simp[-qaq,qaa,exT,qae,ir41,hck,hxr,e66,e67,h2,h2b,qap,qal,qdk,qcv]
 .have h1b:(er==0)=false:=by simpa using h1
  rw[qac,pg41]
  simp[-qaq,qaa,exT,qae,ir41,hck,hxr,e66,h1,h1b,qap,qal,qdk,qcv]
theorem ev103(s:Ste){i:Nat}(hi:i<s.ends.length):ev pg (.call (.fn 103 [] []) [s.v,num i] [])=some { v:=.bool (decide (s.ends[i]=1)||decide (s.ends[i]=3)),st:=⟨[],[]⟩ }:=by
 rw[qac,pg103]
 by_cases h1:s.ends[i]=1
 .simp[ir103,hi,h1]
 .have h1b:(s.ends[i]==1)=false:=by simpa using h1
  by_cases h3:s.ends[i]=3
  .simp[ir103,hi,h3]
  .have h3b:(s.ends[i]==3)=false:=by simpa using h3
   simp[ir103,hi,h1,h3,h1b,h3b]
abbrev zlh(m:Mch)(s:Ste)(ve vt:V)(k:Nat):List V:=[num m.c.act,.imm (m.c.inputs.map q3t),.imm (m.c.signals.map Sg.row),qbx m.c.plus,qbx m.c.minus,tms m.ts,qbx s.ends,qcy s.valves,qcy s.inputs,qcy s.values,qbx s.timers,ve,vt,num k]
structure Crf(h:H)(x ie it ge gt:Nat)(m:Mch)(s:Ste)(e t:List Int)(k:Nat):Prop where
 cm:qck h
 hx:h[x]?=some ⟨0,.box (zlh m s (.sl ie ge 1 0 e.length) (.sl it gt 1 0 t.length) k)⟩
 he:h[ie]?=some ⟨ge,.arr 1 (e.map qdc)⟩
 ht:h[it]?=some ⟨gt,.arr 1 (t.map qdc)⟩
 ne:ie≠it
theorem Crf.xe{h:H}{x ie it ge gt:Nat}{m:Mch}{s:Ste}{e t:List Int}{k:Nat}(c:Crf h x ie it ge gt m s e t k):x≠ie:=by
 rintro rfl
 have:=c.hx
 rw[c.he]at this
 cases this
theorem Crf.xt{h:H}{x ie it ge gt:Nat}{m:Mch}{s:Ste}{e t:List Int}{k:Nat}(c:Crf h x ie it ge gt m s e t k):x≠it:=by
 rintro rfl
 have:=c.hx
 rw[c.ht]at this
 cases this
theorem qvj{h:H}(hc:qck h){x:Nat}{o:Ob}(ho:qbg h.length o=o):qck (h.set x o):=by
 rw[qgk]at hc ⊢
 intro q hq
 rw[jU]
 rcases jT hq with h1 | rfl
 .exact hc q h1
 .exact ho
theorem Crf.setE{h:H}{x ie it ge gt:Nat}{m:Mch}{s:Ste}{e t:List Int}{k:Nat}(c:Crf h x ie it ge gt m s e t k){e':List Int}(hl:e'.length=e.length):Crf (h.set ie ⟨ge,.arr 1 (e'.map qdc)⟩) x ie it ge gt m s e' t k:=by
 refine⟨qvj c.cm rfl,?_,?_,?_,c.ne⟩
 .rw[jO c.xe.symm,hl];exact c.hx
 .rw[jN (qar c.he)]
 .rw[jO c.ne];exact c.ht
theorem Crf.setT{h:H}{x ie it ge gt:Nat}{m:Mch}{s:Ste}{e t:List Int}{k:Nat}(c:Crf h x ie it ge gt m s e t k){t':List Int}(hl:t'.length=t.length):Crf (h.set it ⟨gt,.arr 1 (t'.map qdc)⟩) x ie it ge gt m s e t' k:=by
 refine⟨qvj c.cm rfl,?_,?_,?_,c.ne⟩
 .rw[jO c.xt.symm,hl];exact c.hx
 .rw[jO c.ne.symm];exact c.he
 .rw[jN (qar c.ht)]
theorem zhw(n:Nat)(s:Ste)(m:Mch){ie it ge gt a b k:Nat}(h1:ie<n)(h2:it<n):qbg n ⟨0,.box (zlh m s (.sl ie ge 1 0 a) (.sl it gt 1 0 b) k)⟩=⟨0,.box (zlh m s (.sl ie ge 1 0 a) (.sl it gt 1 0 b) k)⟩:=by
 simp[qbg,h1,h2]
theorem Crf.setX{h:H}{x ie it ge gt:Nat}{m:Mch}{s:Ste}{e t:List Int}{k:Nat}(c:Crf h x ie it ge gt m s e t k)(s':Ste)(k':Nat):Crf (h.set x ⟨0,.box (zlh m s' (.sl ie ge 1 0 e.length) (.sl it gt 1 0 t.length) k')⟩) x ie it ge gt m s' e t k':=by
 refine⟨qvj c.cm (zhw _ _ _ (qar c.he) (qar c.ht)),?_,?_,?_,c.ne⟩
 .rw[jN (qar c.hx)]
 .rw[jO c.xe];exact c.he
 .rw[jO c.xt];exact c.ht
def qhl(a b:List Int)(i:Nat):Bool:=decide ((a[i]?).getD 0=(b[i]?).getD 0)
def q1p(x n:Nat)(now:Int)(k:Nat):Tm:=[some (.bptr x 0),none,some (num now),none,some (.bptr n 0),none,some (num k)]++List.replicate 61 none
theorem zzj{h:H}{x ie it ge gt:Nat}{m:Mch}{s:Ste}{e t:List Int}{k0:Nat}(c:Crf h x ie it ge gt m s e t k0){u:Ste}{now:Int}(h1:u.ends.length=s.ends.length)(h2:e.length=s.ends.length)(hl:s.ends.length<=4096)
  {st:St} (h0:At (q1p x h.length now 0) (h++[⟨0,.box u.cells⟩]) st) :
  ∃r,ev pg (.code (.going (h.length+1) L79_0) st)=some r/\qag (.exit 0) (q1p x h.length now u.ends.length) (h.set ie ⟨ge,.arr 1 ((qbc e now (qhl u.ends s.ends)).map qdc)⟩++[⟨0,.box u.cells⟩]) r:=by
 have hcut:∀(e':List Int) (rows:List (List V)),rows=e'.map qdc->e'.length=e.length->qav (h.length+1) (h.set ie ⟨ge,.arr 1 rows⟩++[⟨0,.box u.cells⟩])=h.set ie ⟨ge,.arr 1 rows⟩++[⟨0,.box u.cells⟩]:=fun e' rows hr he=>by
  subst hr
  have:=qej (h:=h.set ie ⟨ge,.arr 1 (e'.map qdc)⟩++[⟨0,.box u.cells⟩]) (qcl (c.setE he).cm (by simp[qbg]))
  rwa [show(h.set ie ⟨ge,.arr 1 (e'.map qdc)⟩++[⟨0,.box u.cells⟩]:H).length=h.length+1 by simp]at this
 have hlen:∀o:Ob,(h.set ie o).length=h.length:=fun o=>jU
 have hxl:x<h.length+1:=by have:=qar c.hx;omega
 unfold qbc
 rw[show u.ends.length=e.length by omega]
 refine qcd e.length (q1p x h.length now) (fun k=>h.set ie ⟨ge,.arr 1 ((qkz e now (qhl u.ends s.ends) k).map qdc)⟩++[⟨0,.box u.cells⟩]) _ ?_ ?_ (by
  rw[quk]
  have:h.set ie ⟨ge,.arr 1 (e.map qdc)⟩=h:=by
   apply List.ext_getElem?
   intro i
   by_cases hi:ie=i
   .subst hi;rw[jN (qar c.he),c.he]
   .rw[jO hi]
  rw[this]
  exact h0)
 .intro k f hf hk
  have hk':(k:Int)<e.length:=by omega
  have hks:k<s.ends.length:=by omega
  have hku:k<u.ends.length:=by omega
  have hku':(k:Int)<u.ends.length:=by omega
  have wk:=qab (n:=(k:Int)+1) (by omega) (by omega)
  have hln:=qoq e now (qhl u.ends s.ends) k
  have c':=c.setE (e':=qkz e now (qhl u.ends s.ends) k) hln
  have hx':=fun r=>qbj (r:=r) c'.hx
  have he':=fun r=>qbj (r:=r) c'.he
  have gn0:∀(o:Ob) (r:H),(h.set ie o++r)[h.length]?=r[0]?:=fun o r=>by rw[<-hlen o,qal]
  have hset:∀(o o':Ob) (r:H),(h.set ie o++r).set ie o'=h.set ie o'++r:=fun o o' r=>by
   rw[List.set_append_left _ _ (by rw[jU];exact qar c.he),List.set_set]
  cases hp:qhl u.ends s.ends k with
  | true =>
   have hs:=qzy (l:=e) (now:=now) hp
   have hq:u.ends[k]=s.ends[k]:=by simpa[qhl,hks,hku]using hp
   generalize hM':qkz e now (qhl u.ends s.ends) (k+1)=M' at *
   generalize hM:qkz e now (qhl u.ends s.ends) k=M at *
   subst hs
   simp[-qav,qaa,exT,qae,q1p,L79_0,hk,hku,hku',hks,wk,hx',gn0,hq,hf.ne]
   exact⟨hxl,hcut _ _ rfl hln⟩
  | false =>
   have hs:=q4s (l:=e) (now:=now) hp
   have hq:u.ends[k]≠s.ends[k]:=by simpa[qhl,hks,hku]using hp
   have hq2:(u.ends[k]==s.ends[k])=false:=by simpa using hq
   have hq3:(u.ends[k] != s.ends[k])=true:=by simpa using hq
   generalize hM':qkz e now (qhl u.ends s.ends) (k+1)=M' at *
   generalize hM:qkz e now (qhl u.ends s.ends) k=M at *
   subst hs
   simp[-qav,qaa,exT,qae,q1p,L79_0,hk,hku,hku',hks,wk,hx',he',gn0,hset,hq,hq2,hq3,hln,hf.ne]
   exact⟨hxl,hcut (M.set k now) _ (by simp) (by simp[hln])⟩
 .intro f hf
  have hks:¬e.length<u.ends.length:=by omega
  have gn0:∀(o:Ob) (r:H),(h.set ie o++r)[h.length]?=r[0]?:=fun o r=>by rw[<-hlen o,qal]
  simp[-qav,q1p,L79_0,hks,gn0,hf.ne]
def q1w(x n:Nat)(now:Int)(k:Nat):Tm:=[some (.bptr x 0),none,some (num now),none,some (.bptr n 0),none,none,some (num k)]++List.replicate 60 none
theorem z0s{h:H}{x ie it ge gt:Nat}{m:Mch}{s:Ste}{e t:List Int}{k0:Nat}(c:Crf h x ie it ge gt m s e t k0){u:Ste}{now:Int}(h1:u.timers.length=s.timers.length)(h2:t.length=s.timers.length)(hl:s.timers.length<=4096)
  {st:St} (h0:At (q1w x h.length now 0) (h++[⟨0,.box u.cells⟩]) st) :
  ∃r,ev pg (.code (.going (h.length+1) L79_1) st)=some r/\qag (.exit 2) (q1w x h.length now u.timers.length) (h.set it ⟨gt,.arr 1 ((qbc t now (qhl u.timers s.timers)).map qdc)⟩++[⟨0,.box u.cells⟩]) r:=by
 have hcut:∀(e':List Int) (rows:List (List V)),rows=e'.map qdc->e'.length=t.length->qav (h.length+1) (h.set it ⟨gt,.arr 1 rows⟩++[⟨0,.box u.cells⟩])=h.set it ⟨gt,.arr 1 rows⟩++[⟨0,.box u.cells⟩]:=fun e' rows hr he=>by
  subst hr
  have:=qej (h:=h.set it ⟨gt,.arr 1 (e'.map qdc)⟩++[⟨0,.box u.cells⟩]) (qcl (c.setT he).cm (by simp[qbg]))
  rwa [show(h.set it ⟨gt,.arr 1 (e'.map qdc)⟩++[⟨0,.box u.cells⟩]:H).length=h.length+1 by simp]at this
 have hlen:∀o:Ob,(h.set it o).length=h.length:=fun o=>jU
 have hxl:x<h.length+1:=by have:=qar c.hx;omega
 unfold qbc
 rw[show u.timers.length=t.length by omega]
 refine qcd t.length (q1w x h.length now) (fun k=>h.set it ⟨gt,.arr 1 ((qkz t now (qhl u.timers s.timers) k).map qdc)⟩++[⟨0,.box u.cells⟩]) _ ?_ ?_ (by
  rw[quk]
  have:h.set it ⟨gt,.arr 1 (t.map qdc)⟩=h:=by
   apply List.ext_getElem?
   intro i
   by_cases hi:it=i
   .subst hi;rw[jN (qar c.ht),c.ht]
   .rw[jO hi]
  rw[this]
  exact h0)
 .intro k f hf hk
  have hk':(k:Int)<t.length:=by omega
  have hks:k<s.timers.length:=by omega
  have hku:k<u.timers.length:=by omega
  have hku':(k:Int)<u.timers.length:=by omega
  have wk:=qab (n:=(k:Int)+1) (by omega) (by omega)
  have hln:=qoq t now (qhl u.timers s.timers) k
  have c':=c.setT (t':=qkz t now (qhl u.timers s.timers) k) hln
  have hx':=fun r=>qbj (r:=r) c'.hx
  have ht':=fun r=>qbj (r:=r) c'.ht
  have gn0:∀(o:Ob) (r:H),(h.set it o++r)[h.length]?=r[0]?:=fun o r=>by rw[<-hlen o,qal]
  have hset:∀(o o':Ob) (r:H),(h.set it o++r).set it o'=h.set it o'++r:=fun o o' r=>by
   rw[List.set_append_left _ _ (by rw[jU];exact qar c.ht),List.set_set]
  cases hp:qhl u.timers s.timers k with
  | true =>
   have hs:=qzy (l:=t) (now:=now) hp
   have hq:u.timers[k]=s.timers[k]:=by simpa[qhl,hks,hku]using hp
   generalize hM':qkz t now (qhl u.timers s.timers) (k+1)=M' at *
   generalize hM:qkz t now (qhl u.timers s.timers) k=M at *
   subst hs
   simp[-qav,qaa,exT,qae,q1w,L79_1,hk,hku,hku',hks,wk,hx',gn0,hq,hf.ne]
   exact⟨hxl,hcut _ _ rfl hln⟩
  | false =>
   have hs:=q4s (l:=t) (now:=now) hp
   have hq:u.timers[k]≠s.timers[k]:=by simpa[qhl,hks,hku]using hp
   have hq2:(u.timers[k]==s.timers[k])=false:=by simpa using hq
   have hq3:(u.timers[k] != s.timers[k])=true:=by simpa using hq
   generalize hM':qkz t now (qhl u.timers s.timers) (k+1)=M' at *
   generalize hM:qkz t now (qhl u.timers s.timers) k=M at *
   subst hs
   simp[-qav,qaa,exT,qae,q1w,L79_1,hk,hku,hku',hks,wk,hx',ht',gn0,hset,hq,hq2,hq3,hln,hf.ne]
   exact⟨hxl,hcut (M.set k now) _ (by simp) (by simp[hln])⟩
 .intro f hf
  have hks:¬t.length<u.timers.length:=by omega
  have gn0:∀(o:Ob) (r:H),(h.set it o++r)[h.length]?=r[0]?:=fun o r=>by rw[<-hlen o,qal]
  simp[-qav,q1w,L79_1,hks,gn0,hf.ne]
def z5r(h:H)(x ie it ge gt:Nat)(m:Mch)(s u:Ste)(e t:List Int)(k:Nat)(now:Int):H :=
 ((h.set ie ⟨ge,.arr 1 ((qbc e now (qhl u.ends s.ends)).map qdc)⟩).set it ⟨gt,.arr 1 ((qbc t now (qhl u.timers s.timers)).map qdc)⟩).set x ⟨0,.box (zlh m u (.sl ie ge 1 0 e.length) (.sl it gt 1 0 t.length) k)⟩
theorem qbo(l:List Int)(now:Int)(p:Nat->Bool):(qbc l now p).length=l.length:=qoq _ _ _ _
theorem Crf.moved{h:H}{x ie it ge gt:Nat}{m:Mch}{s:Ste}{e t:List Int}{k:Nat}(c:Crf h x ie it ge gt m s e t k)(u:Ste)(now:Int):Crf (z5r h x ie it ge gt m s u e t k now) x ie it ge gt m u (qbc e now (qhl u.ends s.ends)) (qbc t now (qhl u.timers s.timers)) k:=by
 have c1:=(c.setE (e':=qbc e now (qhl u.ends s.ends)) (qbo _ _ _)).setT (t':=qbc t now (qhl u.timers s.timers)) (qbo _ _ _)
 have c2:=c1.setX u k
 simp only[qbo]at c2
 exact c2
theorem ev79{h:H}{x ie it ge gt:Nat}{m:Mch}{s:Ste}{e t:List Int}{k:Nat}(c:Crf h x ie it ge gt m s e t k){u:Ste}(now:Int)(h1:u.ends.length=s.ends.length)(h2:e.length=s.ends.length)(h3:u.timers.length=s.timers.length)(h4:t.length=s.timers.length)(hl:s.ends.length<=4096)(hl2:s.timers.length<=4096) :
  ev pg (.call (.fn 79 [] []) [.bptr x 0,u.v,num now] h)=some { v:=.tup [],st:=⟨[],z5r h x ie it ge gt m s u e t k now⟩ }:=by
 have hlpa:=@zzj h x ie it ge gt m s e t k c u now h1 h2 hl
 have c1:=c.setE (e':=qbc e now (qhl u.ends s.ends)) (qbo _ _ _)
 have hlpb:=@z0s _ x ie it ge gt m s _ t k c1 u now h3 h4 hl2
 have cm:=(c.moved u now).cm
 unfold z5r at cm ⊢
 have c2:=c1.setT (t':=qbc t now (qhl u.timers s.timers)) (qbo _ _ _)
 have hx2:=fun r=>qbj (r:=r) c2.hx
 have gn0:∀(o o':Ob) (r:H),((h.set ie o).set it o'++r)[h.length]?=r[0]?:=fun o o' r=>by
  have:=qal (h:=(h.set ie o).set it o') (r:=r)
  simpa using this
 have hset:∀(o o' o'':Ob) (r:H),((h.set ie o).set it o'++r).set x o''=((h.set ie o).set it o').set x o''++r:=fun o o' o'' r=>by
  rw[List.set_append_left _ _ (by rw[jU,jU];exact qar c.hx)]
 have hck:=fun r=>qdd cm r
 have hlen:∀(o o' o'':Ob),(((h.set ie o).set it o').set x o'').length=h.length:=fun o o' o''=>by simp
 simp only[hlen,qbo]at hck hx2
 generalize qbc e now (qhl u.ends s.ends)=E at *
 generalize qbc t now (qhl u.timers s.timers)=T at *
 rw[qac,pg79]
 simp[-qaq,ir79,qaf]
 generalize hr:ev pg (.code (.going _ L79_0) _)=o
 obtain⟨r,rfl,f,hf,rfl⟩:∃r,o=some r/\_:=by rw[<-hr];exact hlpa (by simp[q1p])
 clear hr
 simp[-qaq,q1p,qaf,hf.ne]
 generalize hr:ev pg (.code (.going _ L79_1) _)=o
 obtain⟨r,rfl,f,hf,rfl⟩:∃r,o=some r/\_:=by rw[<-hr];simpa using hlpb (by simp[q1w,hf.ne])
 clear hr
 simp[-qaq,q1w,hx2,gn0,hset,hck]
 trace_state
end Go.Proofs.YtlhciedghbmjjaaGreat
