/- The events of a pair, one after the other: a range over events, whatev. -/
import Derived.Test.YtbepbclaoohngaaGreatVDt3
import Derived.KernelRfl
set_option linter.all false
namespace Go.Proofs.YtbepbclaoohngaaGreat
open Go Go.Am Go.Proofs
set_option maxRecDepth 100000
set_option maxHeartbeats 4000000
def plB(p q:Ste×Ste):Bool:=qhf p.1 q.1&&qhf p.2 q.2
theorem zaj(p q:Ste×Ste):plB p q=plB q p:=by
 unfold plB;rw[qkn p.1,qkn p.2]
def q2t(L:List (Ste×Ste))(p:Ste×Ste):Bool:=L.any (plB p)
abbrev prs(L:List (Ste×Ste)):V:=.imm (L.map qbw)
theorem ev135(p q:Ste×Ste)(hp:PS p):ev pg (.call (.fn 135 [] []) [.agg (qbw p),.agg (qbw q)] [])=some { v:=.bool (plB p q),st:=⟨[],[]⟩ }:=by
 have e1:=ev149 p.1 q.1 hp.g
 have e2:=ev149 p.2 q.2 hp.b
 rw[qaa,pg135]
 unfold plB
 cases h1:qhf p.1 q.1<;>rw[h1]at e1
 .simp[ir135,e1]
 .simp[ir135,e1,e2]
theorem ev134(p q:Ste×Ste)(hp:PS p):ev pg (.call (.fn 134 [] [.bptr 0 0]) [.agg (qbw q)] [⟨0,.box (qbw p)⟩])=some { v:=.bool (plB p q),st:=⟨[],[⟨0,.box (qbw p)⟩]⟩ }:=by
 have e1:=ev135 p q hp
 rw[qaa,pg134]
 generalize plB p q=b at *
 simp[ir134,e1]
def qtl(L:List (Ste×Ste))(p:Ste×Ste):Int:=if q2t L p=true then(L.findIdx (plB p):Nat)else -1
def zol(L:List (Ste×Ste))(k:Nat):Tm:=[some (prs L),some (.fn 134 [] [.bptr 0 0]),none,none,nN 0,none,some (prs L),nN L.length,nN k]++zN 10
def zrf(k:Nat):Tm:=[none,none,none,none,nN k]++zN 14
theorem jdd(L:List (Ste×Ste))(hL:L.length<=100000)(p:Ste×Ste)(hp:PS p){st:St}(h0:At (zol L 0) [⟨0,.box (qbw p)⟩] st) :
  ∃r,ev pg (.code (.going 1 L133_0) st)=some r/\qkt L.length (fun k=>(L[k]?.map (plB p)).getD false) (fun k=>qaq .ret (zrf k) [⟨0,.box (qbw p)⟩]) (qaq (.exit 0) (zol L L.length) [⟨0,.box (qbw p)⟩]) r:=by
 refine qby _ _ (zol L) _ _ _ ?_ ?_ ?_ h0
 .intro k f hf hk hb
  have hk':(k:Int)<L.length:=by omega
  have wk:=qbb (k:=k) (by omega)
  have e1:=ev134 p L[k] hp
  have hb':plB p L[k]=false:=by simpa[hk]using hb
  rw[hb']at e1
  simp[zol,L133_0,hk,hk',e1,wk,hf.ne]
 .intro k f hf hk hb
  have hk':(k:Int)<L.length:=by omega
  have e1:=ev134 p L[k] hp
  have hb':plB p L[k]=true:=by simpa[hk]using hb
  rw[hb']at e1
  simp[zol,zrf,L133_0,hk,hk',e1,hf.ne]
 .intro f hf
  simp[zol,L133_0,hf.ne]
theorem ev75(L:List (Ste×Ste))(hL:L.length<=100000)(p:Ste×Ste)(hp:PS p):ev pg (.call (.fn 75 [] []) [prs L,.agg (qbw p)] [])=some { v:=num (qtl L p),st:=⟨[],[]⟩ }:=by
 have e1:ev pg (.call (.fn 133 [] []) [prs L,.fn 134 [] [.bptr 0 0]] [⟨0,.box (qbw p)⟩])=some { v:=num (qtl L p),st:=⟨[],[⟨0,.box (qbw p)⟩]⟩ }:=by
  have hlp:=fun st=>jdd L hL p hp (st:=st)
  rw[qaa,pg133]
  simp[ir133,qah]
  generalize hr:ev pg (.code (.going _ L133_0) _)=o
  obtain⟨r,rfl,hQ⟩:∃r,o=some r/\_:=by rw[<-hr];exact hlp _ (by simp[zol])
  clear hr hlp
  unfold qtl
  rcases hQ with⟨k,hk,hb,hbf,f,hf,rfl⟩ | ⟨hb,f,hf,rfl⟩
  .have hbk:plB p L[k]=true:=by simpa[hk]using hb
   have hin:q2t L p=true:=List.any_eq_true.2 ⟨L[k],jH hk,hbk⟩
   have hfi:L.findIdx (plB p)=k:=by
    rw[List.findIdx_eq hk]
    refine⟨hbk,fun j hj=>?_⟩
    have:=hbf j hj
    simpa[show j<L.length by omega]using this
   rw[if_pos hin,hfi]
   simp[zrf]
  .have hno:q2t L p=false:=by
    rw[Bool.eq_false_iff]
    intro h
    obtain⟨q,hq,e⟩:=List.any_eq_true.1 h
    obtain⟨j,hj,rfl⟩:=List.mem_iff_getElem.1 hq
    have:=hb j hj
    simp only[jA hj]at this
    simp[e]at this
   simp[zol,hno]
 rw[qaa,pg75]
 generalize qtl L p=n at *
 simp[ir75,e1]
theorem qzk(L:List (Ste×Ste))(p:Ste×Ste):(decide (0<=qtl L p))=q2t L p:=by
 unfold qtl
 cases h:q2t L p with
 | true=>simp
 | false=>simp
theorem ev50(p q:Ste×Ste)(hp:PS p):ev pg (.call (.fn 50 [] []) [.agg (qbw p),.agg (qbw q)] [])=some { v:=.bool (plB p q),st:=⟨[],[]⟩ }:=by
 have e1:=ev97 p.1 q.1 hp.g
 have e2:=ev97 p.2 q.2 hp.b
 rw[qaa,pg50]
 unfold plB
 cases h1:qhf p.1 q.1<;>rw[h1]at e1
 .simp[ir50,e1]
 .simp[ir50,e1,e2]
def T78(L:List (Ste×Ste))(k:Nat):Tm:=[some (prs L),none,none,bN 0,some (.bool false),nN k]++zN 12
def jai:Tm:=[none,none,none,none,some (.bool true)]++zN 13
theorem jgf(L:List (Ste×Ste))(hL:L.length<=100000)(hS:∀q∈L,PS q)(p:Ste×Ste){st:St}(h0:At (T78 L 0) [⟨0,.box (qbw p)⟩] st) :
  ∃r,ev pg (.code (.going 1 L78_0) st)=some r/\qkt L.length (fun k=>(L[k]?.map (plB p)).getD false) (fun _=>qaq .ret jai [⟨0,.box (qbw p)⟩]) (qaq (.exit 0) (T78 L L.length) [⟨0,.box (qbw p)⟩]) r:=by
 refine qby _ _ (T78 L) _ _ _ ?_ ?_ ?_ h0
 .intro k f hf hk hb
  have hk':(k:Int)<L.length:=by omega
  have wk:=qbb (k:=k) (by omega)
  have e1:=ev50 L[k] p (hS _ (jH hk))
  have hb':plB p L[k]=false:=by simpa[hk]using hb
  rw[zaj,hb']at e1
  simp[T78,L78_0,hk,hk',e1,wk,hf.ne]
 .intro k f hf hk hb
  have hk':(k:Int)<L.length:=by omega
  have e1:=ev50 L[k] p (hS _ (jH hk))
  have hb':plB p L[k]=true:=by simpa[hk]using hb
  rw[zaj,hb']at e1
  simp[T78,jai,L78_0,hk,hk',e1,hf.ne]
 .intro f hf
  simp[T78,L78_0,hf.ne]
theorem ev78(L:List (Ste×Ste))(hL:L.length<=100000)(hS:∀q∈L,PS q)(p:Ste×Ste):ev pg (.call (.fn 78 [] []) [prs L,.agg (qbw p)] [])=some { v:=.bool (q2t L p),st:=⟨[],[]⟩ }:=by
 have hlp:=fun st=>jgf L hL hS p (st:=st)
 rw[qaa,pg78]
 simp[ir78,qah]
 generalize hr:ev pg (.code (.going _ L78_0) _)=o
 obtain⟨r,rfl,hQ⟩:∃r,o=some r/\_:=by rw[<-hr];exact hlp _ (by simp[T78])
 clear hr hlp
 rcases hQ with⟨k,hk,hb,hbf,f,hf,rfl⟩ | ⟨hb,f,hf,rfl⟩
 .have hbk:plB p L[k]=true:=by simpa[hk]using hb
  have hin:q2t L p=true:=List.any_eq_true.2 ⟨L[k],jH hk,hbk⟩
  simp[jai,hin]
 .have hno:q2t L p=false:=by
   rw[Bool.eq_false_iff]
   intro h
   obtain⟨q,hq,e⟩:=List.any_eq_true.1 h
   obtain⟨j,hj,rfl⟩:=List.mem_iff_getElem.1 hq
   have:=hb j hj
   simp only[jA hj]at this
   simp[e]at this
  simp[T78,hno]
def qgd{α:Type}(step:α->Evn->α×Bool):α->List Evn->α×Bool
 | s,[]=>(s,true)
 | s,x :: l=>if(step s x).2=true then qgd step (step s x).1 l else((step s x).1,false)
theorem qtg{α:Type}(step:α->Evn->α×Bool):∀(l m:List Evn) (s:α),qgd step s (l++m)=if(qgd step s l).2=true then qgd step (qgd step s l).1 m else qgd step s l
 | [],m,s=>by simp[qgd]
 | x :: l,m,s=>by
  simp only[List.cons_append,qgd]
  split
  .exact qtg step l m _
  .simp
def qpr(s:Ste):List Evn:=(s.inputs.mapIdx fun i v=>⟨2,(i:Int),!v⟩)
def qqa(w:Ct×Ct)(p:Ste×Ste):List Evn:=qok w.1 p.1++qpr p.1
def qtx(E:List Evn)(a b l k:Nat):Tm:=[some (.yld l),some (.bptr a 0),some (.bptr b 0)]++zN 9++[some (evs E),nN E.length,nN k]++zN 25
def qty(B:List Bool)(a b l k:Nat):Tm:=[some (.yld l),some (.bptr a 0),some (.bptr b 0)]++zN 22++[some (qdw B),nN B.length,nN k]++zN 12
structure Rng{α:Type}(w:Ct×Ct)(p:Ste×Ste)(Mem:α->H)(G:α->Prop)(Z:α->H->Prop)(step:α->Evn->α×Bool)(a b l N:Nat):Prop where
 aN:a<N
 bN:b<N
 lN:l<N
 len:∀s,G s->(Mem s).length=N
 calm:∀s,G s->calm (Mem s)
 ha:∀s,G s->(Mem s)[a]?=some ⟨0,.box (qie w)⟩
 hb:∀s,G s->(Mem s)[b]?=some ⟨0,.box (qbw p)⟩
 yld:∀s x E,G s->x∈qqa w p->(E=[]\/E=[⟨0,.box x.row⟩])->(step s x).2=true->G (step s x).1/\ev pg (.call (.yld l) [x.v] (Mem s++E))=some { v:=.bool true,st:=⟨[],Mem (step s x).1++E⟩ }
 stp:∀s x E,G s->x∈qqa w p->(E=[]\/E=[⟨0,.box x.row⟩])->(step s x).2=false->∃H,Z (step s x).1 H/\ev pg (.call (.yld l) [x.v] (Mem s++E))=some { v:=.bool false,st:=⟨[],H⟩ }
section
variable{α:Type}{w:Ct×Ct}{p:Ste×Ste}{Mem:α->H}{G:α->Prop}{Z:α->H->Prop}{step:α->Evn->α×Bool}{a b l N:Nat}
def zbd(step:α->Evn->α×Bool)(Mem:α->H)(G:α->Prop)(Z:α->H->Prop)(s0:α)(E:List Evn)(T:Tm)(k:Nat)(r:R):Prop :=
 ((qgd step s0 E).2=false/\∃S H,Z (qgd step s0 E).1 H/\r={ x:=.ret,st:=⟨S,H⟩ })\/((qgd step s0 E).2=true/\G (qgd step s0 E).1/\qaq (.exit k) T (Mem (qgd step s0 E).1) r)
theorem zzu(h:Rng w p Mem G Z step a b l N)(E:List Evn)(hE:E.length<=100000)(hin:∀x∈E,x∈qqa w p)(s0:α)(g0:G s0){st:St}(h0:At (qtx E a b l 0) (Mem s0) st) :
  ∃r,ev pg (.code (.going N L136_0) st)=some r/\zbd step Mem G Z s0 E (qtx E a b l E.length) 0 r:=by
 refine qdb (α:=α) E.length (fun k _=>qtx E a b l k) (fun _ s=>Mem s) (fun k s=>G s/\qgd step s0 E=qgd step s (E.drop k)) _ ?_ ?_ s0 ⟨g0,by simp⟩ h0
 .rintro k s f hf hk ⟨g,hg⟩
  have hk':(k:Int)<E.length:=by omega
  have wk:=qbb (k:=k) (by omega)
  have hy:=h.yld s E[k] _ g (hin _ (jH hk)) (.inr rfl)
  have hz:=h.stp s E[k] _ g (hin _ (jH hk)) (.inr rfl)
  have hl:=h.len s g
  rw[jL hk]at hg
  simp only[qgd]at hg
  have aN:=h.aN
  have bN:=h.bN
  have lN:=h.lN
  cases hs:(step s E[k]).2 with
  | true =>
   obtain⟨g',e1⟩:=hy hs
   have hcut:=fun r=>qpy (h.calm _ g') r
   rw[h.len _ g']at hcut
   rw[hs]at hg
   simp only[if_true]at hg
   clear hy hz hs
   generalize (step s E[k]).1=s' at *
   obtain⟨S,e,hS⟩:∃S,ev pg (.code L136_0 ⟨fill f 0 (qtx E a b l k),Mem s⟩)=some { st:=⟨S,Mem s'++[⟨0,.box E[k].row⟩]⟩ }/\q2s (qtx E a b l (k+1)) (S.map (qbr N)):=by
    simp[qtx,L136_0,hk,hk',e1,wk,hf.ne,aN,bN,lN]
   refine⟨_,e,.inl ⟨rfl,s',⟨g',hg⟩,?_⟩⟩
   exact⟨hS,by show qje N _=_;exact hcut _⟩
  | false =>
   obtain⟨H,hZ,e1⟩:=hz hs
   rw[hs]at hg
   simp only[Bool.false_eq_true,if_false]at hg
   obtain⟨S,e⟩:∃S,ev pg (.code L136_0 ⟨fill f 0 (qtx E a b l k),Mem s⟩)=some { x:=.ret,st:=⟨S,H⟩ }:=by
    simp[qtx,L136_0,hk,hk',e1,hf.ne]
   refine⟨_,e,.inr ⟨by simp,?_⟩⟩
   unfold zbd
   rw[hg]
   exact .inl ⟨rfl,S,H,hZ,rfl⟩
 .rintro s f hf ⟨g,hg⟩
  rw[List.drop_length]at hg
  simp only[qgd]at hg
  unfold zbd
  rw[hg]
  refine(?_:∃r,ev pg (.code L136_0 ⟨fill f 0 (qtx E a b l E.length),Mem s⟩)=some r/\r.x ≠ .normal/\_)
  simp[qtx,L136_0,g,hf.ne]
theorem zzv(h:Rng w p Mem G Z step a b l N)(hB:p.1.inputs.length<=100000)(s0:α)(g0:G s0){st:St}(h0:At (qty p.1.inputs a b l 0) (Mem s0) st) :
  ∃r,ev pg (.code (.going N L136_1) st)=some r/\zbd step Mem G Z s0 (qpr p.1) (qty p.1.inputs a b l p.1.inputs.length) 2 r:=by
 have htl:(qpr p.1).length=p.1.inputs.length:=by simp[qpr]
 refine qdb (α:=α) p.1.inputs.length (fun k _=>qty p.1.inputs a b l k) (fun _ s=>Mem s) (fun k s=>G s/\qgd step s0 (qpr p.1)=qgd step s ((qpr p.1).drop k)) _ ?_ ?_ s0 ⟨g0,by simp⟩ h0
 .rintro k s f hf hk ⟨g,hg⟩
  have hk':(k:Int)<p.1.inputs.length:=by omega
  have wk:=qbb (k:=k) (by omega)
  have hkt:k<(qpr p.1).length:=by omega
  have hx:(qpr p.1)[k]=⟨2,(k:Int),!p.1.inputs[k]⟩:=by simp[qpr]
  rw[jL hkt,hx]at hg
  have hy:=h.yld s ⟨2,(k:Int),!p.1.inputs[k]⟩ [] g (by rw[<-hx];exact List.mem_append_right _ (jH hkt)) (.inl rfl)
  have hz:=h.stp s ⟨2,(k:Int),!p.1.inputs[k]⟩ [] g (by rw[<-hx];exact List.mem_append_right _ (jH hkt)) (.inl rfl)
  simp only[List.append_nil]at hy hz
  simp only[qgd]at hg
  have aN:=h.aN
  have bN:=h.bN
  have lN:=h.lN
  cases hs:(step s ⟨2,(k:Int),!p.1.inputs[k]⟩).2 with
  | true =>
   obtain⟨g',e1⟩:=hy hs
   have hcut:=qpv (h.calm _ g')
   rw[h.len _ g']at hcut
   rw[hs]at hg
   simp only[if_true]at hg
   clear hy hz hs
   generalize (step s ⟨2,(k:Int),!p.1.inputs[k]⟩).1=s' at *
   obtain⟨S,e,hS⟩:∃S,ev pg (.code L136_1 ⟨fill f 0 (qty p.1.inputs a b l k),Mem s⟩)=some { st:=⟨S,Mem s'⟩ }/\q2s (qty p.1.inputs a b l (k+1)) (S.map (qbr N)):=by
    simp[qty,L136_1,hk,hk',e1,wk,hf.ne,aN,bN,lN]
   refine⟨_,e,.inl ⟨rfl,s',⟨g',hg⟩,?_⟩⟩
   exact⟨hS,by show qje N _=_;exact hcut⟩
  | false =>
   obtain⟨H,hZ,e1⟩:=hz hs
   rw[hs]at hg
   simp only[Bool.false_eq_true,if_false]at hg
   obtain⟨S,e⟩:∃S,ev pg (.code L136_1 ⟨fill f 0 (qty p.1.inputs a b l k),Mem s⟩)=some { x:=.ret,st:=⟨S,H⟩ }:=by
    simp[qty,L136_1,hk,hk',e1,hf.ne]
   refine⟨_,e,.inr ⟨by simp,?_⟩⟩
   unfold zbd
   rw[hg]
   exact .inl ⟨rfl,S,H,hZ,rfl⟩
 .rintro s f hf ⟨g,hg⟩
  rw[show(qpr p.1).drop p.1.inputs.length=[]by rw[<-htl,List.drop_length]]at hg
  simp only[qgd]at hg
  unfold zbd
  rw[hg]
  refine(?_:∃r,ev pg (.code L136_1 ⟨fill f 0 (qty p.1.inputs a b l p.1.inputs.length),Mem s⟩)=some r/\r.x ≠ .normal/\_)
  simp[qty,L136_1,g,hf.ne]
theorem ev136(h:Rng w p Mem G Z step a b l N)(hw:WS w)(hp:PS p)(s0:α)(g0:G s0) :
  ∃H',ev pg (.call (.fn 136 [] [.bptr a 0,.bptr b 0]) [.yld l] (Mem s0))=some { v:=.tup [],st:=⟨[],H'⟩ } /\
   (((qgd step s0 (qqa w p)).2=true/\G (qgd step s0 (qqa w p)).1/\H'=Mem (qgd step s0 (qqa w p)).1)\/((qgd step s0 (qqa w p)).2=false/\∃H,Z (qgd step s0 (qqa w p)).1 H/\H'=qef N H)):=by
 have e1:=ev126 w.1 p.1 hw.g hp.g
 have hE:(qok w.1 p.1).length<=100000:=by have:=qxr w.1 p.1 hp.g;omega
 have hB:p.1.inputs.length<=100000:=by have:=hp.g.i;omega
 have q1:=fun st=>zzu h (qok w.1 p.1) hE (fun x hx=>List.mem_append_left _ hx) s0 g0 (st:=st)
 have hl:=h.len s0 g0
 have ha:=h.ha s0 g0
 have hb:=h.hb s0 g0
 have hcut:=fun s g=>qge (h.calm s g)
 rw[qaa,pg136]
 unfold qqa
 rw[qtg]
 generalize qok w.1 p.1=E at *
 simp[-qef,-qsh,-qjd,ir136,qah,ha,hb,e1,hl]
 generalize hr:ev pg (.code (.going _ L136_0) _)=o
 obtain⟨r,rfl,hQ⟩:∃r,o=some r/\_:=by rw[<-hr];exact q1 _ (by simp[qtx])
 clear hr q1
 rcases hQ with⟨hF,S,H,hZ,rfl⟩ | ⟨hF,g1,f,hf,rfl⟩
 .rw[hF]
  simp[-qef,-qsh,-qjd,hF]
  exact⟨H,hZ,rfl⟩
 .rw[hF]
  simp only[if_true]
  generalize (qgd step s0 E).1=s1 at *
  have q2:=fun st=>zzv h hB s1 g1 (st:=st)
  have hb1:=h.hb s1 g1
  have hl1:=h.len s1 g1
  simp[-qef,-qsh,-qjd,qtx,hb1,hl1,qah,hf.ne]
  generalize hr:ev pg (.code (.going _ L136_1) _)=o
  obtain⟨r,rfl,hQ⟩:∃r,o=some r/\_:=by rw[<-hr];exact q2 _ (by simp[qty,hf.ne])
  clear hr q2
  rcases hQ with⟨hF,S,H,hZ,rfl⟩ | ⟨hF,g2,f,hf,rfl⟩
  .simp[-qef,-qsh,-qjd,hF]
   exact⟨H,hZ,rfl⟩
  .have hc:=hcut _ g2
   rw[h.len _ g2]at hc
   simp[-qef,-qsh,-qjd,hF,qty,hc,g2]
end
end Go.Proofs.YtbepbclaoohngaaGreat
