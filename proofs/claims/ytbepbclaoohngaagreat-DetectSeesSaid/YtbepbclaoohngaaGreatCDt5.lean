/- Seen, by the reference. -/
import Derived.Test.YtbepbclaoohngaaGreatCDt3
import Derived.KernelRfl
set_option linter.all false
namespace Go.Proofs.YtbepbclaoohngaaGreat
open Go Go.Am Go.Proofs
set_option maxRecDepth 100000
set_option maxHeartbeats 4000000
abbrev h27(c:Ct)(k i:Int)(w:Ct×Ct)(p:Ste×Ste):H:=[⟨0,.box c.cells⟩,⟨0,.box [num k,num i]⟩,o0,o0,o0,o0,o0,o0,o0,o0,⟨0,.box (qlz w)⟩,o0,o0,o0,o0,o0,o0,o0,o0,o0,o0,⟨0,.box (qbw p)⟩]
def T27(l:List Evn)(j:Nat):Tm:=[none,none,some (evs l),bN 0,bN 1,none,nN 0,some (.bool false),nN 0,bN 10,none,bN 21]++zN 31++[some (evs l),nN l.length,nN j]++zN 27
def zys(x:Int×Bool×Int):Tm:=[none,none,none,none,none,none,some (num x.1),some (.bool x.2.1),some (num x.2.2)]++zN 64
def qvl(l:List Evn)(z:Int×Bool×Int)(r:R):Prop:=zet .ret (zys z) r\/(z=((l.length:Int),false,0)/\zet (.exit 0) (T27 l l.length) r)
theorem jhc(c:Ct)(k i:Int)(w:Ct×Ct)(hw:WS w)(l:List Evn)(hl:l.length<=4096)(p0:Ste×Ste)(hp0:PS p0){st:St}(h0:At (T27 l 0) (h27 c k i w p0) st) :
  ∃r,ev pg (.code (.going 22 L27_0) st)=some r/\qvl l (qii w l p0 0) r:=by
 refine qct (α:=Ste×Ste) l.length (fun j _=>T27 l j) (fun _ p=>h27 c k i w p) (fun j p=>PS p/\qii w l p0 0=qii w (l.drop j) p j) _ ?_ ?_ p0 ⟨hp0,by simp⟩ h0
 .rintro j p f hf hj ⟨hp,hg⟩
  have hj':(j:Int)<l.length:=by omega
  have wk:=qbb (k:=j) (by omega)
  have e1:=ev66 w hw p hp l[j]
  have hs:=qyz hw (p:=p) (x:=l[j])
  have e2:=ev65 w hw _ hs
  rw[jL hj]at hg
  simp only[qii]at hg
  rw[hg]
  unfold zdu at e1
  generalize qsc w p l[j]=y at *
  obtain⟨q,b,e⟩:=y
  simp only at *
  refine(?_:∃r,ev pg (.code L27_0 ⟨fill f 0 (T27 l j),h27 c k i w p⟩)=some r/\((r.x=.normal/\∃a',(PS a'/\_=qii w (l.drop (j+1)) a' (j+1))/\At (T27 l (j+1)) (h27 c k i w a') (qsf 22 r.st))\/(r.x ≠ .normal/\qvl l _ r)))
  by_cases he:e=0
  .subst he
   cases b with
   | true =>
    cases hd:difP w q with
    | true =>
     rw[hd]at e2
     simp[qvl,T27,zys,L27_0,hj,hj',e1,e2,wk,hf.ne]
    | false =>
     rw[hd]at e2
     simp[T27,L27_0,hj,hj',e1,e2,wk,hf.ne]
     exact⟨q.1,q.2,⟨hs,rfl⟩,by simp⟩
   | false=>simp[qvl,T27,zys,L27_0,hj,hj',e1,e2,wk,hf.ne]
  .have heb:(e==0)=false:=by simpa using he
   simp[qvl,T27,zys,L27_0,hj,hj',e1,he,heb,wk,hf.ne]
 .rintro p f hf ⟨hp,hg⟩
  rw[List.drop_length]at hg
  simp only[qii]at hg
  rw[hg]
  refine(?_:∃r,ev pg (.code L27_0 ⟨fill f 0 (T27 l l.length),h27 c k i w p⟩)=some r/\r.x ≠ .normal/\qvl l _ r)
  simp[qvl,T27,L27_0,hf.ne]
theorem ev27(c:Ct)(hs:c.small=true)(k i:Int)(l:List Evn):ev pg (.call (.fn 27 [] []) [c.v,fv k i,evs l] [])=some { v:=.tup [num (q3g c k i l).1,.bool (q3g c k i l).2.1,num (q3g c k i l).2.2],st:=⟨[],[]⟩ }:=by
 have e1:=ev47 c hs k i
 unfold q3g
 by_cases hi:qkh c k i=0
 .obtain⟨hW,hof⟩:=qsv hs hi
  rw[hof,hi]at e1
  rw[if_pos hi]
  have hw:=hW.toWS
  generalize hwe:((c,qpi c k i):Ct×Ct)=w at *
  have e2:=ev64 w hw
  have hps:=quj hw
  have e3:=ev65 w hw _ hps
  have hlp:=fun hl st=>jhc c k i w hw l hl _ hps (st:=st)
  unfold zdu at e2
  generalize qcn w=y at *
  obtain⟨q,b,e⟩:=y
  simp only at *
  rw[qaa,pg27]
  by_cases he:e=0
  .subst he
   by_cases h4:4096<l.length
   .have h4':(4096:Int)<l.length:=by omega
    simp[ir27,e1,e2,h4,h4']
   .have h4':¬(4096:Int)<l.length:=by omega
    cases b with
    | true =>
     cases hd:difP w q with
     | true =>
      rw[hd]at e3
      simp[ir27,e1,e2,e3,h4,h4']
     | false =>
      rw[hd]at e3
      simp[ir27,e1,e2,e3,h4,h4',qah]
      generalize hr:ev pg (.code (.going _ L27_0) _)=o
      obtain⟨r,rfl,hQ⟩:∃r,o=some r/\_:=by rw[<-hr];exact hlp (by omega) _ (by simp[T27])
      clear hr hlp
      generalize qii w l q 0=z at *
      rcases hQ with⟨f,H,hf,rfl⟩ | ⟨hz,f,H,hf,rfl⟩
      .simp[zys]
      .simp[T27,hz]
    | false=>simp[ir27,e1,e2,h4,h4']
  .have heb:(e==0)=false:=by simpa using he
   simp[ir27,e1,e2,he,heb]
 .have hb:(qkh c k i==0)=false:=by simpa using hi
  rw[if_neg hi]
  generalize ofW c k i=w at *
  generalize qkh c k i=e at *
  rw[qaa,pg27]
  simp[ir27,e1,hi,hb]
abbrev zzs(c:Ct)(k i:Int)(d:Ct)(p:Ste×Ste):H:=[⟨0,.box c.cells⟩,⟨0,.box [num k,num i]⟩,o0,o0,o0,o0,⟨0,.box d.cells⟩,o0,o0,o0,o0,o0,o0,o0,o0,o0,o0,⟨0,.box (qbw p)⟩]
def zca(l:List Evn)(j:Nat):Tm:=[none,none,some (evs l),bN 0,bN 1,none,nN 0,some (.bool false),nN 0,bN 6,none,bN 17,none,nN j]++zN 78
def zez(x:Int×Bool×Int):Tm:=[none,none,none,none,none,none,some (num x.1),some (.bool x.2.1),some (num x.2.2)]++zN 83
def qpa(l:List Evn)(z:Int×Bool×Int)(r:R):Prop:=zet .ret (zez z) r\/(z=((l.length:Int),false,0)/\zet (.exit 0) (zca l l.length) r)
theorem jeq(c d:Ct)(k i:Int)(hw:Wld (c,d))(l:List Evn)(hl:l.length<=4096)(p0:Ste×Ste)(hp0:LieP (c,d) p0){st:St}(h0:At (zca l 0) (zzs c k i d p0) st) :
  ∃r,ev pg (.code (.going 18 L28_0) st)=some r/\qpa l (qii (c,d) l p0 0) r:=by
 refine qct (α:=Ste×Ste) l.length (fun j _=>zca l j) (fun _ p=>zzs c k i d p) (fun j p=>LieP (c,d) p/\qii (c,d) l p0 0=qii (c,d) (l.drop j) p j) _ ?_ ?_ p0 ⟨hp0,by simp⟩ h0
 .rintro j p f hf hj ⟨hp,hg⟩
  have hj':(j:Int)<l.length:=by omega
  have wk:=qbb (k:=j) (by omega)
  have e0:=ev69 c p.1 hw.g hp.small.g l[j]
  have e1:=ev70 (c,d) p hp l[j]
  have hlie:=q1n hw.toWS (p:=p) (x:=l[j])
  have e2:=fun h1 h2=>ev68 _ (hlie h1 h2).small ((hlie h1 h2).lens hw).1 ((hlie h1 h2).lens hw).2
  have hdd:=fun h1 h2=>(hlie h1 h2).dif
  have hne:(qhs c p.1 l[j]).2.2=(qsc (c,d) p l[j]).2.2:=by
   unfold qsc
   split
   .assumption
   .rfl
  rw[jL hj]at hg
  simp only[qii]at hg
  rw[hg]
  unfold zdu at e1
  unfold q7b at e0
  rw[hne]at e0
  generalize qsc (c,d) p l[j]=y at *
  generalize qhs c p.1 l[j]=u at *
  obtain⟨q,b,e⟩:=y
  simp only at *
  refine(?_:∃r,ev pg (.code L28_0 ⟨fill f 0 (zca l j),zzs c k i d p⟩)=some r/\((r.x=.normal/\∃a',(LieP (c,d) a'/\_=qii (c,d) (l.drop (j+1)) a' (j+1))/\At (zca l (j+1)) (zzs c k i d a') (qsf 18 r.st))\/(r.x ≠ .normal/\qpa l _ r)))
  by_cases he:e=0
  .subst he
   cases b with
   | true =>
    have e3:=e2 rfl rfl
    have hs:=hlie rfl rfl
    rw[hdd rfl rfl]
    clear e2 hlie hdd
    cases hd:zps q with
    | true =>
     rw[hd]at e3
     simp[qpa,zca,zez,L28_0,hj,hj',e0,e1,e3,wk,hf.ne]
    | false =>
     rw[hd]at e3
     simp[zca,L28_0,hj,hj',e0,e1,e3,wk,hf.ne]
     exact⟨q.1,q.2,⟨hs,rfl⟩,by simp⟩
   | false =>
    clear e2 hlie hdd
    simp[qpa,zca,zez,L28_0,hj,hj',e0,e1,wk,hf.ne]
  .have heb:(e==0)=false:=by simpa using he
   clear e2 hlie hdd
   simp[qpa,zca,zez,L28_0,hj,hj',e0,he,heb,wk,hf.ne]
 .rintro p f hf ⟨hp,hg⟩
  rw[List.drop_length]at hg
  simp only[qii]at hg
  rw[hg]
  refine(?_:∃r,ev pg (.code L28_0 ⟨fill f 0 (zca l l.length),zzs c k i d p⟩)=some r/\r.x ≠ .normal/\qpa l _ r)
  simp[qpa,zca,L28_0,hf.ne]
theorem ev28(c:Ct)(hs:c.small=true)(k i:Int)(l:List Evn):ev pg (.call (.fn 28 [] []) [c.v,fv k i,evs l] [])=some { v:=.tup [num (q3g c k i l).1,.bool (q3g c k i l).2.1,num (q3g c k i l).2.2],st:=⟨[],[]⟩ }:=by
 have e1:=ev59 c hs k i
 unfold q3g
 by_cases hi:qkh c k i=0
 .obtain⟨hW,hof⟩:=qsv hs hi
  rw[hi]at e1
  rw[if_pos hi]
  generalize qpi c k i=d at *
  have e2:=ev67 (c,d) hW.toWS
  have hlie:=qon hW.toWS
  have e3:=fun h1 h2=>ev68 _ (hlie h1 h2).small ((hlie h1 h2).lens hW).1 ((hlie h1 h2).lens hW).2
  have hdd:=fun h1 h2=>(hlie h1 h2).dif
  have hlp:=fun h1 h2 hl st=>jeq c d k i hW l hl _ (hlie h1 h2) (st:=st)
  unfold zdu at e2
  generalize qcn (c,d)=y at *
  obtain⟨q,b,e⟩:=y
  simp only at *
  rw[qaa,pg28]
  by_cases he:e=0
  .subst he
   by_cases h4:4096<l.length
   .have h4':(4096:Int)<l.length:=by omega
    clear e3 hlp hdd hlie
    simp[ir28,e1,e2,h4,h4']
   .have h4':¬(4096:Int)<l.length:=by omega
    cases b with
    | true =>
     replace e3:=e3 rfl rfl
     replace hlp:=hlp rfl rfl (by omega)
     rw[hdd rfl rfl]
     clear hdd hlie
     cases hd:zps q with
     | true =>
      rw[hd]at e3
      simp[ir28,e1,e2,e3,h4,h4']
     | false =>
      rw[hd]at e3
      simp[ir28,e1,e2,e3,h4,h4',qah]
      generalize hr:ev pg (.code (.going _ L28_0) _)=o
      obtain⟨r,rfl,hQ⟩:∃r,o=some r/\_:=by rw[<-hr];exact hlp _ (by simp[zca])
      clear hr hlp
      generalize qii (c,d) l q 0=z at *
      rcases hQ with⟨f,H,hf,rfl⟩ | ⟨hz,f,H,hf,rfl⟩
      .simp[zez]
      .simp[zca,hz]
    | false =>
     clear e3 hlp hdd hlie
     simp[ir28,e1,e2,h4,h4']
  .have heb:(e==0)=false:=by simpa using he
   clear e3 hlp hdd hlie
   simp[ir28,e1,e2,he,heb]
 .have hb:(qkh c k i==0)=false:=by simpa using hi
  rw[if_neg hi]
  generalize qpi c k i=w at *
  generalize qkh c k i=e at *
  rw[qaa,pg28]
  simp[ir28,e1,hi,hb]
end Go.Proofs.YtbepbclaoohngaaGreat
