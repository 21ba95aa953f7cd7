/- Middle, by the program and by the reference. The law SimulateMiddles, in Am: it returns true. -/
import Derived.Test.YtddeacahiilikaaGreatMMi2
import Derived.KernelRfl
set_option linter.all false
namespace Go.Proofs.YtddeacahiilikaaGreat
open Go Go.Am Go.Proofs
set_option maxRecDepth 100000
set_option maxHeartbeats 4000000
@[simp] theorem zys(l:List Trv):qto (l.map Trv.row) (l.map Trv.row)=true:=qfu (fun x=>by simp) l
@[simp] theorem zyt(l:List (Int×Int)):qto (l.map zif) (l.map zif)=true:=qfu (fun x=>by simp) l
theorem zbg{a b:Int}(h:qiy a b=0):1<=a/\a<=b/\b<=1000000:=by
 unfold qiy at h
 split at h
 .rename_i h1
  split at h
  .cases h
  .unfold qjk at h1
   split at h1
   .rename_i h2
    split at h1
    .cases h1
    .simp only[qtg,jE,jW]at h2
     omega
   .cases h1
 .rename_i h1;exact absurd h h1
theorem zds:∀{l:List Trv},qln l=0->∀x∈l,(1<=x.a/\x.a<=x.b/\x.b<=1000000)/\(1<=x.c/\x.c<=x.d/\x.d<=1000000)
 | [],_,_,h=>by cases h
 | y :: l,h,x,hx=>by
  unfold qln at h
  split at h
  .rename_i hb
   rcases List.mem_cons.1 hx with rfl | hx
   .unfold Trv.bad at hb
    split at hb
    .rename_i h1;exact⟨zbg h1,zbg hb⟩
    .rename_i h1;exact absurd hb h1
   .exact zds h x hx
  .rename_i hb;exact absurd h hb
theorem qxg{l:List Trv}(h:qda l=0):l.length<=6/\∀x∈l,(1<=x.a/\x.a<=x.b/\x.b<=1000000)/\(1<=x.c/\x.c<=x.d/\x.d<=1000000):=by
 unfold qda at h
 split at h
 .cases h
 .exact⟨by omega,zds h⟩
def qme(x:Trv):Int×Int:=((x.a+x.b).tdiv 2,(x.c+x.d).tdiv 2)
theorem qws{a b:Int}(h:1<=a/\a<=b/\b<=1000000):0<=(a+b).tdiv 2/\(a+b).tdiv 2<=2000000:=by
 have h1:=Int.tdiv_nonneg (a:=a+b) (b:=2) (by omega) (by omega)
 have h2:=Int.tdiv_le_self 2 (a:=a+b) (by omega)
 omega
def zCt:Ct:=⟨0,[],[],[],[]⟩
def zhe(c:Ct)(l:List Trv):Int:=if c.check≠0 then c.check else if qda l≠0 then qda l else if(l.length:Int)≠c.act then 8 else 0
def zeh(c:Ct)(l:List Trv):Mch:=if zhe c l=0 then⟨c,l.map qme⟩else⟨zCt,[]⟩
abbrev q5w(c:Ct)(l:List Trv)(D:List (Int×Int))(g w:Nat):H:=[⟨0,.box c.cells⟩,⟨0,.box [q0x l]⟩,oz,oz,oz,oz,oz,⟨0,.box [num 0,.sl 2 0 0 0 0,.sl 3 0 0 0 0,.sl 4 0 0 0 0,.sl 5 0 0 0 0,.sl 6 0 0 0 0]⟩,oz,oz,oz,oz,oz,
 ⟨0,.box [num c.act,.imm (c.inputs.map qqm),.imm (c.signals.map Sg.row),qck c.plus,qck c.minus,.sl 14 g w 0 D.length]⟩,⟨g,.arr w (D.map zif)⟩]
def qtm(l:List Trv)(k:Nat):Tm:=[none,none,some (.bptr 0 0),some (.bptr 1 0),some (.bptr 7 0),some (num 0),none,none,some (.bptr 13 0)]++List.replicate 26 none++[some (q0x l),some (num l.length),some (num k)]++List.replicate 27 none
theorem zya(c:Ct)(l:List Trv)(hl:qda l=0){st:St}(h0:At (qtm l 0) (q5w c l [] 0 0) st) :
  ∃r,ev pg (.code (.going 15 L19_0) st)=some r/\∃g w,(w=2\/w=0)/\qai (.exit 0) (qtm l l.length) (q5w c l (l.map qme) g w) r:=by
 obtain⟨n1,n2⟩:=qxg hl
 have hend:l.map qme=(l.take l.length).map qme:=by rw[List.take_length]
 rw[hend]
 refine qco (α:=Nat×Nat) l.length (fun k _=>qtm l k) (fun k a=>q5w c l ((l.take k).map qme) a.1 a.2) (fun _ a=>a.2=2\/a.2=0) _ ?_ ?_ (0,0) (.inr rfl) h0
 .rintro k ⟨g,w⟩ f hf hk hw
  have hk':(k:Int)<l.length:=by omega
  have wk:=qab (n:=(k:Int)+1) (by omega) (by omega)
  obtain⟨b1,b2⟩:=n2 _ (jH hk)
  have c1:=qws b1
  have c2:=qws b2
  have w1:=qab (n:=l[k].a+l[k].b) (by omega) (by omega)
  have w2:=qab (n:=l[k].c+l[k].d) (by omega) (by omega)
  have w3:=qab (n:=(l[k].a+l[k].b).tdiv 2) (by omega) (by omega)
  have w4:=qab (n:=(l[k].c+l[k].d).tdiv 2) (by omega) (by omega)
  have ht:(l.take (k+1)).map qme=(l.take k).map qme++[qme l[k]]:=by
   rw[qtf hk]
   simp only[List.map_append,List.map_cons,List.map_nil]
  have hl2:((l.take k).map qme).length=k:=by rw[List.length_map];exact qte (by omega)
  rw[ht]
  generalize (l.take k).map qme=D at *
  have hap:(D.length+1)*16<=140737488355328:=by omega
  refine(?_:∃st,ev pg (.code L19_0 ⟨fill f 0 (qtm l k),q5w c l D g w⟩)=some { st:=st }/\At (qtm l (k+1)) (q5w c l (D++[qme l[k]]) (g+1) 2) (qpl 15 st)).elim fun st h=>⟨_,h.1,.inl ⟨rfl,(g+1,2),.inl rfl,h.2⟩⟩
  rcases hw with h | h<;>(simp only at h;subst h;simp[qaa,exT,qad,qtm,L19_0,hk,hk',wk,w1,w2,w3,w4,hap,qme,hf.ne])
 .rintro⟨g,w⟩ f hf hw
  refine(?_:∃r,ev pg (.code L19_0 ⟨fill f 0 (qtm l l.length),q5w c l ((l.take l.length).map qme) g w⟩)=some r/\r.x ≠ .normal/\qai (.exit 0) (qtm l l.length) (q5w c l ((l.take l.length).map qme) g w) r).imp fun r h=>⟨h.1,h.2.1,g,w,hw,h.2.2⟩
  generalize (l.take l.length).map qme=D at *
  simp[qtm,L19_0,hf.ne]
theorem qos(c:Ct)(l:List Trv):(c.check≠0/\zhe c l=c.check)\/(c.check=0/\qda l≠0/\zhe c l=qda l)\/(c.check=0/\qda l=0/\(l.length:Int)≠c.act/\zhe c l=8)\/(c.check=0/\qda l=0/\(l.length:Int)=c.act/\zhe c l=0):=by
 unfold zhe
 by_cases h1:c.check=0
 .by_cases h2:qda l=0
  .by_cases h3:(l.length:Int)=c.act
   .exact .inr (.inr (.inr ⟨h1,h2,h3,by simp[h1,h2,h3]⟩))
   .exact .inr (.inr (.inl ⟨h1,h2,h3,by simp[h1,h2,h3]⟩))
  .exact .inr (.inl ⟨h1,h2,by simp[h1,h2]⟩)
 .exact .inl ⟨h1,by simp[h1]⟩
theorem ev19(c:Ct)(hs:c.small=true)(l:List Trv):ev pg (.call (.fn 19 [] []) [c.v,.agg [q0x l]] [])=some { v:=.tup [(zeh c l).v,num (zhe c l)],st:=⟨[],[]⟩ }:=by
 have e43:=ev43 c hs
 have e52:=ev52 l
 have e57:=ev57 c hs
 have hlp:=fun h st=>zya c l h (st:=st)
 rw[qac,pg19]
 unfold zeh
 rcases qos c l with⟨h1,he⟩ | ⟨h1,h2,he⟩ | ⟨h1,h2,h3,he⟩ | ⟨h1,h2,h3,he⟩
 .have hb:(c.check==0)=false:=by simpa using h1
  rw[he,if_neg h1]
  generalize c.check=e at *
  simp[ir19,e43,h1,hb,zCt]
 .have hb:(qda l==0)=false:=by simpa using h2
  rw[he,if_neg h2]
  rw[h1]at e43
  generalize qda l=e at *
  simp[ir19,e43,e52,h2,hb,zCt]
 .have hb:((l.length:Int)==c.act)=false:=by simpa using h3
  rw[he,if_neg (by decide)]
  rw[h1]at e43
  rw[h2]at e52
  simp[ir19,e43,e52,h3,hb,zCt]
 .rw[he,if_pos rfl]
  rw[h1]at e43
  rw[h2]at e52
  have hlp:=hlp h2
  generalize l.map qme=D at *
  simp[ir19,e43,e52,e57,h3,qaf]
  generalize hr:ev pg (.code (.going _ L19_0) _)=o
  obtain⟨r,rfl,g,w,hw,f,hf,rfl⟩:∃r,o=some r/\_:=by rw[<-hr];exact hlp _ (by simp[qtm,h3])
  clear hr
  simp[qtm]
def zec(k:Nat):Tm:=[none,none,some (.bptr 0 0),some (.bptr 1 0),some (.bptr 7 0),some (num 0),none,none,some (.bptr 13 0),some (num k)]++List.replicate 61 none
theorem z8b(c:Ct)(l:List Trv)(hl:qda l=0){st:St}(h0:At (zec 0) (q5w c l [] 0 0) st) :
  ∃r,ev pg (.code (.going 15 L20_0) st)=some r/\∃g w,(w=2\/w=0)/\qai (.exit 0) (zec l.length) (q5w c l (l.map qme) g w) r:=by
 obtain⟨n1,n2⟩:=qxg hl
 have hend:l.map qme=(l.take l.length).map qme:=by rw[List.take_length]
 rw[hend]
 refine qco (α:=Nat×Nat) l.length (fun k _=>zec k) (fun k a=>q5w c l ((l.take k).map qme) a.1 a.2) (fun _ a=>a.2=2\/a.2=0) _ ?_ ?_ (0,0) (.inr rfl) h0
 .rintro k ⟨g,w⟩ f hf hk hw
  have hk':(k:Int)<l.length:=by omega
  have wk:=qab (n:=(k:Int)+1) (by omega) (by omega)
  obtain⟨b1,b2⟩:=n2 _ (jH hk)
  have c1:=qws b1
  have c2:=qws b2
  have w1:=qab (n:=l[k].a+l[k].b) (by omega) (by omega)
  have w2:=qab (n:=l[k].c+l[k].d) (by omega) (by omega)
  have w3:=qab (n:=(l[k].a+l[k].b).tdiv 2) (by omega) (by omega)
  have w4:=qab (n:=(l[k].c+l[k].d).tdiv 2) (by omega) (by omega)
  have ht:(l.take (k+1)).map qme=(l.take k).map qme++[qme l[k]]:=by
   rw[qtf hk]
   simp only[List.map_append,List.map_cons,List.map_nil]
  have hl2:((l.take k).map qme).length=k:=by rw[List.length_map];exact qte (by omega)
  rw[ht]
  generalize (l.take k).map qme=D at *
  have hap:(D.length+1)*16<=140737488355328:=by omega
  refine(?_:∃st,ev pg (.code L20_0 ⟨fill f 0 (zec k),q5w c l D g w⟩)=some { st:=st }/\At (zec (k+1)) (q5w c l (D++[qme l[k]]) (g+1) 2) (qpl 15 st)).elim fun st h=>⟨_,h.1,.inl ⟨rfl,(g+1,2),.inl rfl,h.2⟩⟩
  rcases hw with h | h<;>(simp only at h;subst h;simp[qaa,exT,qad,zec,L20_0,hk,hk',wk,w1,w2,w3,w4,hap,qme,hf.ne])
 .rintro⟨g,w⟩ f hf hw
  refine(?_:∃r,ev pg (.code L20_0 ⟨fill f 0 (zec l.length),q5w c l ((l.take l.length).map qme) g w⟩)=some r/\r.x ≠ .normal/\qai (.exit 0) (zec l.length) (q5w c l ((l.take l.length).map qme) g w) r).imp fun r h=>⟨h.1,h.2.1,g,w,hw,h.2.2⟩
  generalize (l.take l.length).map qme=D at *
  simp[zec,L20_0,hf.ne]
theorem ev20(c:Ct)(hs:c.small=true)(l:List Trv):ev pg (.call (.fn 20 [] []) [c.v,.agg [q0x l]] [])=some { v:=.tup [(zeh c l).v,num (zhe c l)],st:=⟨[],[]⟩ }:=by
 have e58:=ev58 c hs
 have e55:=ev55 l
 have hlp:=fun h st=>z8b c l h (st:=st)
 rw[qac,pg20]
 unfold zeh
 rcases qos c l with⟨h1,he⟩ | ⟨h1,h2,he⟩ | ⟨h1,h2,h3,he⟩ | ⟨h1,h2,h3,he⟩
 .have hb:(c.check==0)=false:=by simpa using h1
  rw[he,if_neg h1]
  generalize c.check=e at *
  simp[ir20,e58,h1,hb,zCt]
 .have hb:(qda l==0)=false:=by simpa using h2
  rw[he,if_neg h2]
  rw[h1]at e58
  generalize qda l=e at *
  simp[ir20,e58,e55,h2,hb,zCt]
 .have hb:((l.length:Int)==c.act)=false:=by simpa using h3
  rw[he,if_neg (by decide)]
  rw[h1]at e58
  rw[h2]at e55
  simp[ir20,e58,e55,h3,hb,zCt]
 .rw[he,if_pos rfl]
  rw[h1]at e58
  rw[h2]at e55
  have hlp:=hlp h2
  generalize l.map qme=D at *
  simp[ir20,e58,e55,h3,qaf]
  generalize hr:ev pg (.code (.going _ L20_0) _)=o
  obtain⟨r,rfl,g,w,hw,f,hf,rfl⟩:∃r,o=some r/\_:=by rw[<-hr];exact hlp _ (by simp[zec])
  clear hr
  simp[zec]
def yT4(y:Mch)(k:Nat):Tm:=[none,none,some (.bptr 0 0),some (.bptr 1 0),some (.bool false),none,none,none,none,some (.bptr 7 0),none,some (.bptr 13 0)]++List.replicate 63 none++[none,some (num y.ts.length),some (num k)]++List.replicate 22 none
abbrev yh4(l:List Trv)(m y:Mch):H:=[⟨0,.box [q0x l]⟩,⟨0,.box m.cells⟩,oz,oz,oz,oz,oz,⟨0,.box y.cells⟩,oz,oz,oz,oz,oz,⟨0,.box y.cells⟩]
theorem z9r(l:List Trv)(m y:Mch)(hy:y.ts.length<=4096){st:St}(h0:At (yT4 y 0) (yh4 l m y) st):∃r,ev pg (.code (.going 14 L4_0) st)=some r/\qai (.exit 0) (yT4 y y.ts.length) (yh4 l m y) r:=by
 refine qfd y.ts.length (yT4 y) (fun _=>yh4 l m y) _ ?_ ?_ h0
 .intro k f hf hk
  have hk':(k:Int)<y.ts.length:=by omega
  have wk:=qab (n:=(k:Int)+1) (by omega) (by omega)
  simp[qaa,exT,qad,yT4,L4_0,hk,hk',wk,hf.ne]
 .intro f hf
  simp[yT4,L4_0,hf.ne]
theorem q7k{c:Ct}(hs:c.small=true)(l:List Trv):(zeh c l).c.small=true/\(zeh c l).ts.length<=4096:=by
 unfold zeh
 rcases qos c l with⟨h1,he⟩ | ⟨h1,h2,he⟩ | ⟨h1,h2,h3,he⟩ | ⟨h1,h2,h3,he⟩
 .rw[he,if_neg h1];exact⟨by decide,by simp⟩
 .rw[he,if_neg h2];exact⟨by decide,by simp⟩
 .rw[he,if_neg (by decide)];exact⟨by decide,by simp⟩
 .rw[he,if_pos rfl]
  have:=(qxg h2).1
  exact⟨hs,by simp only[List.length_map];omega⟩
theorem ev4(l:List Trv)(m:Mch)(hm:m.ts.length*16<=140737488355328):ev pg (.call (.fn 4 [] []) [.agg [q0x l],m.v] [])=some { v:=.bool true,st:=⟨[],[]⟩ }:=by
 have e15:=ev15 m hm
 have e14:=ev14 m
 have e16:=ev16
 rw[qac,pg4]
 cases hf:m.few with
 | false =>
  rw[hf]at e14
  simp[ir4,e15,e14,e16]
 | true =>
  rw[hf]at e14
  by_cases hl:40<l.length
  .have hl':40<(l.length:Int):=by omega
   simp[ir4,e15,e14,e16,hl']
  .have hl':¬40<(l.length:Int):=by omega
   obtain⟨f1,f2⟩:m.c.small=true/\m.ts.length<=40:=by
    unfold Mch.few at hf
    rw[jE,jW]at hf
    exact⟨zax hf.1,hf.2⟩
   have e17:=ev17 l m f1 (by omega)
   have e18:=ev18 l m f1 (by omega)
   have e19:=ev19 m.c f1 l
   have e20:=ev20 m.c f1 l
   obtain⟨s1,s2⟩:=q7k f1 l
   have e21:=ev21 (zeh m.c l).c (zeh m.c l).c s1 s1
   rw[zde.2 rfl]at e21
   generalize zeh m.c l=y at *
   generalize zhe m.c l=e at *
   generalize zdx l m=v at *
   generalize qip l m=e' at *
   have hlp:=fun st=>z9r l m y s2 (st:=st)
   simp[qaa,exT,qad,ir4,e15,e14,e16,e17,e18,e19,e20,hl',qaf]
   generalize hr:ev pg (.code (.going _ L4_0) _)=o
   obtain⟨r,rfl,f,hf,rfl⟩:∃r,o=some r/\_:=by rw[<-hr];exact hlp _ (by simp[yT4])
   clear hr
   simp[yT4,e21,e16]
end Go.Proofs.YtddeacahiilikaaGreat
