/- Courses in time, by the program: the loop. -/
import Derived.Test.YtddeacahiilikaaGreatMSi11
import Derived.KernelRfl
set_option linter.all false
namespace Go.Proofs.YtddeacahiilikaaGreat
open Go Go.Am Go.Proofs
set_option maxRecDepth 100000
set_option maxHeartbeats 4000000
theorem q7v(l:List Prs):qhp 3 (l.map Prs.row)=true:=by simp[qhp]
theorem Out13.of{m:Mch}{s0:Ste}{u:Int}{Z:Option (Int ⊕ Lg)}{e:Int}{st:St}(hz:Z=some (.inl e))(q:Nat)(hh:Nil7 st.h q)(hfit:Am.fits (qtl e) st.s):Out13 m s0 u Z { x:=.ret,st:=st }:=by
 obtain⟨f,hf,hs⟩:=qmx 0 hfit
 refine .bad e hz st.h q hh ⟨f,hf,?_⟩
 rw[<-hs]
theorem z7w{m:Mch}{s0:Ste}{u:Int}(hu:u<=1000000){Z:Option (Int ⊕ Lg)}{L:Nat}(hL:L<=4096){st:St}(a0:G13)(g0:a0.Ok m s0 u Z L 0)(h0:At (a0.T m u) (a0.H m s0) st):∃r,ev pg (.code (.goingK 33 15 L28_0) st)=some r/\Out13 m s0 u Z r:=by
 refine zhc (4097+L) (G13.T m u) (G13.H m s0) (G13.Ok m s0 u Z L) _ ?_ ?_ a0 g0 h0
 .rintro k a f hf hk hG
  have cont:∀a',G13.Ok m s0 u Z L (k+1) a'->(∃st,ev pg (.code L28_0 ⟨fill f 0 (a.T m u),a.H m s0⟩)=some { st:=st }/\At (a'.T m u) (a'.H m s0) (q4b 33 15 st))->∃r,ev pg (.code L28_0 ⟨fill f 0 (a.T m u),a.H m s0⟩)=some r/\((r.x=.normal/\∃a',G13.Ok m s0 u Z L (k+1) a'/\At (a'.T m u) (a'.H m s0) (q4b 33 15 r.st))\/(r.x ≠ .normal/\Out13 m s0 u Z r)) :=
   fun a' g ⟨st,h1,h2⟩=>⟨_,h1,.inl ⟨rfl,a',g,h2⟩⟩
  have fin:(∃r,ev pg (.code L28_0 ⟨fill f 0 (a.T m u),a.H m s0⟩)=some r/\r.x ≠ .normal/\Out13 m s0 u Z r)->∃r,ev pg (.code L28_0 ⟨fill f 0 (a.T m u),a.H m s0⟩)=some r/\((r.x=.normal/\∃a',G13.Ok m s0 u Z L (k+1) a'/\At (a'.T m u) (a'.H m s0) (q4b 33 15 r.st))\/(r.x ≠ .normal/\Out13 m s0 u Z r)) :=
   fun⟨r,h1,h2,h3⟩=>⟨r,h1,.inr ⟨h2,h3⟩⟩
  obtain⟨c,En,C,ve,vt,g,w,b,d0⟩:=a
  obtain⟨hok,hve,hvt,hw,hlin,hz,hmu,hen⟩:=hG
  simp only at hok hve hvt hw hlin hz hmu hen
  obtain⟨n,hn⟩:∃n,4097+L-k=n+1:=⟨4097+L-k-1,by omega⟩
  rw[hn]at hz
  have hn2:4097+L-(k+1)=n:=by omega
  unfold goS at hz
  cases hnx:nxD m c with
  | none =>
   rw[hnx]at hz
   simp only at hz
   refine fin ?_
   have key:∀r,qai (.exit 0) (G13.T m u ⟨c,En,C,ve,vt,g,w,b,d0⟩) (G13.H m s0 ⟨c,En,C,ve,vt,g,w,b,d0⟩) r->Out13 m s0 u Z r:=fun r he=>.ok ⟨c,En,C,ve,vt,g,w,b,d0⟩ hz.symm hw he
   simp only[G13.T,G13.H,G13.d,G13.X,hnx,Option.isSome_none,Option.getD_none]at key ⊢
   cases b with
   | true =>
    simp[qqi,L28_0,hf.ne]
    exact key _ (by simp[qqi,hf.ne])
   | false =>
    simp[qqi,L28_0,hf.ne]
    exact key _ (by simp[qqi,hf.ne])
  | some d =>
   rw[hnx]at hz
   simp only at hz
   have hdm:=qsc hnx
   obtain⟨⟨hd1,hd2⟩,hdk⟩:=hok.due d hdm
   by_cases hut:u<d.t
   .rw[if_pos hut]at hz
    refine fin ?_
    have key:∀r,qai (.exit 0) (G13.T m u ⟨c,En,C,ve,vt,g,w,b,d0⟩) (G13.H m s0 ⟨c,En,C,ve,vt,g,w,b,d0⟩) r->Out13 m s0 u Z r:=fun r he=>.ok ⟨c,En,C,ve,vt,g,w,b,d0⟩ hz.symm hw he
    have hut2:¬d.t<=u:=by omega
    simp only[G13.T,G13.H,G13.d,G13.X,hnx,Option.isSome_some,Option.getD_some]at key ⊢
    cases b with
    | true =>
     simp[qqi,L28_0,hut2,hf.ne]
     exact key _ (by simp[qqi,hf.ne])
    | false =>
     simp[qqi,L28_0,hut2,hf.ne]
     exact key _ (by simp[qqi,hf.ne])
   .rw[if_neg hut]at hz
    have hut2:d.t<=u:=by omega
    have hub:d.t<=1000000:=by omega
    by_cases hk2:d.e.kind=2
    .obtain⟨p,r,hlp⟩:=q2f hdm hk2
     obtain⟨dt,⟨dk,di,dv⟩⟩:=d
     simp only at hk2 hdk hut hut2 hub hd1 hd2 hz
     subst hk2
     obtain⟨i,rfl⟩:∃i:Nat,di=i:=⟨di.toNat,by omega⟩
     have hi:i<c.s.inputs.length:=by have:=hok.lie.rdy.shp.i;omega
     have hsz:qhp 3 (p.row :: r.map Prs.row)=true:=q7v (p :: r)
     have htk:List.take r.length (r.map Prs.row)=r.map Prs.row:=kA (by simp)
     have hl1:=hve.low (k:=33) (by omega)
     have hl2:=hvt.low (k:=33) (by omega)
     have hsm:zsn c ⟨dt,⟨2,i,dv⟩⟩=decide (c.s.inputs[i]=dv):=by simp[zsn,hi]
     rw[hsm]at hz
     have hrl:q7z c ⟨dt,⟨2,i,dv⟩⟩=r:=by simp[q7z,hlp]
     have hmu2:k+(r.length+1)<=En.length+L:=by rw[hlp]at hmu;simpa using hmu
     by_cases hns:c.s.inputs[i]=dv
     .rw[if_pos ⟨rfl,by simpa using hns⟩]at hz
      have e40:=fun g w En C D t=>z4x (s0:=s0) hok.drop hve hvt g w En C D t
      have a1:=fun D0:Due=>G13.Ok.mk (m:=m) (s0:=s0) (u:=u) (Z:=Z) (L:=L) (k:=k+1) (a:=⟨{ c with l:=c.l.tail },En,C,ve,vt,g,w,false,D0⟩) hok.drop hve hvt hw hlin (by simp only;rw[hn2];exact hz) (by simp only[hlp,List.tail_cons];omega) hen
      cases b with
      | true =>
       refine cont _ (a1 ⟨dt,⟨2,i,dv⟩⟩) ?_
       have e40a:=e40 g w En C ⟨dt,⟨2,i,dv⟩⟩ [⟨dt,⟨2,i,dv⟩⟩]
       simp only[hlp,List.tail_cons,List.map_nil,List.append_nil,List.map_cons,List.cons_append,List.nil_append]at e40a
       simp only[G13.T,G13.H,G13.d,G13.X,hnx,hlp,List.tail_cons,Option.isSome_some,Option.getD_some]
       generalize (nxD m _).isSome=SM at *
       generalize (nxD m _).getD q8j=ND at *
       simp[qqi,L28_0,hut2,hsz,htk,hi,hns,hl1,hl2,e40a,hf.ne]
      | false =>
       refine cont _ (a1 d0) ?_
       have e40a:=e40 g w En C d0 [⟨dt,⟨2,i,dv⟩⟩,⟨dt,⟨2,i,dv⟩⟩]
       simp only[hlp,List.tail_cons,List.map_nil,List.append_nil,List.map_cons,List.cons_append,List.nil_append]at e40a
       simp only[G13.T,G13.H,G13.d,G13.X,hnx,hlp,List.tail_cons,Option.isSome_some,Option.getD_some]
       generalize (nxD m _).isSome=SM at *
       generalize (nxD m _).getD q8j=ND at *
       simp[qqi,L28_0,hut2,hsz,htk,hi,hns,hl1,hl2,e40a,hf.ne]
     .rw[if_neg (fun h=>hns (by simpa using h.2))]at hz
      have hnsb:(c.s.inputs[i]==dv)=false:=by simpa using hns
      by_cases h4:En.length=4096
      .rw[if_pos h4]at hz
       have h4':(En.length:Int)=4096:=by omega
       refine fin ?_
       simp only[G13.T,G13.H,G13.d,G13.X,hnx,hlp,Option.isSome_some,Option.getD_some]
       cases b with
       | true =>
        simp[qqi,L28_0,hut2,hsz,htk,hi,hns,hnsb,h4',hf.ne]
        exact .of hz.symm 33 ⟨rfl,rfl,rfl,rfl,rfl,rfl,rfl,rfl⟩ (by simp[qtl,hf.ne])
       | false =>
        simp[qqi,L28_0,hut2,hsz,htk,hi,hns,hnsb,h4',hf.ne]
        exact .of hz.symm 34 ⟨rfl,rfl,rfl,rfl,rfl,rfl,rfl,rfl⟩ (by simp[qtl,hf.ne])
      .rw[if_neg h4]at hz
       have h4':¬(En.length:Int)=4096:=by omega
       by_cases he:(qax m.c c.s ⟨2,i,dv⟩).2.2=0
       .rw[if_pos he]at hz
        have hok':=hok.go hnx hub he
        have hcl:(goC m c ⟨dt,⟨2,i,dv⟩⟩).l=r:=hrl
        have e41:∀(D:Due) (t:List Due),ev pg (.call (.fn 78 [] []) [.bptr 17 0,Due.v ⟨dt,⟨2,i,dv⟩⟩] (qxv m s0 (qkb m c.s ve vt r) g w En C D++t.map fun x=>⟨0,.box x.row⟩))=some { v:=.tup [q5r (qgb c.s (qax m.c c.s ⟨2,i,dv⟩).1),qck (qax m.c c.s ⟨2,i,dv⟩).2.1,num 0],st:=⟨[],qxv m s0 (qkb m (goC m c ⟨dt,⟨2,i,dv⟩⟩).s (qck (goC m c ⟨dt,⟨2,i,dv⟩⟩).e) (qck (goC m c ⟨dt,⟨2,i,dv⟩⟩).t) (goC m c ⟨dt,⟨2,i,dv⟩⟩).l) g w En C D++t.map fun x=>⟨0,.box x.row⟩⟩ }:=fun D t=>by
         rw[zyv hok hve hvt g w En C D t r _,if_pos he,hcl]
         rfl
        have hcf:=qtz m.c c.s ⟨2,i,dv⟩
        have e42:=ev79 (qjv m.c) C (qax m.c c.s ⟨2,i,dv⟩).2.1 (by have:=hlin.len;have:=qoh hok.lie.rdy.mid;omega) (by have:=hcf.len;have:=qoh hok.lie.rdy.mid;omega) (fun x hx=>(jQ.1 hx).elim (hlin.b x) (hcf.b x))
        have hlin':=Lin.norm (qjv m.c) (C++(qax m.c c.s ⟨2,i,dv⟩).2.1)
        have e40:=fun g w En C D t=>z4x (s0:=s0) hok' (ve:=qck (goC m c ⟨dt,⟨2,i,dv⟩⟩).e) (vt:=qck (goC m c ⟨dt,⟨2,i,dv⟩⟩).t) (.inl rfl) (.inl rfl) g w En C D t
        have hap:(En.length+1)*56<=140737488355328:=by omega
        generalize goC m c ⟨dt,⟨2,i,dv⟩⟩=c' at *
        generalize qgb c.s (qax m.c c.s ⟨2,i,dv⟩).1=F at *
        generalize (qax m.c c.s ⟨2,i,dv⟩).2.1=cf at *
        generalize hC':norm (qjv m.c) (C++cf)=C' at *
        have a1:=fun D0:Due=>G13.Ok.mk (m:=m) (s0:=s0) (u:=u) (Z:=Z) (L:=L) (k:=k+1) (a:=⟨c',En++[⟨dt,⟨2,i,dv⟩,F⟩],C',qck c'.e,qck c'.t,g+1,5,false,D0⟩) hok' (.inl rfl) (.inl rfl) (.inl rfl) hlin' (by simp only;rw[hn2];exact hz) (by simp only[jF,List.length_cons,List.length_nil,hcl];omega) (by simp only[jF,List.length_cons,List.length_nil];omega)
        cases b with
        | true =>
         refine cont _ (a1 ⟨dt,⟨2,i,dv⟩⟩) ?_
         have e41a:=e41 ⟨dt,⟨2,i,dv⟩⟩ []
         have e40a:=e40 (g+1) 5 (En++[⟨dt,⟨2,i,dv⟩,F⟩]) C' ⟨dt,⟨2,i,dv⟩⟩ [⟨dt,⟨2,i,dv⟩⟩]
         simp only[List.map_nil,List.append_nil,List.map_cons,List.cons_append,List.nil_append,List.map_append,jF,List.length_cons,List.length_nil]at e41a e40a
         simp only[G13.T,G13.H,G13.d,G13.X,hnx,hlp,Option.isSome_some,Option.getD_some]
         generalize (nxD m c').isSome=SM at *
         generalize (nxD m c').getD q8j=ND at *
         rcases hw with rfl | rfl<;>simp[qqi,L28_0,hut2,hsz,htk,hi,hns,hnsb,h4',e41a,e42,e40a,hap,hf.ne]
        | false =>
         refine cont _ (a1 d0) ?_
         have e41a:=e41 d0 [⟨dt,⟨2,i,dv⟩⟩]
         have e40a:=e40 (g+1) 5 (En++[⟨dt,⟨2,i,dv⟩,F⟩]) C' d0 [⟨dt,⟨2,i,dv⟩⟩,⟨dt,⟨2,i,dv⟩⟩]
         simp only[List.map_nil,List.append_nil,List.map_cons,List.cons_append,List.nil_append,List.map_append,jF,List.length_cons,List.length_nil]at e41a e40a
         simp only[G13.T,G13.H,G13.d,G13.X,hnx,hlp,Option.isSome_some,Option.getD_some]
         generalize (nxD m c').isSome=SM at *
         generalize (nxD m c').getD q8j=ND at *
         rcases hw with rfl | rfl<;>simp[qqi,L28_0,hut2,hsz,htk,hi,hns,hnsb,h4',e41a,e42,e40a,hap,hf.ne]
       .rw[if_neg he]at hz
        have e41:∀(D:Due) (t:List Due),ev pg (.call (.fn 78 [] []) [.bptr 17 0,Due.v ⟨dt,⟨2,i,dv⟩⟩] (qxv m s0 (qkb m c.s ve vt r) g w En C D++t.map fun x=>⟨0,.box x.row⟩))=some { v:=.tup [q5r [],qck [],num (qax m.c c.s ⟨2,i,dv⟩).2.2],st:=⟨[],qxv m s0 (qkb m c.s ve vt r) g w En C D++t.map fun x=>⟨0,.box x.row⟩⟩ }:=fun D t=>by
         rw[zyv hok hve hvt g w En C D t r _,if_neg he]
        have heb:((qax m.c c.s ⟨2,i,dv⟩).2.2==0)=false:=by simpa using he
        generalize (qax m.c c.s ⟨2,i,dv⟩).2.2=er at *
        refine fin ?_
        simp only[G13.T,G13.H,G13.d,G13.X,hnx,hlp,Option.isSome_some,Option.getD_some]
        cases b with
        | true =>
         have e41a:=e41 ⟨dt,⟨2,i,dv⟩⟩ []
         simp only[List.map_nil,List.append_nil,List.map_cons,List.cons_append,List.nil_append]at e41a
         simp[qqi,L28_0,hut2,hsz,htk,hi,hns,hnsb,h4',e41a,he,heb,hf.ne]
         exact .of hz.symm 33 ⟨rfl,rfl,rfl,rfl,rfl,rfl,rfl,rfl⟩ (by simp[qtl,hf.ne])
        | false =>
         have e41a:=e41 d0 [⟨dt,⟨2,i,dv⟩⟩]
         simp only[List.map_nil,List.append_nil,List.map_cons,List.cons_append,List.nil_append]at e41a
         simp[qqi,L28_0,hut2,hsz,htk,hi,hns,hnsb,h4',e41a,he,heb,hf.ne]
         exact .of hz.symm 34 ⟨rfl,rfl,rfl,rfl,rfl,rfl,rfl,rfl⟩ (by simp[qtl,hf.ne])
    .rw[if_neg (fun h=>hk2 h.1)]at hz
     have hk2b:(d.e.kind==2)=false:=by simpa using hk2
     have hrl:q7z c d=c.l:=by unfold q7z;rw[if_neg hk2]
     by_cases h4:En.length=4096
     .rw[if_pos h4]at hz
      have h4':(En.length:Int)=4096:=by omega
      refine fin ?_
      simp only[G13.T,G13.H,G13.d,G13.X,hnx,Option.isSome_some,Option.getD_some]
      cases b with
      | true =>
       simp[qqi,L28_0,hut2,hk2,hk2b,h4',hf.ne]
       exact .of hz.symm 33 ⟨rfl,rfl,rfl,rfl,rfl,rfl,rfl,rfl⟩ (by simp[qtl,hf.ne])
      | false =>
       simp[qqi,L28_0,hut2,hk2,hk2b,h4',hf.ne]
       exact .of hz.symm 34 ⟨rfl,rfl,rfl,rfl,rfl,rfl,rfl,rfl⟩ (by simp[qtl,hf.ne])
     .rw[if_neg h4]at hz
      have h4':¬(En.length:Int)=4096:=by omega
      by_cases he:(qax m.c c.s d.e).2.2=0
      .rw[if_pos he]at hz
       have hok':=hok.go hnx hub he
       have hcl:(goC m c d).l=c.l:=hrl
       have e41:∀(D:Due) (t:List Due),ev pg (.call (.fn 78 [] []) [.bptr 17 0,d.v] (qxv m s0 (qkb m c.s ve vt c.l) g w En C D++t.map fun x=>⟨0,.box x.row⟩))=some { v:=.tup [q5r (qgb c.s (qax m.c c.s d.e).1),qck (qax m.c c.s d.e).2.1,num 0],st:=⟨[],qxv m s0 (qkb m (goC m c d).s (qck (goC m c d).e) (qck (goC m c d).t) (goC m c d).l) g w En C D++t.map fun x=>⟨0,.box x.row⟩⟩ }:=fun D t=>by
        rw[zyv hok hve hvt g w En C D t c.l d,if_pos he,hcl]
        rfl
       have hcf:=qtz m.c c.s d.e
       have e42:=ev79 (qjv m.c) C (qax m.c c.s d.e).2.1 (by have:=hlin.len;have:=qoh hok.lie.rdy.mid;omega) (by have:=hcf.len;have:=qoh hok.lie.rdy.mid;omega) (fun x hx=>(jQ.1 hx).elim (hlin.b x) (hcf.b x))
       have hlin':=Lin.norm (qjv m.c) (C++(qax m.c c.s d.e).2.1)
       have e40:=fun g w En C D t=>z4x (s0:=s0) hok' (ve:=qck (goC m c d).e) (vt:=qck (goC m c d).t) (.inl rfl) (.inl rfl) g w En C D t
       have hap:(En.length+1)*56<=140737488355328:=by omega
       generalize goC m c d=c' at *
       generalize qgb c.s (qax m.c c.s d.e).1=F at *
       generalize (qax m.c c.s d.e).2.1=cf at *
       generalize hC':norm (qjv m.c) (C++cf)=C' at *
       have a1:=fun D0:Due=>G13.Ok.mk (m:=m) (s0:=s0) (u:=u) (Z:=Z) (L:=L) (k:=k+1) (a:=⟨c',En++[⟨d.t,d.e,F⟩],C',qck c'.e,qck c'.t,g+1,5,false,D0⟩) hok' (.inl rfl) (.inl rfl) (.inl rfl) hlin' (by simp only;rw[hn2];exact hz) (by simp only[jF,List.length_cons,List.length_nil,hcl];omega) (by simp only[jF,List.length_cons,List.length_nil];omega)
       cases b with
       | true =>
        refine cont _ (a1 d) ?_
        have e41a:=e41 d []
        have e40a:=e40 (g+1) 5 (En++[⟨d.t,d.e,F⟩]) C' d [d]
        simp only[List.map_nil,List.append_nil,List.map_cons,List.cons_append,List.nil_append,List.map_append,jF,List.length_cons,List.length_nil]at e41a e40a
        simp only[G13.T,G13.H,G13.d,G13.X,hnx,Option.isSome_some,Option.getD_some]
        generalize (nxD m c').isSome=SM at *
        generalize (nxD m c').getD q8j=ND at *
        rcases hw with rfl | rfl<;>simp[qqi,L28_0,hut2,hk2,hk2b,h4',e41a,e42,e40a,hap,hf.ne]
       | false =>
        refine cont _ (a1 d0) ?_
        have e41a:=e41 d0 [d]
        have e40a:=e40 (g+1) 5 (En++[⟨d.t,d.e,F⟩]) C' d0 [d,d]
        simp only[List.map_nil,List.append_nil,List.map_cons,List.cons_append,List.nil_append,List.map_append,jF,List.length_cons,List.length_nil]at e41a e40a
        simp only[G13.T,G13.H,G13.d,G13.X,hnx,Option.isSome_some,Option.getD_some]
        generalize (nxD m c').isSome=SM at *
        generalize (nxD m c').getD q8j=ND at *
        rcases hw with rfl | rfl<;>simp[qqi,L28_0,hut2,hk2,hk2b,h4',e41a,e42,e40a,hap,hf.ne]
      .rw[if_neg he]at hz
       have e41:∀(D:Due) (t:List Due),ev pg (.call (.fn 78 [] []) [.bptr 17 0,d.v] (qxv m s0 (qkb m c.s ve vt c.l) g w En C D++t.map fun x=>⟨0,.box x.row⟩))=some { v:=.tup [q5r [],qck [],num (qax m.c c.s d.e).2.2],st:=⟨[],qxv m s0 (qkb m c.s ve vt c.l) g w En C D++t.map fun x=>⟨0,.box x.row⟩⟩ }:=fun D t=>by
        rw[zyv hok hve hvt g w En C D t c.l d,if_neg he]
       have heb:((qax m.c c.s d.e).2.2==0)=false:=by simpa using he
       generalize (qax m.c c.s d.e).2.2=er at *
       refine fin ?_
       simp only[G13.T,G13.H,G13.d,G13.X,hnx,Option.isSome_some,Option.getD_some]
       cases b with
       | true =>
        have e41a:=e41 d []
        simp only[List.map_nil,List.append_nil,List.map_cons,List.cons_append,List.nil_append]at e41a
        simp[qqi,L28_0,hut2,hk2,hk2b,h4',e41a,he,heb,hf.ne]
        exact .of hz.symm 33 ⟨rfl,rfl,rfl,rfl,rfl,rfl,rfl,rfl⟩ (by simp[qtl,hf.ne])
       | false =>
        have e41a:=e41 d0 [d]
        simp only[List.map_nil,List.append_nil,List.map_cons,List.cons_append,List.nil_append]at e41a
        simp[qqi,L28_0,hut2,hk2,hk2b,h4',e41a,he,heb,hf.ne]
        exact .of hz.symm 34 ⟨rfl,rfl,rfl,rfl,rfl,rfl,rfl,rfl⟩ (by simp[qtl,hf.ne])
 .rintro a hG
  have h1:=hG.mu
  have h2:=hG.en
  omega
end Go.Proofs.YtddeacahiilikaaGreat
