/- Courses in time lead where the plant leads, plainly. Moves take their time, plainly. Moves take their time, plainly: courses. -/
import Derived.Test.YtlhciedghbmjjaaGreatSi21
import Derived.KernelRfl
set_option linter.all false
namespace Go.Proofs.YtlhciedghbmjjaaGreat
open Go Go.Am Go.Proofs
set_option maxRecDepth 100000
theorem qxb {m:Mch} {u:Int} (hu:u≤1000000):∀ (f:Nat) (c:Cst) (En:List Ent) (C:List Int) (y:Lg),Cok m c→goS m u f c En C=some (.inr y)→∀ (D:List Int) (i:Nat) (r:Crs),r.st=c.s→Lin (qie m.c) r.conf→C=norm (qie m.c) (D++r.conf) →
  ∃ R X,y.en=En++R∧q2q m.c (R.map Ent.e) i r=(⟨y.st,r.strokes++R.map Ent.s,X⟩,0,0)∧Lin (qie m.c) X∧y.cf=norm (qie m.c) (D++X)
 | 0,_,_,_,_,_,h=>by cases h
 | f + 1,c,En,C,y,hok,h=>by
  intro D i r hr hl hC
  unfold goS at h
  split at h
  ·cases h
   exact ⟨[],r.conf,by simp,by obtain ⟨a,b,d⟩:=r; simp only at hr; subst hr; simp [q2q],hl,hC⟩
  ·rename_i d hd
   split at h
   ·cases h
    exact ⟨[],r.conf,by simp,by obtain ⟨a,b,d⟩:=r; simp only at hr; subst hr; simp [q2q],hl,hC⟩
   ·rename_i hut
    split at h
    ·exact qxb hu f _ _ _ _ hok.drop h D i r hr hl hC
    ·split at h
     ·cases h
     ·split at h
      ·rename_i he
       obtain ⟨R,X,e1,e2,e3,e4⟩:=qxb hu f _ _ _ _ (hok.go hd (by omega) he) h D (i + 1) ⟨(qap m.c c.s d.e).1,r.strokes++[qcv c.s (qap m.c c.s d.e).1],norm (qie m.c) (r.conf++(qap m.c c.s d.e).2.1)⟩ rfl (Lin.norm _ _) (by
        rw [hC]
        refine qwk fun x h1 h2=>?_
        simp only [List.mem_append,qhv]
        constructor
        ·rintro (⟨a | a,-⟩ | a)
         ·exact .inl a
         ·exact .inr ⟨.inl a,h1,h2⟩
         ·exact .inr ⟨.inr a,h1,h2⟩
        ·rintro (a | ⟨a | a,-⟩)
         ·exact .inl ⟨.inl a,h1,h2⟩
         ·exact .inl ⟨.inr a,h1,h2⟩
         ·exact .inr a)
       refine ⟨⟨d.t,d.e,qcv c.s (qap m.c c.s d.e).1⟩ :: R,X,by rw [e1,List.append_assoc]; rfl,?_,e3,e4⟩
       rw [List.map_cons,q2q,hr,if_pos he,e2]
       simp
      ·cases h
structure Leads (m:Mch) (u:Int) (y:Lg) (X:List Int):Prop where
 start:(qbk m.c).2.2=0
 run:z6s m.c (qbk m.c).1 (y.en.map Ent.e)=(⟨y.st,y.en.map Ent.s,X⟩,0,0)
 conf:mrg (qbk m.c).2.1 X=y.cf
 len:X.length≤4096
 cf:y.cf.length≤4096
 one:(qbk m.c).2.1.length≤4096
 low:∀ r ∈ y.en,0≤r.t∧r.t≤u
 asc:y.en.Pairwise fun p q=>p.t≤q.t
theorem q9z {m:Mch} (hs:m.c.small=true) {l:List Prs} {u:Int} (h:(qlz m l u).2=0):∃ X,Leads m u (qlz m l u).1 X:=by
 obtain ⟨hg,h2,hok,hso,hgo⟩:=q2l hs h
 obtain ⟨g1,-,-,-,g5⟩:=qey hg
 have hc:m.c.check=0:=by
  unfold qej at g1
  split at g1
  ·assumption
  ·rename_i hh; exact absurd g1 hh
 have hlin:=qpn m.c
 have hlen:=(q2w hs l u).len
 generalize (qlz m l u).1=y at *
 obtain ⟨R,X,e1,e2,e3,e4⟩:=qxb g5 _ _ _ _ _ hok hgo (qbk m.c).2.1 0 ⟨(qbk m.c).1,[],[]⟩ rfl (Lin.nil _) (by rw [List.append_nil]; exact hlin.self.symm)
 obtain ⟨R',f1,f2,f3⟩:=q3u g5 _ _ _ _ _ 0 hok hso (fun x hx=>(hok.due x hx).1.1) hgo
 rw [List.nil_append] at e1 f1
 rw [← f1] at f2 f3
 rw [← e1] at e2
 have hN:qie m.c≤4096:=Nat.le_trans (qmp hok.lie.rdy.mid) (by decide)
 refine ⟨X,h2,?_,?_,by have:=e3.len; omega,by rw [e4]; have:=zcc (qie m.c) ((qbk m.c).2.1++X); omega,by have:=hlin.len; omega,f2,f3⟩
 ·rw [(qvl hs hc h2).run (by rw [List.length_map]; omega),e2]
  simp
 ·rw [hlin.mrg e3,e4]
def Goi (e:Int):Prop:=e=1∨e=3
theorem zic {s:Ste} {i:Nat} {y:Int} (h:(qlp s).ends[i]?=some y):∃ x,s.ends[i]?=some x∧(Goi x→Goi y):=by
 simp only [qlp,List.getElem?_zipWith] at h
 cases hv:s.valves[i]? with
 | none=>rw [hv] at h; simp at h
 | some v =>
  cases he:s.ends[i]? with
  | none=>rw [hv,he] at h; simp at h
  | some x =>
   rw [hv,he] at h
   simp only [Option.some.injEq] at h
   subst h
   refine ⟨x,rfl,fun hx=>?_⟩
   unfold qsk Goi
   split
   ·exact .inl rfl
   ·split
    ·exact .inr rfl
    ·exact hx
theorem zar {c:Ct} {s:Ste} {x:Ste × List Int} (h:qdj c s=some x) {i:Nat} {y:Int} (hy:x.1.ends[i]?=some y):∃ z,s.ends[i]?=some z∧(Goi z→Goi y):=by
 unfold qdj at h
 cases hz:qcw c s with
 | none=>rw [hz] at h; cases h
 | some p =>
  rw [hz] at h
  cases h
  have:=(qpz (t:=p.1) (m:=p.2) hz).1
  obtain ⟨z,h1,h2⟩:=zic hy
  refine ⟨z,?_,h2⟩
  rw [← this]
  exact h1
theorem q6n {c:Ct}:∀ (d:Nat) {s:Ste} {l:List Int} {t:Ste} {m:List Int},qfl c d s l=some (t,m)→∀ (i:Nat) (y:Int),t.ends[i]?=some y→∃ x,s.ends[i]?=some x∧(Goi x→Goi y)
 | 0,_,_,_,_,h=>by cases h
 | d + 1,s,l,t,m,h=>by
  intro i y hy
  unfold qfl at h
  split at h
  ·cases h
  ·rename_i x hx
   split at h
   ·cases h
    exact ⟨y,hy,fun h=>h⟩
   ·obtain ⟨z,h1,h2⟩:=q6n d h _ _ hy
    obtain ⟨w,h3,h4⟩:=zar hx h1
    exact ⟨w,h3,fun hw=>h2 (h4 hw)⟩
theorem zat {c:Ct} {s:Ste} {e:Evn} (he:(qap c s e).2.2=0) {i:Nat} {y:Int} (hy:(qap c s e).1.ends[i]?=some y) (hn:¬ (e.kind=0∧e.idx=i)):∃ x,s.ends[i]?=some x∧(Goi x→Goi y):=by
 unfold qap at he hy
 split at he
 ·cases he
 ·rename_i hk
  rw [if_neg hk] at hy
  split at he
  ·rename_i hm
   rw [if_pos hm] at hy
   unfold qji qlr at he hy
   cases hr:qfl c 65 (qff s e) [] with
   | none=>rw [hr] at he; cases he
   | some p =>
    rw [hr] at hy
    obtain ⟨x,h1,h2⟩:=q6n 65 (t:=p.1) (m:=p.2) hr _ _ hy
    refine ⟨x,?_,h2⟩
    unfold qff at h1
    split at h1
    ·rename_i h0
     have hi:0≤e.idx:=by
      unfold q1x at hm
      split at hm
      ·cases hm
      ·omega
     rw [List.getElem?_set_ne (fun hh=>hn ⟨h0,by omega⟩)] at h1
     exact h1
    ·split at h1 <;> exact h1
  ·cases he
theorem zfb {a b:Ste} {s:Int × Bool} (h:s ∈ qcv a b):∃ (n:Nat) (x y:Int),s.1=n∧a.ends[n]?=some x∧b.ends[n]?=some y∧Goi y∧x ≠ y∧s.2=(y == 1):=by
 unfold qcv at h
 rw [List.mem_filterMap] at h
 obtain ⟨n,-,h⟩:=h
 unfold qma at h
 split at h
 ·rename_i x y hx hy
  split at h
  ·rename_i hc
   cases h
   exact ⟨n,x,y,rfl,hx,hy,hc.1,hc.2,rfl⟩
  ·cases h
 ·cases h
theorem zdn {a b:Ste} {n:Nat} {x y:Int} (hx:a.ends[n]?=some x) (hy:b.ends[n]?=some y) (hg:Goi y) (hne:x ≠ y):((n:Int),y == 1) ∈ qcv a b:=by
 unfold qcv
 rw [List.mem_filterMap]
 refine ⟨n,List.mem_range.2 (List.getElem?_eq_some_iff.1 hx).1,?_⟩
 unfold qma
 rw [hx,hy]
 simp only
 rw [if_pos ⟨hg,hne⟩]
theorem q8j (a b:Ste):(qcv a b).Pairwise fun p q=>p.1 ≠ q.1:=by
 unfold qcv
 rw [List.pairwise_filterMap]
 refine (List.pairwise_lt_range (n:=a.ends.length)).imp fun {i j} hij p hp q hq=>?_
 have key:∀ {n:Nat} {p:Int × Bool},qma a b n=some p→p.1=n:=by
  intro n p h
  unfold qma at h
  split at h
  ·split at h
   ·cases h; rfl
   ·cases h
  ·cases h
 rw [key hp,key hq]
 omega
abbrev mkM (t:Int) (s:Int × Bool):Mov:=⟨s.1,s.2,t,noT⟩
theorem qwt (t:Int):∀ (F:List (Int × Bool)) (z:List Mov × List (Int × Nat)),(qqz t F z).1=z.1++F.map (mkM t)
 | [],z=>by simp [qqz]
 | s :: F,z=>by
  have:=qwt t F (q0k t z s)
  unfold qqz at this ⊢
  rw [List.foldl_cons,this]
  simp [q0k]
theorem qmw (t:Int) {a:Int}:∀ (F:List (Int × Bool)) (z:List Mov × List (Int × Nat)),(∀ s ∈ F,s.1 ≠ a)→qyq (qqz t F z).2 a=qyq z.2 a
 | [],z,_=>rfl
 | s :: F,z,h=>by
  have:=qmw t F (q0k t z s) (fun x hx=>h x (List.mem_cons_of_mem _ hx))
  unfold qqz at this ⊢
  rw [List.foldl_cons,this]
  simp only [q0k]
  rw [zam,if_neg (fun e=>h s (List.mem_cons_self ..) e.symm)]
theorem qoc (t:Int):∀ (F:List (Int × Bool)) (z:List Mov × List (Int × Nat)),(F.Pairwise fun p q=>p.1 ≠ q.1)→∀ {i:Nat} {s:Int × Bool},F[i]?=some s→qyq (qqz t F z).2 s.1=some (z.1.length + i)
 | [],z,_,i,s,h=>by simp at h
 | p :: F,z,hp,i,s,h=>by
  have hp:=List.pairwise_cons.1 hp
  have e:qqz t (p :: F) z=qqz t F (q0k t z p):=rfl
  rw [e]
  cases i with
  | zero =>
   simp only [List.getElem?_cons_zero,Option.some.injEq] at h
   subst h
   rw [qmw t F _ (fun x hx=>(hp.1 x hx).symm)]
   simp only [q0k]
   rw [zam,if_pos rfl]
   simp
  | succ i =>
   rw [List.getElem?_cons_succ] at h
   rw [qoc t F _ hp.2 h]
   simp only [q0k,List.length_append,List.length_singleton]
   congr 1
   omega
def qot (m:Mch) (v:Mov):Int:=if v.o=true then ((m.ts[v.a.toNat]?).getD (0,0)).1 else ((m.ts[v.a.toNat]?).getD (0,0)).2
def q0w (m:Mch) (out:List Mov) (k:Nat) (v:Mov):Prop:=∃ j w,k < j∧out[j]?=some w∧w.a=v.a∧w.f≤v.f + qot m v
structure MvI (m:Mch) (c:Cst) (out:List Mov) (L:List (Int × Nat)):Prop where
 act:∀ v ∈ out,0≤v.a∧v.a < c.s.ends.length
 don:∀ v ∈ out,v.t ≠ noT→v.t=v.f + qot m v
 lat:∀ a k,qyq L a=some k→∃ v,out[k]?=some v∧v.a=a
 las:∀ (j:Nat) v,out[j]?=some v→∃ k,qyq L v.a=some k∧j≤k
 run:∀ (k:Nat) v,out[k]?=some v→v.t=noT→q0w m out k v∨(qyq L v.a=some k∧c.s.ends[v.a.toNat]?=some (if v.o=true then 1 else 3)∧c.e[v.a.toNat]?=some v.f)
theorem MvI.due {m:Mch} {c:Cst} {v:Mov} (h1:c.s.ends[v.a.toNat]?=some (if v.o=true then 1 else 3)) (h2:c.e[v.a.toNat]?=some v.f):qmj m c.s c.e v.a.toNat=some ⟨v.f + qot m v,⟨0,v.a.toNat,false⟩⟩:=by
 unfold qmj qot
 rw [h1,h2]
 cases v.o <;> simp
theorem MvI.mid {m:Mch} {c:Cst} {out:List Mov} {L:List (Int × Nat)} (h:MvI m c out L) (hok:Cok m c) {d:Due} (hd:nxD m c=some d) (F:List (Int × Bool)) :
  (∀ v ∈ qrj out L ⟨d.t,d.e,F⟩,0≤v.a∧v.a < c.s.ends.length)∧(∀ v ∈ qrj out L ⟨d.t,d.e,F⟩,v.t ≠ noT→v.t=v.f + qot m v) ∧
  (∀ (k:Nat) v,(qrj out L ⟨d.t,d.e,F⟩)[k]?=some v→∃ w,out[k]?=some w∧w.a=v.a)∧(∀ (k:Nat) w,out[k]?=some w→∃ v,(qrj out L ⟨d.t,d.e,F⟩)[k]?=some v∧v.a=w.a∧v.f=w.f) ∧
  (∀ (k:Nat) v,(qrj out L ⟨d.t,d.e,F⟩)[k]?=some v→v.t=noT→q0w m (qrj out L ⟨d.t,d.e,F⟩) k v∨(qyq L v.a=some k∧c.s.ends[v.a.toNat]?=some (if v.o=true then 1 else 3)∧c.e[v.a.toNat]?=some v.f∧¬ (d.e.kind=0∧d.e.idx=v.a))):=by
 have h0:=(hok.due d (qgf hd)).1.1
 by_cases hq:d.e.kind=0∧∃ j q,qyq L d.e.idx=some j∧out[j]?=some q∧q.t=noT
 ·obtain ⟨hk,j,q,hj,hqj,hqt⟩:=hq
  have hO:qrj out L ⟨d.t,d.e,F⟩=out.set j ⟨q.a,q.o,q.f,d.t⟩:=by
   unfold qrj
   simp only
   rw [if_pos hk,hj]
   simp only
   rw [hqj]
   simp only
   rw [if_pos hqt]
  rw [hO]
  obtain ⟨q',hq1,hqa⟩:=h.lat _ _ hj
  rw [hqj] at hq1
  cases hq1
  have hqm:q ∈ out:=List.mem_of_getElem? hqj
  have hjl:=(List.getElem?_eq_some_iff.1 hqj).1
  -- it takes its time
  have htime:d.t=q.f + qot m q:=by
   rcases h.run j q hqj hqt with ⟨j',w,g1,g2,g3,-⟩ | ⟨-,g1,g2⟩
   ·obtain ⟨k',g4,g5⟩:=h.las _ _ g2
    rw [g3,hqa,hj] at g4
    cases g4
    omega
   ·have hdue:=MvI.due (m:=m) g1 g2
    rcases qrc (qgf hd) with hp | ⟨i,hi,hp⟩ | ⟨i,hi,hp⟩
    ·cases hl:c.l with
     | nil=>rw [hl] at hp; cases hp
     | cons p r =>
      rw [hl] at hp
      simp only [qfe,List.mem_singleton] at hp
      rw [hp] at hk
      cases hk
    ·have hi2:i=q.a.toNat:=by
      have:d.e.idx=i:=by
       unfold qmj at hp
       split at hp
       ·cases hp; rfl
       ·split at hp
        ·cases hp; rfl
        ·cases hp
      omega
     rw [hi2,hdue] at hp
     cases hp
     rfl
    ·unfold qpe at hp
     split at hp
     ·cases hp; cases hk
     ·cases hp
  have get:∀ k:Nat,(out.set j ⟨q.a,q.o,q.f,d.t⟩)[k]?=if k=j then some ⟨q.a,q.o,q.f,d.t⟩ else out[k]?:=by
   intro k
   by_cases hkj:k=j
   ·subst hkj; rw [if_pos rfl,List.getElem?_set_self hjl]
   ·rw [if_neg hkj,List.getElem?_set_ne (fun e=>hkj e.symm)]
  refine ⟨?_,?_,?_,?_,?_⟩
  ·intro v hv
   rcases List.mem_or_eq_of_mem_set hv with hv | rfl
   ·exact h.act v hv
   ·exact h.act q hqm
  ·intro v hv hvt
   rcases List.mem_or_eq_of_mem_set hv with hv | rfl
   ·exact h.don v hv hvt
   ·exact htime
  ·intro k v hv
   rw [get] at hv
   split at hv
   ·rename_i e; cases hv; exact ⟨q,by rw [e]; exact hqj,rfl⟩
   ·exact ⟨v,hv,rfl⟩
  ·intro k w hw
   rw [get]
   split
   ·rename_i e
    rw [e,hqj] at hw
    cases hw
    exact ⟨_,rfl,rfl,rfl⟩
   ·exact ⟨w,hw,rfl,rfl⟩
  ·intro k v hv hvt
   rw [get] at hv
   split at hv
   ·cases hv
    simp only at hvt
    unfold noT at hvt
    omega
   ·rename_i hkj
    rcases h.run k v hv hvt with ⟨j',w,g1,g2,g3,g4⟩ | ⟨g1,g2,g3⟩
    ·left
     by_cases hj':j'=j
     ·rw [hj',hqj] at g2
      cases g2
      exact ⟨j',⟨q.a,q.o,q.f,d.t⟩,g1,by rw [get,if_pos hj'],g3,g4⟩
     ·exact ⟨j',w,g1,by rw [get,if_neg hj']; exact g2,g3,g4⟩
    ·refine .inr ⟨g1,g2,g3,fun hh=>?_⟩
     rw [← hh.2,hj] at g1
     cases g1
     exact hkj rfl
 ·have hO:qrj out L ⟨d.t,d.e,F⟩=out:=by
   unfold qrj
   simp only
   split
   ·rename_i j hj
    split at hj
    ·rename_i hk
     split
     ·rename_i q hqj
      split
      ·rename_i hqt
       exact absurd ⟨hk,j,q,hj,hqj,hqt⟩ hq
      ·rfl
     ·rfl
    ·cases hj
   ·rfl
  rw [hO]
  refine ⟨h.act,h.don,fun k v hv=>⟨v,hv,rfl⟩,fun k w hw=>⟨w,hw,rfl,rfl⟩,fun k v hv hvt=>?_⟩
  rcases h.run k v hv hvt with g | ⟨g1,g2,g3⟩
  ·exact .inl g
  ·exact .inr ⟨g1,g2,g3,fun hh=>hq ⟨hh.1,k,v,by rw [hh.2]; exact g1,hv,hvt⟩⟩
theorem MvI.step {m:Mch} {c:Cst} {out:List Mov} {L:List (Int × Nat)} (h:MvI m c out L) (hok:Cok m c) {d:Due} (hd:nxD m c=some d) (hu:d.t≤1000000) (he:(qap m.c c.s d.e).2.2=0) :
  MvI m (goC m c d) (qje (out,L) ⟨d.t,d.e,qcv c.s (qap m.c c.s d.e).1⟩).1 (qje (out,L) ⟨d.t,d.e,qcv c.s (qap m.c c.s d.e).1⟩).2:=by
 have hgo:=hok.go hd hu he
 have hlen:(goC m c d).s.ends.length=c.s.ends.length:=by
  have a:=hgo.tim.le
  have b:=hok.tim.le
  simp only [goC] at a ⊢
  rw [qin] at a
  omega
 have hF:qcv c.s (qap m.c c.s d.e).1=qcv c.s (goC m c d).s:=rfl
 rw [hF]
 have hnd:=q8j c.s (goC m c d).s
 have hat:=fun s hs=>zfb (a:=c.s) (b:=(goC m c d).s) (s:=s) hs
 have hmem:=fun n x y=>zdn (a:=c.s) (b:=(goC m c d).s) (n:=n) (x:=x) (y:=y)
 generalize qcv c.s (goC m c d).s=F at *
 obtain ⟨m1,m2,m3,m4,m5⟩:=h.mid hok hd F
 have hOl:=qog out L ⟨d.t,d.e,F⟩
 unfold qje
 simp only
 rw [qwt]
 generalize qrj out L ⟨d.t,d.e,F⟩=O at *
 simp only
 -- since when,at a place that is there
 have hev:∀ n:Nat,n < c.s.ends.length→(goC m c d).e[n]?=some (if onE c.s (goC m c d).s d n=false then d.t else (c.e[n]?).getD 0):=by
  intro n hn
  have hl:n < (goC m c d).e.length:=by have:=hgo.tim.le; omega
  have hg:((goC m c d).e[n]?).getD 0=_:=qpc (l:=c.e) (now:=d.t) (p:=onE c.s (goC m c d).s d) (i:=n) (by have:=hok.tim.le; omega)
  rw [List.getElem?_eq_getElem hl,Option.getD_some] at hg
  rw [List.getElem?_eq_getElem hl,hg]
 have hold:∀ {k:Nat} {v:Mov},O[k]?=some v→(O++F.map (mkM d.t))[k]?=some v:=fun {k v} hv=>by
  rw [List.getElem?_append_left (List.getElem?_eq_some_iff.1 hv).1]; exact hv
 have hnew:∀ {i:Nat} {s:Int × Bool},F[i]?=some s→(O++F.map (mkM d.t))[O.length + i]?=some (mkM d.t s):=fun {i s} hs=>by
  rw [List.getElem?_append_right (by omega),Nat.add_sub_cancel_left,List.getElem?_map,hs]; rfl
 have hcase:∀ {k:Nat} {v:Mov},(O++F.map (mkM d.t))[k]?=some v→O[k]?=some v∨∃ i s,k=O.length + i∧F[i]?=some s∧v=mkM d.t s:=by
  intro k v hv
  by_cases hk:k < O.length
  ·rw [List.getElem?_append_left hk] at hv
   exact .inl hv
  ·rw [List.getElem?_append_right (by omega),List.getElem?_map] at hv
   cases hs:F[k - O.length]? with
   | none=>rw [hs] at hv; cases hv
   | some s =>
    rw [hs] at hv
    cases hv
    exact .inr ⟨k - O.length,s,by omega,hs,rfl⟩
 refine ⟨?_,?_,?_,?_,?_⟩
 ·intro v hv
  rcases List.mem_append.1 hv with hv | hv
  ·have:=m1 v hv; omega
  ·rw [List.mem_map] at hv
   obtain ⟨s,hs,rfl⟩:=hv
   obtain ⟨n,x,y,e1,e2,-⟩:=hat s hs
   have:=(List.getElem?_eq_some_iff.1 e2).1
   simp only
   omega
 ·intro v hv hvt
  rcases List.mem_append.1 hv with hv | hv
  ·exact m2 v hv hvt
  ·rw [List.mem_map] at hv
   obtain ⟨s,hs,rfl⟩:=hv
   exact absurd rfl hvt
 ·intro a k hk
  by_cases ha:∃ s ∈ F,s.1=a
  ·obtain ⟨s,hs,rfl⟩:=ha
   obtain ⟨i,hi⟩:=List.mem_iff_getElem?.1 hs
   rw [qoc d.t F _ hnd hi] at hk
   cases hk
   exact ⟨mkM d.t s,hnew hi,rfl⟩
  ·rw [qmw d.t F _ (fun s hs hsa=>ha ⟨s,hs,hsa⟩)] at hk
   obtain ⟨w,h1,h2⟩:=h.lat a k hk
   obtain ⟨v,h3,h4,-⟩:=m4 k w h1
   exact ⟨v,hold h3,by rw [h4,h2]⟩
 ·intro j v hv
  rcases hcase hv with hv | ⟨i,s,rfl,hi,rfl⟩
  ·obtain ⟨w,h1,h2⟩:=m3 j v hv
   obtain ⟨k,h3,h4⟩:=h.las j w h1
   rw [h2] at h3
   by_cases ha:∃ s ∈ F,s.1=v.a
   ·obtain ⟨s,hs,hsa⟩:=ha
    obtain ⟨i,hi⟩:=List.mem_iff_getElem?.1 hs
    refine ⟨O.length + i,?_,?_⟩
    ·rw [← hsa,qoc d.t F _ hnd hi]
    ·have:=(List.getElem?_eq_some_iff.1 hv).1
     omega
   ·exact ⟨k,by rw [qmw d.t F _ (fun s hs hsa=>ha ⟨s,hs,hsa⟩)]; exact h3,h4⟩
  ·exact ⟨O.length + i,qoc d.t F _ hnd hi,Nat.le_refl _⟩
 ·intro k v hv hvt
  rcases hcase hv with hv | ⟨i,s,rfl,hi,rfl⟩
  ·rcases m5 k v hv hvt with ⟨j,w,g1,g2,g3,g4⟩ | ⟨g1,g2,g3,g4⟩
   ·exact .inl ⟨j,w,g1,hold g2,g3,g4⟩
   ·obtain ⟨a1,a2⟩:=m1 v (List.mem_of_getElem? hv)
    have hnl:v.a.toNat < c.s.ends.length:=by omega
    have hna:((v.a.toNat:Nat):Int)=v.a:=by omega
    have hy:(goC m c d).s.ends[v.a.toNat]?=some (goC m c d).s.ends[v.a.toNat]:=List.getElem?_eq_getElem (by omega)
    generalize (goC m c d).s.ends[v.a.toNat]'(by omega)=y at hy
    obtain ⟨x,hx,hgoi⟩:=zat he hy (by rw [hna]; exact g4)
    rw [g2] at hx
    cases hx
    have hg:Goi y:=hgoi (by unfold Goi; cases v.o <;> simp)
    by_cases hxy:(if v.o=true then (1:Int) else 3)=y
    ·right
     refine ⟨?_,by rw [hy,hxy],?_⟩
     ·rw [qmw d.t F _ (fun s hs hsa=>?_)]
      ·exact g1
      ·obtain ⟨n,x,y',e1,e2,e3,-,e5,-⟩:=hat s hs
       have:n=v.a.toNat:=by omega
       subst this
       rw [g2] at e2
       rw [hy] at e3
       cases e2
       cases e3
       exact e5 hxy
     ·rw [hev _ hnl]
      have hon:onE c.s (goC m c d).s d v.a.toNat=true:=by
       unfold onE zgl
       rw [g2,hy]
       simp only [Option.getD_some,Bool.and_eq_true,decide_eq_true_eq,Bool.not_eq_true',Bool.and_eq_false_iff,decide_eq_false_iff_not]
       refine ⟨hxy.symm,?_⟩
       by_cases hk:d.e.kind=0
       ·right; intro hh; exact g4 ⟨hk,by omega⟩
       ·exact .inl hk
      rw [hon,if_neg (by decide),g3]
      rfl
    ·left
     have hin:=hmem v.a.toNat _ y g2 hy hg hxy
     obtain ⟨i,hi⟩:=List.mem_iff_getElem?.1 hin
     refine ⟨O.length + i,_,?_,hnew hi,hna,?_⟩
     ·have:=(List.getElem?_eq_some_iff.1 hv).1
      omega
     ·exact qjk hd _ (q5a hnl (MvI.due g2 g3))
  ·right
   obtain ⟨n,x,y,e1,e2,e3,e4,e5,e6⟩:=hat s (List.mem_of_getElem? hi)
   have hn:s.1.toNat=n:=by omega
   refine ⟨qoc d.t F _ hnd hi,?_,?_⟩
   ·simp only
    rw [hn,e3]
    show some y=some (if s.2=true then (1:Int) else 3)
    simp only [e6]
    rcases e4 with rfl | rfl <;> rfl
   ·simp only
    rw [hn,hev n (List.getElem?_eq_some_iff.1 e2).1]
    have hon:onE c.s (goC m c d).s d n=false:=by
     unfold onE
     rw [e2,e3,Option.getD_some,Option.getD_some,Bool.and_eq_false_iff]
     exact .inl (by simpa using fun hh=>e5 hh.symm)
    rw [hon,if_pos rfl]
def MvF (m:Mch) (u:Int) (out:List Mov):Prop:=∀ (k:Nat) v,out[k]?=some v→(0≤v.a∧v.a < m.ts.length)∧(v.t ≠ noT→v.t=v.f + qot m v)∧(v.t=noT→q0w m out k v∨u < v.f + qot m v)
theorem MvI.fin {m:Mch} {c:Cst} {out:List Mov} {L:List (Int × Nat)} (h:MvI m c out L) (hok:Cok m c) {u:Int} (hu:∀ x ∈ qrn m c.s c.e c.t c.l,u < x.t):MvF m u out:=by
 intro k v hv
 have hm:=List.mem_of_getElem? hv
 have ha:=h.act v hm
 refine ⟨by have:=hok.tim.lm; omega,h.don v hm,fun hvt=>?_⟩
 rcases h.run k v hv hvt with g | ⟨-,g2,g3⟩
 ·exact .inl g
 ·exact .inr (hu _ (q5a (by omega) (MvI.due g2 g3)))
theorem q8g (En:List Ent) (x:Ent):qdw (En++[x])=qje (qdw En) x:=by
 unfold qdw
 rw [List.foldl_append]
 rfl
theorem q6o {l:List Due} (h:qqy l=none):l=[]:=by
 cases l with
 | nil=>rfl
 | cons a r=>cases h
theorem qrx {m:Mch} {u:Int} (hu:u≤1000000):∀ (f:Nat) (c:Cst) (En:List Ent) (C:List Int) (y:Lg),Cok m c→MvI m c (qdw En).1 (qdw En).2→goS m u f c En C=some (.inr y)→MvF m u (qjt y.en)
 | 0,_,_,_,_,_,_,h=>by cases h
 | f + 1,c,En,C,y,hok,hm,h=>by
  unfold goS at h
  split at h
  ·rename_i hd
   cases h
   refine hm.fin hok fun x hx=>?_
   rw [q6o hd] at hx
   cases hx
  ·rename_i d hd
   split at h
   ·rename_i hlt
    cases h
    exact hm.fin hok fun x hx=>by have:=qjk hd x hx; omega
   ·split at h
    ·exact qrx hu f _ _ _ _ hok.drop ⟨hm.act,hm.don,hm.lat,hm.las,hm.run⟩ h
    ·split at h
     ·cases h
     ·split at h
      ·rename_i he
       refine qrx hu f _ _ _ _ (hok.go hd (by omega) he) ?_ h
       rw [q8g]
       exact hm.step hok hd (by omega) he
      ·cases h
theorem zdp {m:Mch} (hs:m.c.small=true) {l:List Prs} {u:Int} (h:(qlz m l u).2=0):MvF m u (qjt (qlz m l u).1.en):=by
 obtain ⟨hg,h2,hok,hso,hgo⟩:=q2l hs h
 obtain ⟨-,-,-,-,g5⟩:=qey hg
 refine qrx g5 _ _ _ _ _ hok ⟨?_,?_,?_,?_,?_⟩ hgo
 ·intro v hv; cases hv
 ·intro v hv; cases hv
 ·intro a k hk; cases hk
 ·intro j v hv; simp [qdw] at hv
 ·intro k v hv; simp [qdw] at hv
end Go.Proofs.YtlhciedghbmjjaaGreat
