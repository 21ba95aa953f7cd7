/- Entries of logs are those of logs; the law SimulateBegins, in Am: it returns true. -/
import Derived.Test.YtlhciedghbmjjaaGreatSi19
import Derived.Test.YtlhciedghbmjjaaGreatSi21
import Derived.KernelRfl
set_option linter.all false
namespace Go.Proofs.YtlhciedghbmjjaaGreat
open Go Go.Am Go.Proofs
set_option maxRecDepth 100000
set_option maxHeartbeats 4000000
def zmy (a:List Ent) (k:Nat):Tm:=[some (zeq a),some (zeq a),none,none,some (.bool false),some (num k)]++List.replicate 51 none
theorem z6m (a:List Ent) (ha:a.length≤4096) (hb:∀ y ∈ a,y.s.length≤1000) {st:St} (h0:At (zmy a 0) [] st):∃ r,ev pg (.code (.going 0 L25_0) st)=some r∧qai (.exit 0) (zmy a a.length) [] r:=by
 refine qdv a.length (zmy a) (fun _=>[]) _ ?_ ?_ h0
 ·intro k f hf hk
  have hk':(k:Int) < a.length:=by omega
  have wk:=qab (n:=(k:Int) + 1) (by omega) (by omega)
  have e52:ev pg (.call (.fn 52 [] []) [.imm [[qub a[k].s]],.imm [[qub a[k].s]]] [])=some { v:=.bool true,st:=⟨[],[]⟩ }:=ev52s [a[k].s] (by simp) (by
   intro l hl
   rw [List.mem_singleton] at hl
   subst hl
   have:=hb _ (List.getElem_mem hk)
   omega)
  simp [qaa,exT,qad,zmy,L25_0,hk,hk',wk,e52,hf.ne]
 ·intro f hf
  simp [zmy,L25_0,hf.ne]
theorem ev25 (a:List Ent) (ha:a.length≤4096) (hb:∀ y ∈ a,y.s.length≤1000):ev pg (.call (.fn 25 [] []) [zeq a,zeq a] [])=some { v:=.bool true,st:=⟨[],[]⟩ }:=by
 have hl:=@z6m a ha hb
 rw [qac,pg25]
 simp [ir25,qae]
 generalize hr:ev pg (.code (.going _ L25_0) _)=o
 obtain ⟨r,rfl,f,hf,rfl⟩:∃ r,o=some r∧_:=by rw [← hr]; exact hl (by simp [zmy])
 simp [zmy]
theorem qwb (l:List Ent):qgs 5 (l.map Ent.row)=true:=by simp [qgs]
theorem ev6 (m:Mch) (hm:m.ts.length * 16≤140737488355328) (l:List Prs) (hp:l.length * 24≤140737488355328) (a b:Int) (ha:0≤a∧a≤65535) (hb:0≤b∧b≤65535) :
  ev pg (.call (.fn 6 [] []) [m.v,prs l,.agg [.int .u16 a,.int .u16 b]] [])=some { v:=.bool true,st:=⟨[],[]⟩ }:=by
 have e10:=ev10 m hm
 have e11:=ev11 l hp
 have e12:=ev12
 obtain ⟨E,hE⟩:∃ E,E=if b < a then b else a:=⟨_,rfl⟩
 obtain ⟨U,hU⟩:∃ U,U=if a < b then b else a:=⟨_,rfl⟩
 have hin:0≤E∧E≤U∧U≤65535:=by
  rw [hE,hU]
  split <;> split <;> omega
 have wE:=qab (n:=E) (by omega) (by omega)
 have wU:=qab (n:=U) (by omega) (by omega)
 have hE:=hE.symm
 have hU:=hU.symm
 have e9:=ev9 m l U
 rw [qac,pg6]
 by_cases hs:qwn m l U=true
 ·obtain ⟨f1,f2,f3⟩:=qzk hs
  rw [hs] at e9
  have e13:=ev13 f1 (by omega) (l:=l) (by omega) U
  by_cases h0:(qik m l U).2=0
  ·obtain ⟨q1,R,q2,q3⟩:=q6s f1 h0 hin.1 hin.2.1
   have e13b:=ev13 f1 (by omega) (l:=l) (by omega) E
   have hok:=qsm f1 l U
   have hokE:=qsm f1 l E
   rw [h0] at e13
   rw [q1] at e13b
   generalize (qik m l U).1=y at *
   generalize (qik m l E).1=x at *
   have n1:=hok.len
   have n2:=hokE.len
   have e18y:=ev18 y (by omega)
   have e18x:=ev18 x (by omega)
   have e25:=ev25 x.en n2 fun y hy=>(hokE.each y hy).2
   obtain ⟨yen,ycf,yst⟩:=y
   obtain ⟨xen,xcf,xst⟩:=x
   simp only at q2
   subst q2
   cases R with
   | nil=>
    have ht:(List.map Ent.row xen).take xen.length=List.map Ent.row xen:=by rw [List.take_of_length_le (by simp)]
    have hsz:=qwb xen
    simp only [List.append_nil] at *
    simp [qaa,exT,qad,ir6,hE,hU,wE,wU,e10,e11,e9,e12,e13,e13b,e18x,e18y,e25,ht,hsz]
   | cons r R =>
    have hr:=q3 r (List.mem_cons_self ..)
    have ht:(List.map Ent.row xen++Ent.row r :: List.map Ent.row R).take xen.length=List.map Ent.row xen:=by rw [List.take_left' (by simp)]
    have hg:(List.map Ent.row xen++Ent.row r :: List.map Ent.row R)[xen.length]?=some (Ent.row r):=by rw [List.getElem?_append_right (by simp)]; simp
    have hsz:=qwb (xen++r :: R)
    have hbq:=zes (xen++r :: R)
    have n3:¬ ((xen.length:Int) + ((R.length:Int) + 1) < xen.length):=by omega
    have n4:¬ ((R.length:Int) + 1=0):=by omega
    have n6:¬ ((xen.length:Int)=(xen.length:Int) + ((R.length:Int) + 1)):=by omega
    have n5:((xen.length:Int) == (xen.length:Int) + ((R.length:Int) + 1))=false:=by rw [beq_eq_false_iff_ne]; omega
    simp only [List.map_append,List.map_cons] at *
    simp [qaa,exT,qad,ir6,hE,hU,wE,wU,e10,e11,e9,e12,e13,e13b,e18x,e18y,e25,ht,hg,hr,hsz,n3,n4,n5,n6,hbq]
  ·have hb:((qik m l U).2 == 0)=false:=by simpa using h0
   generalize qik m l U=z at *
   obtain ⟨y,e⟩:=z
   simp only at *
   simp [qaa,exT,qad,ir6,hE,hU,wE,wU,e10,e11,e9,e12,e13,h0,hb]
 ·rw [eq_false_of_ne_true hs] at e9
  simp [qaa,exT,qad,ir6,hE,hU,wE,wU,e10,e11,e9,e12]
end Go.Proofs.YtlhciedghbmjjaaGreat
