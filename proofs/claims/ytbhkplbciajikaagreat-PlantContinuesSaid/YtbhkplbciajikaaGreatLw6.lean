/- A run goes on: what a run of all events, and of the first and of the other ones, come to. -/
import Derived.Test.YtbhkplbciajikaaGreatLw4
import Derived.KernelRfl
set_option linter.all false
namespace Go.Proofs.YtbhkplbciajikaaGreat
open Go Go.Am Go.Proofs
set_option maxRecDepth 100000
theorem runGo_lin {c:Ct}:∀ {l:List Evn} {i:Nat} {r:Crs},Lin (allN c) r.conf→Lin (allN c) (runGo c l i r).1.conf
 | [],_,_,h=>h
 | x :: l,i,r,h=>by
  rw [runGo]
  by_cases h0:(afterV c r.st x).2.2=0
  ·rw [if_pos h0]
   exact runGo_lin (Lin.norm _ _)
  ·rw [if_neg h0]
   exact Lin.nil _
theorem runGo_idx (c:Ct):∀ (l:List Evn) (i:Nat) (r:Crs),0≤(runGo c l i r).2.1∧(runGo c l i r).2.1≤((i + l.length:Nat):Int)
 | [],i,r=>by simp [runGo]
 | x :: l,i,r=>by
  rw [runGo]
  by_cases h0:(afterV c r.st x).2.2=0
  ·rw [if_pos h0]
   have:=runGo_idx c l (i + 1) ⟨(afterV c r.st x).1,r.strokes++[freshV r.st (afterV c r.st x).1],norm (allN c) (r.conf++(afterV c r.st x).2.1)⟩
   rw [List.length_cons]
   omega
  ·rw [if_neg h0,List.length_cons]
   simp only
   omega
theorem runGo_strokes {c:Ct}:∀ {l:List Evn} {i:Nat} {r:Crs},(runGo c l i r).1.strokes.length≤r.strokes.length + l.length
 | [],_,_=>by simp [runGo]
 | x :: l,i,r=>by
  rw [runGo]
  by_cases h0:(afterV c r.st x).2.2=0
  ·rw [if_pos h0]
   have:=@runGo_strokes c l (i + 1) ⟨(afterV c r.st x).1,r.strokes++[freshV r.st (afterV c r.st x).1],norm (allN c) (r.conf++(afterV c r.st x).2.1)⟩
   simp only [List.length_append,List.length_cons,List.length_nil] at this ⊢
   omega
  ·rw [if_neg h0]
   simp [zeroCrs]
theorem runGo_cut (c:Ct) (s:Ste) (l:List Evn) (k:Nat) (hk:k≤l.length):runGo c l 0 ⟨s,[],[]⟩=if (runGo c (l.take k) 0 ⟨s,[],[]⟩).2.2=0 then
   (if (runGo c (l.drop k) 0 ⟨(runGo c (l.take k) 0 ⟨s,[],[]⟩).1.st,[],[]⟩).2.2=0 then
    (⟨(runGo c (l.drop k) 0 ⟨(runGo c (l.take k) 0 ⟨s,[],[]⟩).1.st,[],[]⟩).1.st,(runGo c (l.take k) 0 ⟨s,[],[]⟩).1.strokes++(runGo c (l.drop k) 0 ⟨(runGo c (l.take k) 0 ⟨s,[],[]⟩).1.st,[],[]⟩).1.strokes,norm (allN c) ((runGo c (l.take k) 0 ⟨s,[],[]⟩).1.conf++(runGo c (l.drop k) 0 ⟨(runGo c (l.take k) 0 ⟨s,[],[]⟩).1.st,[],[]⟩).1.conf)⟩,0,0)
   else (zeroCrs,(runGo c (l.drop k) 0 ⟨(runGo c (l.take k) 0 ⟨s,[],[]⟩).1.st,[],[]⟩).2.1 + k,(runGo c (l.drop k) 0 ⟨(runGo c (l.take k) 0 ⟨s,[],[]⟩).1.st,[],[]⟩).2.2))
  else runGo c (l.take k) 0 ⟨s,[],[]⟩:=by
 have h1:=runGo_app c (l.take k) (l.drop k) 0 ⟨s,[],[]⟩
 rw [List.take_append_drop,List.length_take,Nat.min_eq_left hk] at h1
 rw [h1]
 have hl:Lin (allN c) (runGo c (l.take k) 0 ⟨s,[],[]⟩).1.conf:=runGo_lin (Lin.nil _)
 generalize runGo c (l.take k) 0 ⟨s,[],[]⟩=y at *
 obtain ⟨⟨t,S,C⟩,i,e⟩:=y
 simp only at hl ⊢
 by_cases he:e=0
 ·rw [if_pos he,if_pos he]
  have h2:=runGo_rel c S C k (l.drop k) 0 t [] []
  rw [List.append_nil,List.append_nil,hl.self] at h2
  exact h2
 ·rw [if_neg he,if_neg he]
theorem Lie.quE {c:Ct} {t:Ste} (h:Lie c t):quE c t=0:=by
 obtain ⟨a,ha⟩:=h.still
 unfold Proofs.YtbhkplbciajikaaGreat.quE stillB
 rw [if_pos h.rdy.st,ha]
 simp [sameT_self]
theorem Lie.run {c:Ct} {t:Ste} (h:Lie c t) {l:List Evn} (hl:l.length≤4096):runR c t l=runGo c l 0 ⟨t,[],[]⟩:=by
 unfold runR
 rw [if_pos h.quE,if_neg (by omega)]
theorem Lie.next {c:Ct} {t:Ste} (h:Lie c t) {l:List Evn} (he:(runGo c l 0 ⟨t,[],[]⟩).2.2=0):Lie c (runGo c l 0 ⟨t,[],[]⟩).1.st :=
 ⟨⟨h.rdy.few,runGo_right h.rdy.st he⟩,runGo_still h.still he⟩
theorem startR_bad {c:Ct} (hc:c.check=0) (he:(startR c).2.2 ≠ 0):(startR c).2.2=21:=by
 rw [startR_eq c hc] at he ⊢
 unfold restR restE at *
 rw [if_pos (beginV_right hc)] at *
 cases hZ:restV c (beginV c) with
 | none=>rfl
 | some x=>rw [hZ] at he; exact absurd rfl he
theorem startR_lie {c:Ct} (hs:c.small=true) (hc:c.check=0) (he:(startR c).2.2=0):Lie c (startR c).1:=by
 rw [startR_eq c hc] at he ⊢
 unfold restR restE at *
 rw [if_pos (beginV_right hc)] at *
 cases hZ:restV c (beginV c) with
 | none=>rw [hZ] at he; simp at he
 | some x =>
  obtain ⟨t,m⟩:=x
  exact ⟨⟨hs,restV_right (beginV_right hc) hZ⟩,restV_still hZ⟩
end Go.Proofs.YtbhkplbciajikaaGreat
