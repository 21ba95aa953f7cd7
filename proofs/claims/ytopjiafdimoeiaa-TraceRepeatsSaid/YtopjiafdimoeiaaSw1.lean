/- Beginnings with the same strokes, in plain words. -/
import Derived.Test.YtopjiafdimoeiaaFm2
namespace Go.Proofs.Ytopjiafdimoeiaa
open Go Go.Am Go.Proofs
set_option maxRecDepth 100000
theorem eats_iff : ∀ {d l left : List Sk}, l.Nodup → (eats l d = some left ↔ (d.Nodup ∧ (∀ y ∈ d, y ∈ l) ∧ left = l.filter fun y => decide (¬ y ∈ d)))
  | [], l, left, _ => by
    simp only [eats, Option.some.injEq]
    constructor
    · intro h
      refine ⟨List.Pairwise.nil, fun _ h => (nomatch h), ?_⟩
      rw [← h]
      exact (List.filter_eq_self.2 fun y _ => by simp).symm
    · rintro ⟨_, _, h⟩
      rw [h]
      exact (List.filter_eq_self.2 fun y _ => by simp).symm
  | x :: d, l, left, hn => by
    simp only [eats]
    by_cases hx : x ∈ l
    · rw [if_pos hx, eats_iff (minus_nodup hn)]
      have hf : (minus l x).filter (fun y => decide (¬ y ∈ d)) = l.filter fun y => decide (¬ y ∈ x :: d) := by
        unfold minus
        rw [List.filter_filter]
        refine List.filter_congr fun y _ => ?_
        by_cases h1 : y = x <;> by_cases h2 : y ∈ d <;> simp [h1, h2]
      rw [hf]
      constructor
      · rintro ⟨h1, h2, h3⟩
        refine ⟨List.Pairwise.cons (fun y hy e => (mem_minus.1 (h2 y hy)).2 e.symm) h1, fun y hy => ?_, h3⟩
        rcases List.mem_cons.1 hy with rfl | hy
        · exact hx
        · exact (mem_minus.1 (h2 y hy)).1
      · rintro ⟨h1, h2, h3⟩
        obtain ⟨a1, a2⟩ := List.pairwise_cons.1 h1
        exact ⟨a2, fun y hy => mem_minus.2 ⟨h2 y (by simp [hy]), fun e => a1 y hy e.symm⟩, h3⟩
    · rw [if_neg hx]
      constructor
      · intro h; cases h
      · rintro ⟨_, h2, _⟩
        exact absurd (h2 x (by simp)) hx
theorem eats_of_perm {d d' l left : List Sk} (hn : l.Nodup) (h : d'.Perm d) (he : eats l d = some left) : eats l d' = some left := by
  obtain ⟨h1, h2, h3⟩ := (eats_iff hn).1 he
  refine (eats_iff hn).2 ⟨h.nodup_iff.2 h1, fun y hy => h2 y (h.mem_iff.1 hy), ?_⟩
  rw [h3]
  exact List.filter_congr fun y _ => by simp [h.mem_iff]
theorem eats_full {d l : List Sk} (hn : l.Nodup) (he : eats l d = some []) : d.Perm l := by
  obtain ⟨h1, h2, h3⟩ := (eats_iff hn).1 he
  refine (List.perm_ext_iff_of_nodup h1 hn).2 fun y => ⟨h2 y, fun hy => ?_⟩
  have := List.filter_eq_nil_iff.1 h3.symm y hy
  simpa using this
/-! ### what whole steps are -/
def stepsOf (s : Sq) : Nat → Nat → List Sk
  | _, 0 => []
  | m, k + 1 => skOf s (m % s.steps.length) ++ stepsOf s (m + 1) k
theorem full_perm {s : Sq} (hs : okSq s) : ∀ {full : List (List Sk)} {m : Nat}, isFull s m full → full.flatten.Perm (stepsOf s m full.length)
  | [], m, _ => List.Perm.refl _
  | d :: full, m, h => by
    rw [List.flatten_cons]
    exact (eats_full (hs.nodup (hs.mod m)) h.1).append (full_perm hs h.2)
theorem full_norm {s : Sq} (hs : okSq s) : ∀ {full : List (List Sk)} {m : Nat}, isFull s m full → normW full = stepsOf s m full.length
  | [], m, _ => rfl
  | d :: full, m, h => by
    have h1 := full_norm hs h.2
    have ha := hs.asc (hs.mod m)
    unfold normW at h1 ⊢
    rw [List.flatMap_cons, h1, srt_of_perm (eats_full (hs.nodup (hs.mod m)) h.1) (asc_diff ha), srt_of_asc ha]
    rfl
theorem upToM_mono {s : Sq} (hs : okSq s) {m k : Nat} (h : m ≤ k) : upToM s m ≤ upToM s k := by
  induction k with
  | zero =>
    have : m = 0 := by omega
    rw [this]; exact Nat.le_refl _
  | succ k ih =>
    by_cases e : m = k + 1
    · rw [e]; exact Nat.le_refl _
    · have h1 := ih (by omega)
      have h2 := upToM_succ hs k
      omega
theorem isWalk.bound {s : Sq} (hs : okSq s) {w : List Sk} {full : List (List Sk)} {done left : List Sk} (h : isWalk s w w.length full done left) : upToM s full.length ≤ w.length ∧ w.length < upToM s (full.length + 1) := by
  have h1 := flat_len hs full 0 h.whole
  have h2 := (eats_nodup h.part (hs.nodup (hs.mod _))).2
  have h3 : left.length ≠ 0 := fun e => h.rest (List.length_eq_zero_iff.1 e)
  have h4 := congrArg List.length h.flat
  have h5 : upToM s 0 = 0 := by simp [upToM, upTo, firstW]
  have h6 := upToM_succ hs full.length
  rw [List.length_append, List.take_length] at h4
  rw [h5, Nat.zero_add, Nat.zero_add] at h1
  omega
theorem same_full {s : Sq} (hs : okSq s) {w v : List Sk} (hl : w.length = v.length) {full full' : List (List Sk)} {done left done' left' : List Sk} (h : isWalk s w w.length full done left) (h' : isWalk s v v.length full' done' left') : full.length = full'.length := by
  obtain ⟨a1, a2⟩ := h.bound hs
  obtain ⟨b1, b2⟩ := h'.bound hs
  rcases Nat.lt_trichotomy full.length full'.length with hlt | he | hlt
  · have := upToM_mono hs (m := full.length + 1) (k := full'.length) hlt
    omega
  · exact he
  · have := upToM_mono hs (m := full'.length + 1) (k := full.length) hlt
    omega
theorem beg_perm {s : Sq} (hs : okSq s) {w v : List Sk} (hp : w.Perm v) {A B : List (List Sk)} {left left' : List Sk} (h : Beg s w A left) (h' : Beg s v B left') : normW A = normW B ∧ left = left' := by
  obtain ⟨full, done, rfl, hW⟩ := h.ex
  obtain ⟨full', done', rfl, hV⟩ := h'.ex
  have hlen := same_full hs hp.length_eq hW hV
  have e1 := hW.flat
  have e2 := hV.flat
  rw [List.take_length] at e1 e2
  have q1 : w.Perm (stepsOf s 0 full.length ++ done) := by rw [← e1]; exact (full_perm hs hW.whole).append_right _
  have q2 : v.Perm (stepsOf s 0 full.length ++ done') := by rw [← e2, hlen]; exact (full_perm hs hV.whole).append_right _
  have hd : done.Perm done' := (List.perm_append_left_iff _).1 (q1.symm.trans (hp.trans q2))
  have hgood := hV.good hs done' (by simp [blocks])
  constructor
  · have n1 := full_norm hs hW.whole
    have n2 := full_norm hs hV.whole
    unfold normW at n1 n2 ⊢
    simp only [blocks, List.flatMap_append, List.flatMap_cons, List.flatMap_nil, List.append_nil]
    rw [n1, n2, hlen, srt_of_perm hd hgood.diff]
  · have hm := hs.nodup (hs.mod full.length)
    have p1 := eats_of_perm hm hd.symm hW.part
    have p2 := hV.part
    rw [← hlen] at p2
    rw [p1] at p2
    exact Option.some.inj p2
theorem flat_srt : ∀ full : List (List Sk), (full.map srt).flatten = normW full
  | [] => rfl
  | d :: full => by
    have := flat_srt full
    unfold normW at this ⊢
    rw [List.map_cons, List.flatten_cons, List.flatMap_cons, this]
theorem isFull_srt {s : Sq} (hs : okSq s) : ∀ {full : List (List Sk)} {m : Nat}, isFull s m full → isFull s m (full.map srt)
  | [], _, _ => trivial
  | d :: _, m, h => ⟨eats_of_perm (hs.nodup (hs.mod m)) (srt_perm d) h.1, isFull_srt hs h.2⟩
theorem beg_norm {s : Sq} (hs : okSq s) {w : List Sk} {B : List (List Sk)} {left : List Sk} (h : Beg s w B left) : Beg s (normW B) (B.map srt) left := by
  obtain ⟨full, done, rfl, hW⟩ := h.ex
  have hl : (full.map srt).length = full.length := List.length_map _
  refine ⟨full.map srt, srt done, by simp [blocks], ⟨Nat.le_refl _, ?_, isFull_srt hs hW.whole, ?_, hW.rest, fun y hy => ?_⟩⟩
  · rw [List.take_length, flat_srt]
    simp [blocks, normW]
  · rw [hl]
    exact eats_of_perm (hs.nodup (hs.mod _)) (srt_perm done) hW.part
  · rw [List.getElem?_eq_none (Nat.le_refl _)] at hy
    cases hy
theorem normW_perm : ∀ B : List (List Sk), (normW B).Perm B.flatten
  | [] => List.Perm.refl _
  | d :: B => by
    have := normW_perm B
    unfold normW at this ⊢
    rw [List.flatMap_cons, List.flatten_cons]
    exact (srt_perm d).append this
theorem Beg.perm {s : Sq} {w : List Sk} {B : List (List Sk)} {left : List Sk} (h : Beg s w B left) : (normW B).Perm w := by
  have := normW_perm B
  rw [h.flat] at this
  exact this
/-! ### errors -/
theorem firstErr_iff : ∀ w : List Sk, firstErr w = 0 ↔ ∀ x ∈ w, skErr x = 0
  | [] => by simp [firstErr]
  | x :: w => by
    have := firstErr_iff w
    simp only [firstErr, List.mem_cons, forall_eq_or_imp]
    by_cases h : skErr x = 0
    · rw [if_pos h, this]
      exact ⟨fun a => ⟨h, a⟩, fun a => a.2⟩
    · rw [if_neg h]
      exact ⟨fun a => absurd a h, fun a => absurd a.1 h⟩
theorem givErr_perm {s : Sq} {w v : List Sk} (hp : v.Perm w) (h : givErr s w = 0) : givErr s v = 0 := by
  obtain ⟨h1, h2⟩ := givErr_ok h
  unfold givErr
  rw [if_pos h1]
  unfold ckErr at h2 ⊢
  rw [hp.length_eq]
  split at h2
  · cases h2
  · rename_i hlt
    rw [if_neg hlt]
    rw [firstErr_iff] at h2 ⊢
    exact fun x hx => h2 x (hp.mem_iff.1 hx)
theorem begErr_Beg {s : Sq} {w : List Sk} {B : List (List Sk)} {left : List Sk} (h : Beg s w B left) (hg : givErr s w = 0) : begErr s w = 0 := by
  obtain ⟨full, done, rfl, hW⟩ := h.ex
  have hs := okSq_of (givErr_ok hg).1
  have := hW.here hs
  unfold begErr
  rw [if_pos hg, this]
  rfl
end Go.Proofs.Ytopjiafdimoeiaa
