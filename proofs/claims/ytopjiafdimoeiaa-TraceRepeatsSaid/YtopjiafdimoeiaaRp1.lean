/- The first word, some times one after the other, in plain words. -/
import Derived.Test.YtopjiafdimoeiaaSw1
namespace Go.Proofs.Ytopjiafdimoeiaa
open Go Go.Am Go.Proofs
set_option maxRecDepth 100000
/-! ### whole steps are walked -/
theorem walk_step {s : Sq} (hs : okSq s) (m : Nat) (r : List Sk) : walkP s (place s m) (skOf s (m % s.steps.length) ++ r) = walkP s (place s (m + 1)) r := by
  have hm := hs.mod m
  have he : eats (skOf s (m % s.steps.length)) (skOf s (m % s.steps.length)) = some [] := by
    refine (eats_iff (hs.nodup hm)).2 ⟨hs.nodup hm, fun _ h => h, ?_⟩
    refine (List.filter_eq_nil_iff.2 fun y hy => ?_).symm
    simpa using hy
  rw [walkP_append]
  unfold place
  rw [walk_full (hs.nodup hm) he (hs.ne hm), next_place hs m]
  rfl
theorem walk_steps {s : Sq} (hs : okSq s) : ∀ (k m : Nat), walkP s (place s m) (stepsOf s m k) = some (place s (m + k))
  | 0, m => rfl
  | k + 1, m => by
    unfold stepsOf
    rw [walk_step hs, walk_steps hs k (m + 1)]
    rw [show m + 1 + k = m + (k + 1) by omega]
theorem stepsOf_add (s : Sq) : ∀ (a b m : Nat), stepsOf s m (a + b) = stepsOf s m a ++ stepsOf s (m + a) b
  | 0, b, m => by simp [stepsOf]
  | a + 1, b, m => by
    rw [show a + 1 + b = (a + b) + 1 by omega]
    unfold stepsOf
    rw [stepsOf_add s a b (m + 1), List.append_assoc, show m + 1 + a = m + (a + 1) by omega]
    cases b <;> rfl
theorem stepsOf_take {s : Sq} : ∀ {i : Nat}, i ≤ s.steps.length → stepsOf s 0 i = firstW (s.steps.take i)
  | 0, _ => rfl
  | i + 1, h => by
    have hi : i < s.steps.length := h
    rw [stepsOf_add s i 1 0, stepsOf_take (Nat.le_of_lt hi), firstW_take hi]
    simp only [stepsOf, Nat.zero_add, Nat.mod_eq_of_lt hi, List.append_nil]
    rw [(skOf_at hi).2]
theorem stepsOf_shift {s : Sq} (m : Nat) : ∀ k, stepsOf s (m + s.steps.length) k = stepsOf s m k
  | 0 => rfl
  | k + 1 => by
    unfold stepsOf
    rw [Nat.add_mod_right, show m + s.steps.length + 1 = m + 1 + s.steps.length by omega, stepsOf_shift (m + 1) k]
/-- The first word n times. -/
def repW (F : List Sk) : Nat → List Sk
  | 0 => []
  | n + 1 => F ++ repW F n
theorem repW_len (F : List Sk) : ∀ n, (repW F n).length = n * F.length
  | 0 => by simp [repW]
  | n + 1 => by
    rw [repW, List.length_append, repW_len F n, Nat.add_mul, Nat.one_mul, Nat.add_comm]
theorem stepsOf_rep (s : Sq) : ∀ n, stepsOf s 0 (n * s.steps.length) = repW (firstW s.steps) n
  | 0 => by simp [stepsOf, repW]
  | n + 1 => by
    rw [Nat.add_mul, Nat.one_mul, Nat.add_comm, stepsOf_add, stepsOf_take (Nat.le_refl _), List.take_length, Nat.zero_add]
    have := stepsOf_shift (s := s) 0 (n * s.steps.length)
    rw [Nat.zero_add] at this
    rw [this, stepsOf_rep s n]
    rfl
theorem repW_succ (F : List Sk) : ∀ n, repW F (n + 1) = repW F n ++ F
  | 0 => by simp [repW]
  | n + 1 => by
    show F ++ repW F (n + 1) = F ++ repW F n ++ F
    rw [repW_succ F n, List.append_assoc]
/-- What is repeated, and some strokes more, is a beginning. -/
theorem rep_walk {s : Sq} (hs : okSq s) (n c : Nat) : (walkN s (repW (firstW s.steps) n ++ (firstW s.steps).take c) (repW (firstW s.steps) n ++ (firstW s.steps).take c).length).isSome = true := by
  have h1 := walk_steps hs ((n + 1) * s.steps.length) 0
  rw [stepsOf_rep, place0] at h1
  have h2 : (walkN s (repW (firstW s.steps) (n + 1)) (repW (firstW s.steps) (n + 1)).length).isSome = true := by
    unfold walkN
    rw [List.take_length, h1]
    rfl
  have h3 : repW (firstW s.steps) n ++ (firstW s.steps).take c = (repW (firstW s.steps) (n + 1)).take (repW (firstW s.steps) n ++ (firstW s.steps).take c).length := by
    have e : repW (firstW s.steps) (n + 1) = (repW (firstW s.steps) n ++ (firstW s.steps).take c) ++ (firstW s.steps).drop c := by rw [repW_succ, List.append_assoc, List.take_append_drop]
    rw [e, List.take_left' rfl]
  have h4 : (repW (firstW s.steps) n ++ (firstW s.steps).take c).length ≤ (repW (firstW s.steps) (n + 1)).length := by
    rw [repW_succ, List.length_append, List.length_append, List.length_take]
    omega
  have h5 := walkN_le h4 h2
  unfold walkN at h5 ⊢
  rw [List.take_length]
  rw [← h3] at h5
  exact h5
theorem first_ok {s : Sq} (hs : okSq s) : ∀ x ∈ firstW s.steps, skErr x = 0 := by
  intro x hx
  unfold firstW at hx
  obtain ⟨t, ht, hxt⟩ := List.mem_flatMap.1 hx
  obtain ⟨p, h1, h2⟩ := (stepErr_ok (hs.er t ht).2).2.2.2 x hxt
  unfold skErr okAct
  rw [if_pos]
  simp
  omega
theorem rep_mem {F : List Sk} {x : Sk} : ∀ {n : Nat}, x ∈ repW F n → x ∈ F
  | 0, h => by cases h
  | n + 1, h => by
    rcases List.mem_append.1 h with h | h
    · exact h
    · exact rep_mem h
theorem first_few {s : Sq} (hs : okSq s) : (firstW s.steps).length ≤ 384 := by
  have h1 := firstW_len (l := s.steps) hs.st.2.2
  have h2 := hs.st.2.1
  omega
theorem rep_few {s : Sq} (hs : okSq s) {n c : Nat} (hn : n ≤ 2) : (repW (firstW s.steps) n ++ (firstW s.steps).take c).length ≤ 1152 := by
  have h1 := first_few hs
  rw [List.length_append, repW_len, List.length_take]
  have h2 : n * (firstW s.steps).length ≤ 2 * 384 := Nat.mul_le_mul hn h1
  omega
theorem rep_ck {s : Sq} (hs : okSq s) {n c : Nat} (hn : n ≤ 2) : ckErr (repW (firstW s.steps) n ++ (firstW s.steps).take c) = 0 := by
  have h1 := rep_few hs (c := c) hn
  unfold ckErr
  rw [if_neg (by omega), firstErr_iff]
  intro x hx
  rcases List.mem_append.1 hx with hx | hx
  · exact first_ok hs x (rep_mem hx)
  · exact first_ok hs x (List.mem_of_mem_take hx)
theorem rep_beg {s : Sq} (hr : refErr s = 0) {n c : Nat} (hn : n ≤ 2) : begErr s (repW (firstW s.steps) n ++ (firstW s.steps).take c) = 0 := by
  have hs := okSq_of hr
  unfold begErr
  have hg : givErr s (repW (firstW s.steps) n ++ (firstW s.steps).take c) = 0 := by
    unfold givErr
    rw [if_pos hr]
    exact rep_ck hs hn
  rw [if_pos hg, if_pos (rep_walk hs n c)]
/-- What is repeated is in normal form. -/
theorem rep_norm {s : Sq} (hs : okSq s) {n : Nat} {B : List (List Sk)} {left : List Sk} (h : Beg s (repW (firstW s.steps) n) B left) : normW B = repW (firstW s.steps) n := by
  obtain ⟨full, done, rfl, hW⟩ := h.ex
  obtain ⟨a1, a2⟩ := hW.bound hs
  have hlen := repW_len (firstW s.steps) n
  have hn0 := hs.st.1
  have hu : upToM s (n * s.steps.length) = n * (firstW s.steps).length := by
    unfold upToM
    rw [Nat.mul_div_cancel _ hn0, Nat.mul_mod_left]
    have : upTo s 0 = 0 := rfl
    omega
  have hstrict : ∀ m, upToM s m < upToM s (m + 1) := fun m => by
    have h1 := upToM_succ hs m
    have h2 : (skOf s (m % s.steps.length)).length ≠ 0 := fun e => hs.ne (hs.mod m) (List.length_eq_zero_iff.1 e)
    omega
  have hfl : full.length = n * s.steps.length := by
    rcases Nat.lt_trichotomy full.length (n * s.steps.length) with hlt | he | hlt
    · have := upToM_mono hs (m := full.length + 1) (k := n * s.steps.length) hlt
      omega
    · exact he
    · have h1 := upToM_mono hs (m := n * s.steps.length + 1) (k := full.length) hlt
      have h2 := hstrict (n * s.steps.length)
      omega
  have h1 := flat_len hs full 0 hW.whole
  have h4 := congrArg List.length hW.flat
  have h5 : upToM s 0 = 0 := by simp [upToM, upTo, firstW]
  rw [List.length_append, List.take_length] at h4
  rw [h5, Nat.zero_add, Nat.zero_add, hfl, hu] at h1
  have hd : done = [] := List.length_eq_zero_iff.1 (by omega)
  have hnf := full_norm hs hW.whole
  rw [hfl, stepsOf_rep] at hnf
  unfold normW at hnf ⊢
  rw [blocks, List.flatMap_append, hnf, hd]
  simp [srt]
/-! ### the ends -/
theorem hit_ends {n : Nat} : ∀ {w r : List Sk} {e : List Bool}, diff w → (∀ y ∈ w, 0 ≤ y.act) → far n w = 0 → hit e w = 0 → endsGo n e (w ++ r) = endsGo n (beh e w) r
  | [], r, e, _, _, _, _ => rfl
  | y :: w, r, e, hd, h0, hf, hh => by
    obtain ⟨d1, d2⟩ := List.pairwise_cons.1 hd
    simp only [far] at hf
    simp only [hit] at hh
    split at hf
    · cases hf
    · rename_i hlt
      split at hh
      · cases hh
      · rename_i hne
        simp only [List.cons_append, endsGo]
        rw [if_neg hlt, if_neg hne]
        have hh' : ∀ {v : List Sk}, (∀ z ∈ v, z ∈ w) → hit e v = 0 → hit (e.set y.act.toNat y.out) v = 0 := by
          intro v
          induction v with
          | nil => intro _ _; rfl
          | cons z v ih =>
            intro hsub hz
            simp only [hit] at hz ⊢
            split at hz
            · cases hz
            · rename_i hzn
              have hzw := hsub z (by simp)
              have hzy := d1 z hzw
              have hz0 := h0 z (by simp [hzw])
              have hy0 := h0 y (by simp)
              rw [List.getElem?_set_ne (by omega), if_neg hzn]
              exact ih (fun u hu => hsub u (by simp [hu])) hz
        rw [hit_ends d2 (fun z hz => h0 z (by simp [hz])) hf (hh' (fun _ h => h) hh)]
        rfl
theorem steps_ends {n : Nat} : ∀ {l : List Stp} {e : List Bool} {r : List Sk}, (refGo n e l).1 = 0 → (∀ t ∈ l, diff t.sk) → (∀ t ∈ l, ∀ y ∈ t.sk, 0 ≤ y.act) → endsGo n e (firstW l ++ r) = endsGo n (refGo n e l).2 r
  | [], e, r, _, _, _ => rfl
  | t :: l, e, r, h, hd, h0 => by
    simp only [refGo] at h ⊢
    split at h
    · rename_i hf
      rw [if_pos hf]
      have hf' := hf
      unfold fitErr at hf'
      split at hf'
      · split at hf'
        · rename_i hfar
          have e1 : firstW (t :: l) ++ r = t.sk ++ (firstW l ++ r) := by
            unfold firstW
            rw [List.flatMap_cons, List.append_assoc]
          rw [e1, hit_ends (hd t (by simp)) (h0 t (by simp)) hfar hf']
          exact steps_ends h (fun u hu => hd u (by simp [hu])) fun u hu => h0 u (by simp [hu])
        · rename_i hfar
          exact absurd hf' hfar
      · rename_i hse
        exact absurd hf' hse
    · rename_i hf
      exact absurd h hf
theorem refGo_len {n : Int} : ∀ {l : List Stp} {e : List Bool}, (refGo n e l).2.length = e.length
  | [], e => rfl
  | t :: l, e => by
    simp only [refGo]
    split
    · rw [refGo_len, beh_len]
    · rfl
theorem endsGo_app {n : Nat} : ∀ {a b : List Sk} {e : List Bool}, (endsGo n e (a ++ b)).2 = 0 → (endsGo n e a).2 = 0
  | [], b, e, _ => rfl
  | y :: a, b, e, h => by
    simp only [List.cons_append, endsGo] at h ⊢
    split
    · rename_i h1; rw [if_pos h1] at h; exact h
    · rename_i h1
      rw [if_neg h1] at h
      split
      · rename_i h2; rw [if_pos h2] at h; exact h
      · rename_i h2
        rw [if_neg h2] at h
        exact endsGo_app h
theorem endsGo_len {n : Nat} : ∀ {a : List Sk} {e : List Bool}, (endsGo n e a).2 = 0 → (endsGo n e a).1.length = e.length
  | [], e, _ => rfl
  | y :: a, e, h => by
    simp only [endsGo] at h ⊢
    split
    · rename_i h1; rw [if_pos h1] at h; cases h
    · rename_i h1
      rw [if_neg h1] at h
      split
      · rename_i h2; rw [if_pos h2] at h; cases h
      · rename_i h2
        rw [if_neg h2] at h
        rw [endsGo_len h]
        simp
theorem all_false : ∀ {e : List Bool}, ¬ true ∈ e → e = List.replicate e.length false
  | [], _ => rfl
  | b :: e, h => by
    have hb : b = false := by
      cases b with
      | false => rfl
      | true => exact absurd (by simp) h
    have := all_false (e := e) fun hm => h (by simp [hm])
    rw [List.length_cons, List.replicate_succ, ← this, hb]
theorem ref_parts {s : Sq} (h : refErr s = 0) : 1 ≤ s.act ∧ s.act ≤ 6 ∧ (refGo s.act (List.replicate s.act.toNat false) s.steps).1 = 0 ∧ ¬ true ∈ (refGo s.act (List.replicate s.act.toNat false) s.steps).2 := by
  unfold refErr at h
  split at h
  · cases h
  · rename_i ha
    split at h
    · cases h
    · split at h
      · cases h
      · split at h
        · rename_i hst
          unfold stpErr at hst
          split at hst
          · rename_i h0
            split at hst
            · cases hst
            · rename_i hno
              exact ⟨by omega, by omega, h0, hno⟩
          · rename_i h0
            exact absurd hst h0
        · rename_i hst
          exact absurd h hst
theorem rep_ends {s : Sq} (hr : refErr s = 0) {n c : Nat} (hn : n ≤ 2) : ∃ l, endsE (repW (firstW s.steps) n ++ (firstW s.steps).take c) s.act = (l, 0) ∧ (l.length : Int) = s.act := by
  have hs := okSq_of hr
  obtain ⟨h1, h6, hg, hno⟩ := ref_parts hr
  obtain ⟨m, hm⟩ : ∃ m : Nat, s.act = m := ⟨s.act.toNat, by omega⟩
  rw [hm, Int.toNat_natCast] at hg hno
  have hdiff : ∀ t ∈ s.steps, diff t.sk := fun t ht => asc_diff (hs.pw ht)
  have hpos : ∀ t ∈ s.steps, ∀ y ∈ t.sk, 0 ≤ y.act := fun t ht y hy => by
    obtain ⟨p, h1, _⟩ := (stepErr_ok (hs.er t ht).2).2.2.2 y hy
    omega
  have hback : (refGo m (List.replicate m false) s.steps).2 = List.replicate m false := by
    have h2 := all_false hno
    rw [refGo_len, List.length_replicate] at h2
    exact h2
  have hone : ∀ r, endsGo m (List.replicate m false) (firstW s.steps ++ r) = endsGo m (List.replicate m false) r := fun r => by
    have := steps_ends (n := m) (r := r) hg hdiff hpos
    rw [hback] at this
    exact this
  have hrep : ∀ (k : Nat) (r : List Sk), endsGo m (List.replicate m false) (repW (firstW s.steps) k ++ r) = endsGo m (List.replicate m false) r := by
    intro k
    induction k with
    | zero => intro r; rfl
    | succ k ih =>
      intro r
      rw [repW, List.append_assoc, hone, ih]
  have hpre : (endsGo m (List.replicate m false) ((firstW s.steps).take c)).2 = 0 := by
    refine endsGo_app (b := (firstW s.steps).drop c) ?_
    rw [List.take_append_drop]
    have := hone []
    rw [List.append_nil] at this
    rw [this]
    rfl
  unfold endsE
  rw [if_neg (by rw [rep_ck hs hn]; simp), if_pos ⟨h1, h6⟩, hm, Int.toNat_natCast, hrep]
  refine ⟨(endsGo m (List.replicate m false) ((firstW s.steps).take c)).1, Prod.ext rfl hpre, ?_⟩
  rw [endsGo_len hpre, List.length_replicate]
end Go.Proofs.Ytopjiafdimoeiaa
