/- Program and reference agree on sequences. -/
import Derived.Test.YtopjiafdimoeiaaSq6
namespace Go.Proofs.Ytopjiafdimoeiaa
open Go Go.Am Go.Proofs
set_option maxRecDepth 100000
theorem hit_take {x : List Bool} {n : Nat} : ∀ {w : List Sk}, (∀ y ∈ w, ∃ p : Nat, y.act = p ∧ p < n) → hit (x.take n) w = hit x w
  | [], _ => rfl
  | y :: r, h => by
    obtain ⟨p, hp, hlt⟩ := h y (by simp)
    simp only [hit, hp, Int.toNat_natCast, List.getElem?_take_of_lt hlt, hit_take (w := r) fun z hz => h z (by simp [hz])]
theorem beh_cut {n : Nat} : ∀ {w : List Sk} {x : List Bool}, (∀ y ∈ w, ∃ p : Nat, y.act = p ∧ p < n) → (beh x w).take n = beh (x.take n) w ∧ (beh x w).drop n = x.drop n
  | [], x, _ => ⟨rfl, rfl⟩
  | y :: r, x, h => by
    obtain ⟨p, hp, hlt⟩ := h y (by simp)
    have e : beh x (y :: r) = beh (x.set p y.out) r := by show beh (x.set y.act.toNat y.out) r = _; rw [hp]; rfl
    have e' : beh (x.take n) (y :: r) = beh ((x.take n).set p y.out) r := by show beh ((x.take n).set y.act.toNat y.out) r = _; rw [hp]; rfl
    obtain ⟨h1, h2⟩ := beh_cut (x := x.set p y.out) (w := r) fun z hz => h z (by simp [hz])
    rw [e, e', h1, h2, List.take_set, List.drop_set_of_lt hlt]
    exact ⟨rfl, rfl⟩
theorem wayOf_ne : ∀ {w : List Sk} {a : Int}, wayOf w a ≠ 0 ↔ ∃ y ∈ w, y.act = a
  | [], a => by simp [wayOf]
  | y :: r, a => by
    simp only [wayOf]
    split
    · rename_i h
      constructor
      · intro _; exact ⟨y, by simp, h⟩
      · intro _; split <;> omega
    · rename_i h
      rw [wayOf_ne]
      simp [h]
theorem mov_get : ∀ {w : List Sk} {m : List Bool} {i : Nat}, (∀ y ∈ w, ∃ p : Nat, y.act = p ∧ p < m.length) → ((mov m w)[i]? = some true ↔ m[i]? = some true ∨ wayOf w i ≠ 0)
  | [], m, i, _ => by simp [mov, wayOf]
  | y :: r, m, i, h => by
    obtain ⟨p, hp, hlt⟩ := h y (by simp)
    have e : mov m (y :: r) = mov (m.set p true) r := by show mov (m.set y.act.toNat true) r = _; rw [hp]; rfl
    have ih := mov_get (w := r) (m := m.set p true) (i := i) fun z hz => by
      obtain ⟨q, h1, h2⟩ := h z (by simp [hz])
      exact ⟨q, h1, by simpa using h2⟩
    rw [e, ih, wayOf_ne, wayOf_ne, List.getElem?_set]
    by_cases hpi : p = i
    · subst hpi
      simp [hlt, hp]
    · have : ¬ (y.act = (i : Int)) := by omega
      simp [hpi, this]
theorem fit_ok {n : Int} {x : List Bool} {t : Stp} (h : fitErr n x t = 0) : stepErr t = 0 ∧ far n t.sk = 0 := by
  unfold fitErr at h
  split at h
  · rename_i hs
    split at h
    · exact ⟨hs, by assumption⟩
    · contradiction
  · contradiction
theorem acts_of {n : Nat} {t : Stp} (hs : stepErr t = 0) (hf : far n t.sk = 0) : ∀ y ∈ t.sk, ∃ p : Nat, y.act = p ∧ p < n := fun y hy => by
  obtain ⟨p, h1, _⟩ := (stepErr_ok hs).2.2.2 y hy
  have := far_ok hf y hy
  exact ⟨p, h1, by omega⟩
theorem fit_take (n : Nat) (x : List Bool) (t : Stp) : fitErr n (x.take n) t = fitErr n x t := by
  unfold fitErr
  split
  · rename_i hs
    split
    · rename_i hf
      exact hit_take (acts_of hs hf)
    · rfl
  · rfl
theorem go_agree (n : Nat) (hn : n ≤ 6) : ∀ (w : List Stp) (x m : List Bool), x.length = 6 → m.length = 6 → (seqGo n x m w).1 = (refGo n (x.take n) w).1 ∧ ((seqGo n x m w).1 = 0 →
    (refGo n (x.take n) w).2 = (seqGo n x m w).2.1.take n ∧ (seqGo n x m w).2.1.drop n = x.drop n ∧ (seqGo n x m w).2.1.length = 6 ∧ (seqGo n x m w).2.2.length = 6 ∧ ∀ i : Nat, (seqGo n x m w).2.2[i]? = some true ↔ (m[i]? = some true ∨ movesOf w i = true))
  | [], x, m, hx, hm => by simp [seqGo, refGo, movesOf, hx, hm]
  | t :: r, x, m, hx, hm => by
    simp only [seqGo, refGo, fit_take]
    by_cases hf : fitErr n x t = 0
    · rw [if_pos hf, if_pos hf]
      obtain ⟨hs, hfar⟩ := fit_ok hf
      have ha := acts_of hs hfar
      obtain ⟨b1, b2⟩ := beh_cut (x := x) ha
      obtain ⟨g1, g2⟩ := go_agree n hn r (beh x t.sk) (mov m t.sk) (by rw [beh_len, hx]) (by rw [mov_len, hm])
      rw [b1] at g1 g2
      refine ⟨g1, fun h0 => ?_⟩
      obtain ⟨k1, k2, k3, k4, k5⟩ := g2 h0
      refine ⟨k1, by rw [k2, b2], k3, k4, fun i => ?_⟩
      rw [k5 i, mov_get fun y hy => by
        obtain ⟨p, h1, h2⟩ := ha y hy
        exact ⟨p, h1, by omega⟩]
      simp only [movesOf]
      by_cases hwy : wayOf t.sk i = 0
      · simp [hwy]
      · simp [hwy]
    · rw [if_neg hf, if_neg hf]
      exact ⟨rfl, fun h0 => absurd h0 hf⟩
theorem seq_agree (s : Sq) : seqErr s = refErr s := by
  unfold seqErr refErr
  by_cases h1 : s.act < 1 ∨ 6 < s.act
  · simp [h1]
  · simp only [if_neg h1]
    by_cases h2 : s.steps.length = 0
    · simp [h2]
    · simp only [if_neg h2]
      by_cases h3 : 64 < s.steps.length
      · simp [h3]
      · simp only [if_neg h3]
        obtain ⟨n, hn⟩ : ∃ n : Nat, s.act = n := ⟨s.act.toNat, by omega⟩
        have hn6 : n ≤ 6 := by omega
        obtain ⟨g1, g2⟩ := go_agree n hn6 s.steps no6 no6 (by simp) (by simp)
        have ht : no6.take n = List.replicate n false := by
          show (List.replicate 6 false).take n = _
          rw [List.take_replicate, Nat.min_eq_left hn6]
        rw [ht] at g1 g2
        unfold stpErr
        rw [hn]
        simp only [Int.toNat_natCast]
        rw [← g1]
        by_cases h4 : (seqGo n no6 no6 s.steps).1 = 0
        · obtain ⟨k1, k2, k3, k4, k5⟩ := g2 h4
          simp only [if_pos h4]
          have hz : (seqGo n no6 no6 s.steps).2.1 = no6 ↔ ¬ true ∈ (refGo n (List.replicate n false) s.steps).2 := by
            rw [k1]
            constructor
            · intro h
              rw [h, ht]
              simp
            · intro h
              have hd : (seqGo n no6 no6 s.steps).2.1.drop n = List.replicate (6 - n) false := by
                rw [k2]
                show (List.replicate 6 false).drop n = _
                rw [List.drop_replicate]
              have htk : (seqGo n no6 no6 s.steps).2.1.take n = List.replicate n false := by
                apply List.eq_replicate_iff.2
                refine ⟨by rw [List.length_take, k3]; omega, fun b hb => ?_⟩
                cases b with
                | false => rfl
                | true => exact absurd hb h
              rw [← List.take_append_drop n (seqGo n no6 no6 s.steps).2.1, hd, htk, List.replicate_append_replicate]
              congr 1
              omega
          have hmv : (false ∈ (seqGo n no6 no6 s.steps).2.2.take n) ↔ ¬ ∀ j : Nat, j < n → movesOf s.steps j = true := by
            constructor
            · intro h hh
              obtain ⟨j, hj⟩ := List.mem_iff_getElem?.1 h
              have hjn : j < n := by
                have := (List.getElem?_eq_some_iff.1 hj).1
                simp at this
                omega
              rw [List.getElem?_take_of_lt hjn] at hj
              have := (k5 j).2 (.inr (hh j hjn))
              rw [hj] at this
              cases this
            · intro h
              simp only [Classical.not_forall] at h
              obtain ⟨j, hj, hmo⟩ := h
              refine List.mem_iff_getElem?.2 ⟨j, ?_⟩
              rw [List.getElem?_take_of_lt hj]
              have hjl : j < (seqGo n no6 no6 s.steps).2.2.length := by omega
              rw [List.getElem?_eq_getElem hjl]
              cases hb : (seqGo n no6 no6 s.steps).2.2[j] with
              | false => rfl
              | true =>
                have := (k5 j).1 (by rw [List.getElem?_eq_getElem hjl, hb])
                rcases this with h1 | h1
                · have hj6 : j < 6 := by omega
                  have h2 : (List.replicate 6 false)[j]? = some true := h1
                  rw [List.getElem?_replicate, if_pos hj6] at h2
                  cases h2
                · exact absurd h1 hmo
          by_cases h5 : true ∈ (refGo n (List.replicate n false) s.steps).2
          · have hz' : ¬ (seqGo n no6 no6 s.steps).2.1 = no6 := fun h => hz.1 h h5
            simp [h5, hz']
          · have hz' := hz.2 h5
            simp only [if_neg h5, if_pos hz', if_true]
            by_cases h6 : ∀ j : Nat, j < n → movesOf s.steps j = true
            · rw [if_neg (fun h => hmv.1 h h6), if_pos h6]
            · rw [if_pos (hmv.2 h6), if_neg h6]
        · simp only [if_neg h4]
end Go.Proofs.Ytopjiafdimoeiaa
