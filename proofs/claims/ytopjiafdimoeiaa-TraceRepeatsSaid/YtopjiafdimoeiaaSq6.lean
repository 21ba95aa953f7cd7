/- Sequences checked by the reference, on. -/
import Derived.Test.YtopjiafdimoeiaaSq5
namespace Go.Proofs.Ytopjiafdimoeiaa
open Go Go.Am Go.Proofs
set_option maxRecDepth 100000
def I136c (s0 : Sq) (e : List Bool) (X : K) (v3 : V) (k : Nat) (st : St) : Prop := st.h = h136 s0 X ∧ st.s.length = 62 ∧ getS st.s 1 = .bptr 0 0 ∧ getS st.s 3 = v3 ∧ getS st.s 8 = num k ∧ ∀ j, j < k → e[j]? = some false
def Q136c (e : List Bool) (r : R) : Prop := r.st.s.length = 62 ∧ ((r.x = .exit 4 ∧ ¬ true ∈ e) ∨ (r.x = .ret ∧ getS r.st.s 2 = num 9 ∧ true ∈ e))
theorem loop136c (s0 : Sq) (e : List Bool) (X : K) (v3 : V) (hD : D e X v3) (hn6 : e.length ≤ 6) (hna : s0.act = e.length) (st : St) (h0 : I136c s0 e X v3 0 st) : ∃ r, ev pg (.code (.going 2 L136_2) st) = some r ∧ Q136c e r := by
  refine loop_from (I136c s0 e X v3) e.length (Q136c e) h0 ?_ ?_
  · rintro k ⟨s, h⟩ hk ⟨rfl, hl, e1, e3, e8, he⟩
    simp only at hl e1 e3 e8
    have hk' : (k : Int) < s0.act := by omega
    have wk := wrap_id (n := (k : Int) + 1) (by omega) (by omega)
    have hg : e[k]? = some e[k] := List.getElem?_eq_getElem hk
    rw [getS_expand hl]
    by_cases ha : e[k] = true
    · have hin : true ∈ e := List.mem_iff_getElem?.2 ⟨k, by rw [hg, ha]⟩
      rcases hD with ⟨rfl, rfl⟩ | ⟨R, rfl, rfl⟩
      · simp [L136_2, I136c, Q136c, List.range, List.range.loop, e1, e3, e8, hk, hk', hg, ha, hin]
      · simp [L136_2, I136c, Q136c, List.range, List.range.loop, e1, e3, e8, hk, hk', hg, ha, hin]
    · have ha' : e[k] = false := by simpa using ha
      have hnext : ∀ j, j < k + 1 → e[j]? = some false := by
        intro j hj
        by_cases hjk : j = k
        · subst hjk; rw [hg, ha']
        · exact he j (by omega)
      rcases hD with ⟨rfl, rfl⟩ | ⟨R, rfl, rfl⟩
      · simp [L136_2, I136c, Q136c, List.range, List.range.loop, e1, e3, e8, hk, hk', hg, ha', wk]
        exact hnext
      · simp [L136_2, I136c, Q136c, List.range, List.range.loop, e1, e3, e8, hk, hk', hg, ha', wk]
        exact hnext
  · rintro ⟨s, h⟩ ⟨rfl, hl, e1, e3, e8, he⟩
    simp only at hl e1 e3 e8
    have hno : ¬ true ∈ e := by
      intro hin
      obtain ⟨j, hj⟩ := List.mem_iff_getElem?.1 hin
      have hjl := (List.getElem?_eq_some_iff.1 hj).1
      rw [he j hjl] at hj
      cases hj
    rw [getS_expand hl]
    simp [L136_2, Q136c, List.range, List.range.loop, e1, e8, hna, hno]
def stpErr (s : Sq) : Int := if (refGo s.act (List.replicate s.act.toNat false) s.steps).1 = 0 then (if true ∈ (refGo s.act (List.replicate s.act.toNat false) s.steps).2 then 9 else 0) else (refGo s.act (List.replicate s.act.toNat false) s.steps).1
theorem ev136 (s0 : Sq) (h1 : 1 ≤ s0.act) (h6 : s0.act ≤ 6) (hw : s0.steps.length ≤ 64) : ev pg (.call (.fn 136 [] []) [s0.v] []) = some { v := num (stpErr s0), st := ⟨[], []⟩ } := by
  obtain ⟨n, hn⟩ : ∃ n : Nat, s0.act = n := ⟨s0.act.toNat, by omega⟩
  have hm1 : n ≤ 140737488355328 := by omega
  have hm2 : n ≤ 2 ^ 62 := by omega
  rw [ev_call, pg136]
  simp [ir136, hn, hm1, hm2, ev_loop]
  generalize hr : ev pg (.code (.going 2 L136_1) _) = o
  obtain ⟨r, rfl, hl, hQ⟩ : ∃ r, o = some r ∧ Q136 s0 n r := by
    rw [← hr]
    exact loop136 s0 n (by omega) hn hw _ ⟨List.replicate n false, .arr 1 ((List.replicate n false).map brow), .sl 1 0 1 0 n, by simp [hn], .inl ⟨rfl, by simp⟩, by simp, ⟨by simp [noNil], by simp, by simp, by simp⟩, by simp, by simp⟩
  rcases hQ with ⟨hx, e, X, v3, hh, hD, hen, hnn, g1, g3, hE⟩ | ⟨hx, g2, hE⟩
  · have hn1 : noNil (setS r.st.s 8 (.int .i64 0)) := noNil_set hnn (by simp)
    simp [hx, hh, hl, g1, g3, ev_loop, adopt_none _ hn1]
    generalize hr2 : ev pg (.code (.going 2 L136_2) _) = o2
    obtain ⟨r2, rfl, hl2, hQ2⟩ : ∃ r, o2 = some r ∧ Q136c e r := by rw [← hr2]; exact loop136c s0 e X v3 hD (by omega) (by omega) _ (by simp [I136c, hl, g1, g3])
    have hE' : refGo (n : Int) (List.replicate n false) s0.steps = (0, e) := by rw [← hn]; exact hE
    rcases hQ2 with ⟨hx2, hno⟩ | ⟨hx2, h2, hin⟩
    · simp [hx2, hl2, stpErr, hn, hE', hno]
    · simp [hx2, h2, stpErr, hn, hE', hin]
  · rw [hn] at hE g2
    simp [hx, g2, stpErr, hn, hE]
theorem refGo_ok {n : Int} : ∀ {w : List Stp} {e : List Bool}, (refGo n e w).1 = 0 → ∀ t ∈ w, stepErr t = 0 ∧ far n t.sk = 0
  | [], _, _, t, ht => by cases ht
  | u :: r, e, h, t, ht => by
    simp only [refGo] at h
    split at h
    · rename_i hf
      rcases List.mem_cons.1 ht with rfl | ht
      · unfold fitErr at hf
        split at hf
        · rename_i hs
          split at hf
          · exact ⟨hs, by assumption⟩
          · contradiction
        · contradiction
      · exact refGo_ok h t ht
    · contradiction
def I95 (s0 : Sq) (k : Nat) (st : St) : Prop := st.h = [⟨0, .box s0.cells⟩] ∧ st.s.length = 36 ∧ getS st.s 1 = .bptr 0 0 ∧ getS st.s 4 = num k ∧ ∀ j : Nat, j < k → movesOf s0.steps j = true
def Q95 (s0 : Sq) (n : Nat) (r : R) : Prop := r.st.s.length = 36 ∧ ((r.x = .exit 0 ∧ ∀ j : Nat, j < n → movesOf s0.steps j = true) ∨ (r.x = .ret ∧ getS r.st.s 2 = num 13 ∧ ¬ ∀ j : Nat, j < n → movesOf s0.steps j = true))
theorem loop95 (s0 : Sq) (n : Nat) (hna : s0.act = n) (hn6 : n ≤ 6) (hw : s0.steps.length ≤ 64) (h6 : ∀ t ∈ s0.steps, t.sk.length ≤ 6) (st : St) (h0 : I95 s0 0 st) : ∃ r, ev pg (.code (.going 1 L95_0) st) = some r ∧ Q95 s0 n r := by
  refine loop_from (I95 s0) n (Q95 s0 n) h0 ?_ ?_
  · rintro k ⟨s, h⟩ hk ⟨rfl, hl, e1, e4, he⟩
    simp only at hl e1 e4
    have hk' : (k : Int) < s0.act := by omega
    have wk := wrap_id (n := (k : Int) + 1) (by omega) (by omega)
    have hc := ev137 s0 k hw h6
    rw [getS_expand hl]
    by_cases ha : movesOf s0.steps k = true
    · have hnext : ∀ j : Nat, j < k + 1 → movesOf s0.steps j = true := by
        intro j hj
        by_cases hjk : j = k
        · subst hjk; exact ha
        · exact he j (by omega)
      simp [L95_0, I95, Q95, List.range, List.range.loop, e1, e4, hk', hc, ha, wk]
      exact hnext
    · have hno : ¬ ∀ j : Nat, j < n → movesOf s0.steps j = true := fun hh => ha (hh k hk)
      simp [L95_0, I95, Q95, List.range, List.range.loop, e1, e4, hk', hc, ha]
      exact ⟨k, hk, by simpa using ha⟩
  · rintro ⟨s, h⟩ ⟨rfl, hl, e1, e4, he⟩
    simp only at hl e1 e4
    rw [getS_expand hl]
    simp [L95_0, Q95, List.range, List.range.loop, e1, e4, hna]
    exact he
open Classical in
noncomputable def refErr (s : Sq) : Int := if s.act < 1 ∨ 6 < s.act then 2 else if s.steps.length = 0 then 13 else if 64 < s.steps.length then 5 else if stpErr s = 0 then (if ∀ j : Nat, j < s.act.toNat → movesOf s.steps j = true then 0 else 13) else stpErr s
theorem ev95 (s0 : Sq) : ev pg (.call (.fn 95 [] []) [s0.v] []) = some { v := num (refErr s0), st := ⟨[], []⟩ } := by
  rw [ev_call, pg95]
  by_cases h1 : s0.act < 1
  · simp [ir95, refErr, h1]
  · by_cases h2 : 6 < s0.act
    · simp [ir95, refErr, h1, h2]
    · by_cases h3 : s0.steps.length = 0
      · simp [ir95, refErr, h1, h2, h3]
      · have h3' : ¬ ((s0.steps.length : Int) = 0) := by omega
        by_cases h4 : 64 < s0.steps.length
        · have h4' : (64 : Int) < (s0.steps.length : Int) := by omega
          simp [ir95, refErr, h1, h2, h3, h4, h4']
        · have h4' : ¬ ((64 : Int) < (s0.steps.length : Int)) := by omega
          have hst := ev136 s0 (by omega) (by omega) (by omega)
          by_cases h5 : stpErr s0 = 0
          · obtain ⟨n, hn⟩ : ∃ n : Nat, s0.act = n := ⟨s0.act.toNat, by omega⟩
            have h6 : ∀ t ∈ s0.steps, t.sk.length ≤ 6 := by
              intro t ht
              unfold stpErr at h5
              split at h5
              · rename_i h0
                exact (stepErr_ok (refGo_ok h0 t ht).1).1
              · contradiction
            simp [ir95, refErr, h1, h2, h3, h4, h4', hst, h5, ev_loop]
            generalize hr : ev pg (.code (.going 1 L95_0) _) = o
            obtain ⟨r, rfl, hl, hQ⟩ : ∃ r, o = some r ∧ Q95 s0 n r := by rw [← hr]; exact loop95 s0 n hn (by omega) (by omega) h6 _ (by simp [I95])
            have hnn : s0.act.toNat = n := by omega
            rcases hQ with ⟨hx, hE⟩ | ⟨hx, h2, hE⟩
            · rw [hnn, if_pos hE]
              simp [hx, hl]
            · rw [hnn, if_neg hE]
              simp [hx, h2]
          · simp [ir95, refErr, h1, h2, h3, h4, h4', hst, h5]
end Go.Proofs.Ytopjiafdimoeiaa
