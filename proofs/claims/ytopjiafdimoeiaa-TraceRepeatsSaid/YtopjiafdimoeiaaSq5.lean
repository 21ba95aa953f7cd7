/- Sequences checked by the reference. -/
import Derived.Test.YtopjiafdimoeiaaSq4
namespace Go.Proofs.Ytopjiafdimoeiaa
open Go Go.Am Go.Proofs
set_option maxRecDepth 100000
/-! ### does an actuator move -/
def wayOf : List Sk → Int → Int
  | [], _ => 0
  | y :: r, a => if y.act = a then (if y.out then 1 else -1) else wayOf r a
theorem wayOf_at {w : List Sk} {k : Nat} {a : Int} (hk : k < w.length) : wayOf (w.drop k) a = if w[k].act = a then (if w[k].out then 1 else -1) else wayOf (w.drop (k + 1)) a := by
  rw [List.drop_eq_getElem_cons hk]; rfl
def I168 (t : Stp) (a : Int) (k : Nat) (st : St) : Prop := st.h = [⟨0, .box t.row⟩] ∧ st.s.length = 27 ∧ getS st.s 1 = num a ∧ getS st.s 2 = .bptr 0 0 ∧ getS st.s 5 = num k ∧ wayOf t.sk a = wayOf (t.sk.drop k) a
def Q168 (t : Stp) (a : Int) (r : R) : Prop := r.st.s.length = 27 ∧ ((r.x = .exit 0 ∧ wayOf t.sk a = 0) ∨ (r.x = .ret ∧ getS r.st.s 4 = num (wayOf t.sk a)))
theorem loop168 (t : Stp) (a : Int) (hw : t.sk.length ≤ 6) (st : St) (h0 : I168 t a 0 st) : ∃ r, ev pg (.code (.going 1 L168_0) st) = some r ∧ Q168 t a r := by
  refine loop_from (I168 t a) t.sk.length (Q168 t a) h0 ?_ ?_
  · rintro k ⟨s, h⟩ hk ⟨rfl, hl, e1, e2, e5, he⟩
    simp only at hl e1 e2 e5
    have hk' : (k : Int) < t.sk.length := by omega
    have wk := wrap_id (n := (k : Int) + 1) (by omega) (by omega)
    rw [wayOf_at hk] at he
    rw [getS_expand hl]
    by_cases ha : t.sk[k].act = a
    · rw [if_pos ha] at he
      by_cases hb : t.sk[k].out = true
      · rw [if_pos hb] at he
        simp [L168_0, I168, Q168, List.range, List.range.loop, e1, e2, e5, hk, hk', ha, hb, he]
      · rw [if_neg hb] at he
        simp [L168_0, I168, Q168, List.range, List.range.loop, e1, e2, e5, hk, hk', ha, hb, he]
    · rw [if_neg ha] at he
      simp [L168_0, I168, Q168, List.range, List.range.loop, e1, e2, e5, hk, hk', ha, he, wk]
  · rintro ⟨s, h⟩ ⟨rfl, hl, e1, e2, e5, he⟩
    simp only [List.drop_length] at hl e1 e2 e5 he
    rw [getS_expand hl]
    simp [L168_0, Q168, List.range, List.range.loop, e2, e5, he, wayOf]
theorem ev168 (t : Stp) (a : Int) (hw : t.sk.length ≤ 6) : ev pg (.call (.fn 168 [] []) [.agg t.row, num a] []) = some { v := num (wayOf t.sk a), st := ⟨[], []⟩ } := by
  rw [ev_call, pg168]
  simp [ir168, ev_loop]
  generalize hr : ev pg (.code (.going 1 L168_0) _) = o
  obtain ⟨r, rfl, hl, hQ⟩ : ∃ r, o = some r ∧ Q168 t a r := by rw [← hr]; exact loop168 t a hw _ (by simp [I168])
  rcases hQ with ⟨hx, hE⟩ | ⟨hx, h4⟩
  · simp [hx, hE, hl]
  · simp [hx, h4]
def movesOf : List Stp → Int → Bool
  | [], _ => false
  | t :: r, a => if wayOf t.sk a = 0 then movesOf r a else true
theorem movesOf_at {w : List Stp} {k : Nat} {a : Int} (hk : k < w.length) : movesOf (w.drop k) a = if wayOf w[k].sk a = 0 then movesOf (w.drop (k + 1)) a else true := by
  rw [List.drop_eq_getElem_cons hk]; rfl
def I137 (s0 : Sq) (a : Int) (k : Nat) (st : St) : Prop := st.h = [⟨0, .box s0.cells⟩] ∧ st.s.length = 21 ∧ getS st.s 1 = num a ∧ getS st.s 2 = .bptr 0 0 ∧ getS st.s 5 = num k ∧ movesOf s0.steps a = movesOf (s0.steps.drop k) a
def Q137 (s0 : Sq) (a : Int) (r : R) : Prop := r.st.s.length = 21 ∧ ((r.x = .exit 0 ∧ movesOf s0.steps a = false) ∨ (r.x = .ret ∧ getS r.st.s 4 = .bool true ∧ movesOf s0.steps a = true))
theorem loop137 (s0 : Sq) (a : Int) (hw : s0.steps.length ≤ 64) (h6 : ∀ t ∈ s0.steps, t.sk.length ≤ 6) (st : St) (h0 : I137 s0 a 0 st) : ∃ r, ev pg (.code (.going 1 L137_0) st) = some r ∧ Q137 s0 a r := by
  refine loop_from (I137 s0 a) s0.steps.length (Q137 s0 a) h0 ?_ ?_
  · rintro k ⟨s, h⟩ hk ⟨rfl, hl, e1, e2, e5, he⟩
    simp only at hl e1 e2 e5
    have hk' : (k : Int) < s0.steps.length := by omega
    have wk := wrap_id (n := (k : Int) + 1) (by omega) (by omega)
    have hc := ev168 s0.steps[k] a (h6 _ (List.getElem_mem hk))
    rw [movesOf_at hk] at he
    rw [getS_expand hl]
    by_cases ha : wayOf s0.steps[k].sk a = 0
    · rw [if_pos ha] at he
      simp [L137_0, I137, Q137, List.range, List.range.loop, e1, e2, e5, hk, hk', ha, he, wk, hc]
    · rw [if_neg ha] at he
      simp [L137_0, I137, Q137, List.range, List.range.loop, e1, e2, e5, hk, hk', ha, he, hc]
  · rintro ⟨s, h⟩ ⟨rfl, hl, e1, e2, e5, he⟩
    simp only [List.drop_length] at hl e1 e2 e5 he
    rw [getS_expand hl]
    simp [L137_0, Q137, List.range, List.range.loop, e2, e5, he, movesOf]
theorem ev137 (s0 : Sq) (a : Int) (hw : s0.steps.length ≤ 64) (h6 : ∀ t ∈ s0.steps, t.sk.length ≤ 6) : ev pg (.call (.fn 137 [] []) [s0.v, num a] []) = some { v := .bool (movesOf s0.steps a), st := ⟨[], []⟩ } := by
  rw [ev_call, pg137]
  simp [ir137, ev_loop]
  generalize hr : ev pg (.code (.going 1 L137_0) _) = o
  obtain ⟨r, rfl, hl, hQ⟩ : ∃ r, o = some r ∧ Q137 s0 a r := by rw [← hr]; exact loop137 s0 a hw h6 _ (by simp [I137])
  rcases hQ with ⟨hx, hE⟩ | ⟨hx, h4, hE⟩
  · simp [hx, hE, hl]
  · simp [hx, h4, hE]
/-! ### the steps -/
structure Keep2 (k : Nat) (st : List V) : Prop where
  nn : noNil st
  len : st.length = 62
  t1 : getS st 1 = .bptr 0 0
  t4 : getS st 4 = num k
abbrev h136 (s : Sq) (K : K) : H := [⟨0, .box s.cells⟩, ⟨0, K⟩]
def I136a (s0 : Sq) (t : Stp) (X : K) (v3 : V) (k j : Nat) (st : St) : Prop := st.h = h136 s0 X ++ [⟨0, .arr 0 []⟩, ⟨0, .box t.row⟩] ∧ Keep2 k st.s ∧ getS st.s 3 = v3 ∧ getS st.s 5 = .bptr 3 0 ∧ getS st.s 7 = num j ∧ far s0.act t.sk = far s0.act (t.sk.drop j)
def Q136a (s0 : Sq) (t : Stp) (X : K) (v3 : V) (k : Nat) (r : R) : Prop := (r.x = .exit 2 ∧ r.st.h = h136 s0 X ++ [⟨0, .arr 0 []⟩, ⟨0, .box t.row⟩] ∧ Keep2 k r.st.s ∧ getS r.st.s 3 = v3 ∧ getS r.st.s 5 = .bptr 3 0 ∧ far s0.act t.sk = 0) ∨ (r.x = .ret ∧ r.st.s.length = 62 ∧ getS r.st.s 2 = num (far s0.act t.sk) ∧ far s0.act t.sk ≠ 0)
theorem loop136a (s0 : Sq) (t : Stp) (X : K) (hX : scrubO 4 ⟨0, X⟩ = ⟨0, X⟩) (hXb : ∀ cells, X = .box cells → False) (v3 : V) (h3 : v3.low 4 = true) (h3n : v3 ≠ .nils) (k : Nat) (hw : t.sk.length ≤ 6) (st : St) (h0 : I136a s0 t X v3 k 0 st) : ∃ r, ev pg (.code (.going 4 L136_0) st) = some r ∧ Q136a s0 t X v3 k r := by
  refine loop_from (I136a s0 t X v3 k) t.sk.length (Q136a s0 t X v3 k) h0 ?_ ?_
  · rintro j ⟨s, h⟩ hj ⟨rfl, ⟨hn, hl, e1, e4⟩, e3, e5, e7, he⟩
    simp only at hl e1 e4 e3 e5 e7
    have hn : ∀ j, getS s j ≠ .nils := noNil_get hn
    have hj' : (j : Int) < t.sk.length := by omega
    have wj := wrap_id (n := (j : Int) + 1) (by omega) (by omega)
    have hs3 : scrub1 4 v3 = v3 := by simp only [scrub1, h3, if_true]
    rw [far_at hj] at he
    rw [getS_expand hl]
    by_cases ha : s0.act ≤ t.sk[j].act
    · rw [if_pos ha] at he
      simp [L136_0, I136a, Q136a, List.range, List.range.loop, e1, e3, e4, e5, e7, hj, hj', ha, he]
    · rw [if_neg ha] at he
      simp [-scrubO, L136_0, I136a, Q136a, List.range, List.range.loop, e1, e3, e4, e5, e7, hj, hj', ha, he, wj, h3, hX, hXb]
      exact ⟨⟨rfl, rfl, rfl⟩, by simp [noNil, hn, h3n], rfl, rfl, rfl⟩
  · rintro ⟨s, h⟩ ⟨rfl, ⟨hn, hl, e1, e4⟩, e3, e5, e7, he⟩
    simp only [List.drop_length] at hl e1 e4 e3 e5 e7 he
    have hn : ∀ j, getS s j ≠ .nils := noNil_get hn
    rw [getS_expand hl]
    simp [L136_0, Q136a, List.range, List.range.loop, e1, e3, e4, e5, e7, he, far]
    exact ⟨by simp [noNil, hn, h3n], rfl, rfl, rfl⟩
def refGo (n : Int) : List Bool → List Stp → Int × List Bool
  | e, [] => (0, e)
  | e, t :: r => if fitErr n e t = 0 then refGo n (beh e t.sk) r else (fitErr n e t, e)
theorem refGo_at {n : Int} {e : List Bool} {w : List Stp} {k : Nat} (hk : k < w.length) : refGo n e (w.drop k) = if fitErr n e w[k] = 0 then refGo n (beh e w[k].sk) (w.drop (k + 1)) else (fitErr n e w[k], e) := by
  rw [List.drop_eq_getElem_cons hk]; rfl
/-- The ends are the slice that was made, or an immutable one. -/
def D (e : List Bool) (X : K) (v3 : V) : Prop := (X = .arr 1 (e.map brow) ∧ v3 = .sl 1 0 1 0 e.length) ∨ (∃ R, X = .frz 1 R ∧ v3 = bools e)
theorem far_ok {n : Int} : ∀ {w : List Sk}, far n w = 0 → ∀ y ∈ w, y.act < n
  | [], _, y, hy => by cases hy
  | z :: r, h, y, hy => by
    simp only [far] at h
    split at h
    · cases h
    · rcases List.mem_cons.1 hy with rfl | hy
      · omega
      · exact far_ok h y hy
def I136 (s0 : Sq) (n k : Nat) (st : St) : Prop := ∃ e X v3, st.h = h136 s0 X ∧ D e X v3 ∧ e.length = n ∧ Keep2 k st.s ∧ getS st.s 3 = v3 ∧ refGo s0.act (List.replicate n false) s0.steps = refGo s0.act e (s0.steps.drop k)
def Q136 (s0 : Sq) (n : Nat) (r : R) : Prop := r.st.s.length = 62 ∧ ((r.x = .exit 0 ∧ ∃ e X v3, r.st.h = h136 s0 X ∧ D e X v3 ∧ e.length = n ∧ noNil r.st.s ∧ getS r.st.s 1 = .bptr 0 0 ∧ getS r.st.s 3 = v3 ∧ refGo s0.act (List.replicate n false) s0.steps = (0, e)) ∨
  (r.x = .ret ∧ getS r.st.s 2 = num (refGo s0.act (List.replicate n false) s0.steps).1 ∧ (refGo s0.act (List.replicate n false) s0.steps).1 ≠ 0))
theorem loop136 (s0 : Sq) (n : Nat) (hn6 : n ≤ 6) (hna : s0.act = n) (hw : s0.steps.length ≤ 64) (st : St) (h0 : I136 s0 n 0 st) : ∃ r, ev pg (.code (.going 2 L136_1) st) = some r ∧ Q136 s0 n r := by
  refine loop_from (I136 s0 n) s0.steps.length (Q136 s0 n) h0 ?_ ?_
  · rintro k ⟨s, h⟩ hk ⟨e, X, v3, rfl, hD, hen, ⟨hn, hl, e1, e4⟩, e3, he⟩
    simp only at hl e1 e4 e3
    have hn : ∀ j, getS s j ≠ .nils := noNil_get hn
    have hk' : (k : Int) < s0.steps.length := by omega
    have wk := wrap_id (n := (k : Int) + 1) (by omega) (by omega)
    have hc := ev165 s0.steps[k]
    rw [refGo_at hk] at he
    have hXs : scrubO 4 ⟨0, X⟩ = ⟨0, X⟩ ∧ v3.low 4 = true ∧ v3 ≠ .nils ∧ ∀ cells, X = .box cells → False := by
      rcases hD with ⟨rfl, rfl⟩ | ⟨R, rfl, rfl⟩ <;> exact ⟨rfl, rfl, by simp, by simp⟩
    rw [getS_expand hl]
    by_cases hst : stepErr s0.steps[k] = 0
    · obtain ⟨hw6, _, _, hp⟩ := stepErr_ok hst
      simp [L136_1, List.range, List.range.loop, e1, e3, e4, hk, hk', hc, hst, ev_loop, hn, hXs.2.2.1]
      generalize hr : ev pg (.code (.going 4 L136_0) _) = o
      obtain ⟨r, rfl, hQ⟩ : ∃ r, o = some r ∧ Q136a s0 s0.steps[k] X v3 k r := by
        rw [← hr]
        exact loop136a s0 s0.steps[k] X hXs.1 hXs.2.2.2 v3 hXs.2.1 hXs.2.2.1 k hw6 _ (by simp [I136a]; exact ⟨by simp [noNil, hn, hXs.2.2.1], rfl, rfl, rfl⟩)
      rcases hQ with ⟨hx, hh, ⟨g0, gl, g1, g4⟩, g3, g5, hfar⟩ | ⟨hx, gl, g2, hfar⟩
      · have hp' : ∀ y ∈ s0.steps[k].sk, ∃ p : Nat, y.act = p ∧ p < e.length := fun y hy => by
          obtain ⟨p, h1, _⟩ := hp y hy
          have := far_ok hfar y hy
          exact ⟨p, h1, by omega⟩
        have h166 := ev166 s0.steps[k] e (by omega) hw6 hp'
        have h167 := ev167 s0.steps[k] e (by omega) hw6 hp'
        have hbl := beh_len s0.steps[k].sk e
        by_cases hhit : hit e s0.steps[k].sk = 0
        · rw [if_pos (by simp [fitErr, hst, hfar, hhit])] at he
          rcases hD with ⟨rfl, rfl⟩ | ⟨R, rfl, rfl⟩
          · simp [hx, hh, gl, g1, g3, g4, g5, h166, h167, hhit, wk, I136]
            refine ⟨beh e s0.steps[k].sk, _, .inr ⟨_, rfl, rfl⟩, by rw [hbl, hen], ⟨?_, ?_, ?_, ?_⟩, ?_, he⟩
            · apply noNil_scrub
              repeat (first | exact g0 | refine noNil_set ?_ (by simp))
            · simp [gl]
            · simp [g1]
            · simp [gl]
            · simp [gl]
          · simp [hx, hh, gl, g1, g3, g4, g5, h166, h167, hhit, wk, I136]
            refine ⟨beh e s0.steps[k].sk, _, .inr ⟨_, rfl, rfl⟩, by rw [hbl, hen], ⟨?_, ?_, ?_, ?_⟩, ?_, he⟩
            · apply noNil_scrub
              repeat (first | exact g0 | refine noNil_set ?_ (by simp))
            · simp [gl]
            · simp [g1]
            · simp [gl]
            · simp [gl]
        · have h14 : hit e s0.steps[k].sk = 14 := (hit_two e s0.steps[k].sk).resolve_left hhit
          rw [if_neg (by simp [fitErr, hst, hfar, hhit])] at he
          have hfe : fitErr s0.act e s0.steps[k] = 14 := by simp [fitErr, hst, hfar, h14]
          rw [hfe] at he
          rcases hD with ⟨rfl, rfl⟩ | ⟨R, rfl, rfl⟩
          · simp [hx, hh, gl, g1, g3, g4, g5, h166, h14, Q136, he]
          · simp [hx, hh, gl, g1, g3, g4, g5, h166, h14, Q136, he]
      · have hfe : fitErr s0.act e s0.steps[k] = far s0.act s0.steps[k].sk := by simp [fitErr, hst, hfar]
        rw [if_neg (by rw [hfe]; exact hfar), hfe] at he
        simp [hx, gl, g2, Q136, he, hfar]
    · have hfe : fitErr s0.act e s0.steps[k] = stepErr s0.steps[k] := by simp [fitErr, hst]
      rw [if_neg (by rw [hfe]; exact hst), hfe] at he
      simp [L136_1, Q136, List.range, List.range.loop, e1, e3, e4, hk, hk', hc, hst, he]
  · rintro ⟨s, h⟩ ⟨e, X, v3, rfl, hD, hen, ⟨hn, hl, e1, e4⟩, e3, he⟩
    simp only [List.drop_length] at hl e1 e4 e3 he
    have hn : ∀ j, getS s j ≠ .nils := noNil_get hn
    have hv3 : v3 ≠ .nils := by rcases hD with ⟨rfl, rfl⟩ | ⟨R, rfl, rfl⟩ <;> simp
    rw [getS_expand hl]
    simp [L136_1, Q136, List.range, List.range.loop, e1, e3, e4, he, refGo]
    exact ⟨e, v3, hD, hen, by simp [noNil, hn, hv3], rfl, rfl⟩
end Go.Proofs.Ytopjiafdimoeiaa
