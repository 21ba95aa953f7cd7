/- Begins, begun, First and Cycles of the reference. -/
import Derived.Test.YtopjiafdimoeiaaWk3
namespace Go.Proofs.Ytopjiafdimoeiaa
open Go Go.Am Go.Proofs
set_option maxRecDepth 100000
theorem refErr_ok {s : Sq} (h : refErr s = 0) : okSteps s ∧ ∀ t ∈ s.steps, 0 < t.sk.length ∧ stepErr t = 0 := by
  unfold refErr at h
  split at h
  · cases h
  · split at h
    · cases h
    · split at h
      · cases h
      · split at h
        · rename_i h5
          have h0 : ∀ t ∈ s.steps, stepErr t = 0 := by
            intro t ht
            unfold stpErr at h5
            split at h5
            · rename_i h0
              exact (refGo_ok h0 t ht).1
            · contradiction
          exact ⟨⟨by omega, by omega, fun t ht => (stepErr_ok (h0 t ht)).1⟩, fun t ht => ⟨(stepErr_ok (h0 t ht)).2.1, h0 t ht⟩⟩
        · contradiction
theorem givErr_ok {s : Sq} {w : List Sk} (h : givErr s w = 0) : refErr s = 0 ∧ ckErr w = 0 := by
  unfold givErr at h
  split at h
  · exact ⟨by assumption, h⟩
  · contradiction
theorem ev53 (s0 : Sq) (w : List Sk) (hw : w.length < 2 ^ 40) : (givErr s0 w ≠ 0 ∧ ev pg (.call (.fn 53 [] []) [s0.v, words w] []) = some { v := .tup [.bool false, num 0, num (givErr s0 w)], st := ⟨[], []⟩ }) ∨
    (givErr s0 w = 0 ∧ ∃ k : Nat, isLen s0 w k ∧ ev pg (.call (.fn 53 [] []) [s0.v, words w] []) = some { v := .tup [.bool (k == w.length), num k, num 0], st := ⟨[], []⟩ }) := by
  have hg := ev103 s0 w (by omega)
  by_cases h : givErr s0 w = 0
  · right
    obtain ⟨k, hk, hl⟩ := ev104 s0 (refErr_ok (givErr_ok h).1).1 w hw
    refine ⟨h, k, hk, ?_⟩
    have hkk : ((k : Int) == (w.length : Int)) = (k == w.length) := by
      rw [Bool.eq_iff_iff]
      simp only [beq_iff_eq]
      omega
    rw [ev_call, pg53]
    simp [ir53, hg, h, hl, hkk]
  · left
    refine ⟨h, ?_⟩
    rw [ev_call, pg53]
    simp [ir53, hg, h]
noncomputable def begErr (s : Sq) (w : List Sk) : Int := if givErr s w = 0 then (if (walkN s w w.length).isSome = true then 0 else 14) else givErr s w
theorem ev105 (s0 : Sq) (w : List Sk) (hw : w.length < 2 ^ 40) : ev pg (.call (.fn 105 [] []) [s0.v, words w] []) = some { v := num (begErr s0 w), st := ⟨[], []⟩ } := by
  have hg := ev103 s0 w (by omega)
  rw [ev_call, pg105]
  by_cases h : givErr s0 w = 0
  · have hc := ev106 s0 (refErr_ok (givErr_ok h).1).1 w w.length (Nat.le_refl _) hw
    cases hwn : walkN s0 w w.length with
    | none =>
      rw [hwn] at hc
      simp only [folV] at hc
      simp [ir105, begErr, hg, h, hc, hwn]
    | some p =>
      rw [hwn] at hc
      simp only [folV] at hc
      simp [ir105, begErr, hg, h, hc, hwn]
  · simp [ir105, begErr, hg, h]
/-! ### the first word -/
def firstW (l : List Stp) : List Sk := l.flatMap Stp.sk
theorem firstW_take {l : List Stp} {k : Nat} (hk : k < l.length) : firstW (l.take (k + 1)) = firstW (l.take k) ++ l[k].sk := by
  unfold firstW
  rw [List.take_succ_eq_append_getElem hk, List.flatMap_append]
  simp only [List.flatMap_cons, List.flatMap_nil, List.append_nil]
theorem firstW_len : ∀ {l : List Stp}, (∀ t ∈ l, t.sk.length ≤ 6) → (firstW l).length ≤ 6 * l.length
  | [], _ => by simp [firstW]
  | t :: r, h => by
    have h1 := h t (by simp)
    have h2 := firstW_len (l := r) fun u hu => h u (by simp [hu])
    simp only [firstW, List.flatMap_cons, List.length_append, List.length_cons] at h2 ⊢
    omega
def I63 (s0 : Sq) (k : Nat) (st : St) : Prop := ∃ g m, st.h = [⟨0, .box s0.cells⟩, ⟨0, .arr 0 []⟩, ⟨g, .arr m ((firstW (s0.steps.take k)).map Sk.row)⟩] ∧ (m = 2 ∨ m = 0) ∧ st.s.length = 21 ∧ getS st.s 1 = .bptr 0 0 ∧ getS st.s 3 = .sl 2 g m 0 (firstW (s0.steps.take k)).length ∧ getS st.s 4 = num k
def Q63 (s0 : Sq) (r : R) : Prop := r.x = .exit 0 ∧ ∃ g m, r.st.h = [⟨0, .box s0.cells⟩, ⟨0, .arr 0 []⟩, ⟨g, .arr m ((firstW s0.steps).map Sk.row)⟩] ∧ r.st.s.length = 21 ∧ getS r.st.s 3 = .sl 2 g m 0 (firstW s0.steps).length
theorem loop63 (s0 : Sq) (hs : okSteps s0) (st : St) (h0 : I63 s0 0 st) : ∃ r, ev pg (.code (.going 3 L63_0) st) = some r ∧ Q63 s0 r := by
  refine loop_from (I63 s0) s0.steps.length (Q63 s0) h0 ?_ ?_
  · rintro k ⟨s, h⟩ hk ⟨g, m, rfl, hm, hl, e1, e3, e4⟩
    simp only at hl e1 e3 e4
    have hsl := hs.2.1
    have hk' : (k : Int) < s0.steps.length := by omega
    have wk := wrap_id (n := (k : Int) + 1) (by omega) (by omega)
    have hd := firstW_take hk
    have hln := firstW_len (l := s0.steps.take k) fun t ht => hs.2.2 t (List.mem_of_mem_take ht)
    have h6 := hs.2.2 _ (List.getElem_mem hk)
    have hlt : (s0.steps.take k).length ≤ 64 := by simp; omega
    have h47 : ((firstW (s0.steps.take k)).length + s0.steps[k].sk.length) * 16 ≤ 140737488355328 := by omega
    rw [getS_expand hl]
    simp [L63_0, I63, Q63, List.range, List.range.loop, e1, e3, e4, hk, hk', wk, hm, h47, hd]
    exact ⟨_, _, ⟨rfl, rfl⟩, .inl rfl, rfl, rfl⟩
  · rintro ⟨s, h⟩ ⟨g, m, rfl, hm, hl, e1, e3, e4⟩
    simp only [List.take_length] at hl e1 e3 e4
    rw [getS_expand hl]
    simp [L63_0, Q63, List.range, List.range.loop, e1, e3, e4]
theorem ev63 (s0 : Sq) (hs : okSteps s0) : ev pg (.call (.fn 63 [] []) [s0.v] []) = some { v := words (firstW s0.steps), st := ⟨[], []⟩ } := by
  rw [ev_call, pg63]
  simp [ir63, ev_loop]
  generalize hr : ev pg (.code (.going 3 L63_0) _) = o
  obtain ⟨r, rfl, hx, g, m, hh, hl, h3⟩ : ∃ r, o = some r ∧ Q63 s0 r := by
    rw [← hr]
    exact loop63 s0 hs _ (by simp [I63, firstW]; exact ⟨_, _, ⟨rfl, rfl⟩, .inr rfl, rfl, rfl⟩)
  simp [hx, hh, hl, h3]
end Go.Proofs.Ytopjiafdimoeiaa
