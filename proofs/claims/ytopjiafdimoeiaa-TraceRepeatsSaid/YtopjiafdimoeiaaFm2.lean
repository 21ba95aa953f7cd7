/- Normal, Alike and Next, by the program and by the reference; the law. -/
import Derived.Test.YtopjiafdimoeiaaFm1
namespace Go.Proofs.Ytopjiafdimoeiaa
open Go Go.Am Go.Proofs
set_option maxRecDepth 100000
def I62 (w v : List Sk) (k : Nat) (st : St) : Prop := st.h = [] ∧ st.s.length = 26 ∧ getS st.s 0 = words w ∧ getS st.s 1 = words v ∧ getS st.s 12 = num w.length ∧ getS st.s 13 = num k ∧ w.take k = v.take k
def Q62 (w v : List Sk) (r : R) : Prop := r.st.s.length = 26 ∧ ((r.x = .exit 0 ∧ w = v) ∨ (r.x = .ret ∧ getS r.st.s 4 = .bool false ∧ w ≠ v))
theorem loop62 (w v : List Sk) (hlen : w.length = v.length) (hw : w.length < 2 ^ 62) (st : St) (h0 : I62 w v 0 st) : ∃ r, ev pg (.code (.going 0 L62_0) st) = some r ∧ Q62 w v r := by
  refine loop_from (I62 w v) w.length (Q62 w v) h0 ?_ ?_
  · rintro k ⟨s, h⟩ hk ⟨rfl, hl, e0, e1, e12, e13, he⟩
    simp only at hl e0 e1 e12 e13
    have hkv : k < v.length := by omega
    have hk' : (k : Int) < w.length := by omega
    have wk := wrap_id (n := (k : Int) + 1) (by omega) (by omega)
    obtain ⟨n1, n2⟩ := take_next hk hkv he
    rw [getS_expand hl]
    by_cases a1 : w[k].act = v[k].act
    · by_cases a2 : w[k].out = v[k].out
      · have hx : w[k] = v[k] := by cases hwk : w[k]; cases hvk : v[k]; rw [hwk, hvk] at a1 a2; simp_all
        simp [L62_0, I62, Q62, List.range, List.range.loop, e0, e1, e12, e13, hk, hkv, hk', a1, a2, wk]
        exact n1 hx
      · have hx : w[k] ≠ v[k] := fun e => a2 (by rw [e])
        have a2' : (w[k].out == v[k].out) = false := by simpa using a2
        simp [L62_0, I62, Q62, List.range, List.range.loop, e0, e1, e12, e13, hk, hkv, hk', a1, a2', wk]
        exact n2 hx
    · have hx : w[k] ≠ v[k] := fun e => a1 (by rw [e])
      have a1' : (w[k].act == v[k].act) = false := by simpa using a1
      simp [L62_0, I62, Q62, List.range, List.range.loop, e0, e1, e12, e13, hk, hkv, hk', a1', wk]
      exact n2 hx
  · rintro ⟨s, h⟩ ⟨rfl, hl, e0, e1, e12, e13, he⟩
    simp only at hl e0 e1 e12 e13 he
    rw [List.take_length, hlen, List.take_length] at he
    rw [getS_expand hl]
    simp [L62_0, Q62, List.range, List.range.loop, e12, e13, he]
theorem ev62 (w v : List Sk) (hw : w.length < 2 ^ 62) : ev pg (.call (.fn 62 [] []) [words w, words v] []) = some { v := .bool (decide (w = v)), st := ⟨[], []⟩ } := by
  rw [ev_call, pg62]
  by_cases hlen : w.length = v.length
  · have hli : (w.length : Int) = (v.length : Int) := by omega
    simp [ir62, hlen, ev_loop]
    generalize hr : ev pg (.code (.going 0 L62_0) _) = o
    obtain ⟨r, rfl, hl, hQ⟩ : ∃ r, o = some r ∧ Q62 w v r := by rw [← hr]; exact loop62 w v hlen hw _ (by simp [I62, hlen])
    rcases hQ with ⟨hx, hE⟩ | ⟨hx, h4, hE⟩
    · simp [hx, hE, hl]
    · simp [hx, h4, hE]
  · have hne : w ≠ v := fun e => hlen (by rw [e])
    have hli2 : ((w.length : Int) != (v.length : Int)) = true := by simp; omega
    simp [ir62, hli2, hne]
/-! ### beginnings -/
structure Beg (s : Sq) (w : List Sk) (B : List (List Sk)) (left : List Sk) : Prop where
  ex : ∃ full done, B = blocks full done ∧ isWalk s w w.length full done left
theorem Beg.flat {s : Sq} {w : List Sk} {B : List (List Sk)} {left : List Sk} (h : Beg s w B left) : B.flatten = w := by
  obtain ⟨full, done, rfl, hW⟩ := h.ex
  rw [blocks_flat, hW.flat, List.take_length]
theorem Beg.good {s : Sq} (hs : okSq s) {w : List Sk} {B : List (List Sk)} {left : List Sk} (h : Beg s w B left) : ∀ l ∈ B, Go.Proofs.Ytopjiafdimoeiaa.good l := by
  obtain ⟨full, done, rfl, hW⟩ := h.ex
  exact hW.good hs
theorem Beg.few {s : Sq} (hs : okSq s) {w : List Sk} {B : List (List Sk)} {left : List Sk} (h : Beg s w B left) : B.length ≤ w.length + 1 := by
  obtain ⟨full, done, rfl, hW⟩ := h.ex
  have h1 := full_len hs full 0 hW.whole
  have h2 := congrArg List.length hW.flat
  rw [List.length_append, List.take_length] at h2
  simp only [blocks, List.length_append, List.length_singleton]
  omega
theorem Beg.nf_len {s : Sq} {w : List Sk} {B : List (List Sk)} {left : List Sk} (h : Beg s w B left) : (normW B).length = w.length := by
  rw [normW_length, h.flat]
theorem ev96b (s0 : Sq) (w : List Sk) (hw : w.length < 2 ^ 40) : (begErr s0 w ≠ 0 ∧ ev pg (.call (.fn 96 [] []) [s0.v, words w] []) = some { v := .tup [.nils, .nils, num (begErr s0 w)], st := ⟨[], []⟩ }) ∨
    (begErr s0 w = 0 ∧ okSq s0 ∧ ∃ B left, Beg s0 w B left ∧ ev pg (.call (.fn 96 [] []) [s0.v, words w] []) = some { v := .tup [.sl 0 0 1 0 B.length, .sl 1 0 2 0 left.length, num 0], st := ⟨[], [⟨0, .arr 1 (stepsR B)⟩, ⟨0, .arr 2 (left.map Sk.row)⟩]⟩ } ∧ ev pg (.call (.fn 107 [] []) [.imm (stepsR B)] []) = some { v := words (normW B), st := ⟨[], []⟩ }) := by
  rcases ev96 s0 w hw with h | ⟨hb, full, done, left, hW, hc⟩
  · exact .inl h
  · have hs := okSq_of (givErr_ok (begErr_giv hb)).1
    have hB : Beg s0 w (blocks full done) left := ⟨full, done, rfl, hW⟩
    exact .inr ⟨hb, hs, blocks full done, left, hB, hc, ev107 _ (by rw [hB.flat]; exact hw) (by have := hB.few hs; omega) (hB.good hs)⟩
theorem ev108b (s0 : Sq) (hs : okSq s0) (w : List Sk) (hw : w.length < 2 ^ 40) (B : List (List Sk)) (left : List Sk) (h : Beg s0 w B left) : ev pg (.call (.fn 108 [] []) [s0.v, words w] []) = some { v := words (normW B), st := ⟨[], []⟩ } := by
  obtain ⟨full, done, rfl, hW⟩ := h.ex
  exact ev108 s0 hs w hw full done left hW
theorem ev56 (s0 : Sq) (w : List Sk) (hw : w.length < 2 ^ 40) : (begErr s0 w ≠ 0 ∧ ev pg (.call (.fn 56 [] []) [s0.v, words w] []) = some { v := .tup [words [], num (begErr s0 w)], st := ⟨[], []⟩ }) ∨
    (begErr s0 w = 0 ∧ okSq s0 ∧ ∃ B left, Beg s0 w B left ∧ ev pg (.call (.fn 56 [] []) [s0.v, words w] []) = some { v := .tup [words (normW B), num 0], st := ⟨[], []⟩ }) := by
  rcases ev96b s0 w hw with ⟨hb, hc⟩ | ⟨hb, hs, B, left, hB, hc, h107⟩
  · left
    refine ⟨hb, ?_⟩
    rw [ev_call, pg56]
    simp [ir56, hc, hb]
  · right
    refine ⟨hb, hs, B, left, hB, ?_⟩
    generalize normW B = nf at h107 ⊢
    rw [ev_call, pg56]
    simp [ir56, hc, h107]
theorem ev57 (s0 : Sq) (w : List Sk) (hw : w.length < 2 ^ 40) : (begErr s0 w ≠ 0 ∧ ev pg (.call (.fn 57 [] []) [s0.v, words w] []) = some { v := .tup [words [], num (begErr s0 w)], st := ⟨[], []⟩ }) ∨
    (begErr s0 w = 0 ∧ ∀ B left, Beg s0 w B left → ev pg (.call (.fn 57 [] []) [s0.v, words w] []) = some { v := .tup [words (normW B), num 0], st := ⟨[], []⟩ }) := by
  have hg := ev105 s0 w hw
  by_cases hb : begErr s0 w = 0
  · right
    refine ⟨hb, fun B left hB => ?_⟩
    have h108 := ev108b s0 (okSq_of (givErr_ok (begErr_giv hb)).1) w hw B left hB
    generalize normW B = nf at h108 ⊢
    rw [ev_call, pg57]
    simp [ir57, hg, hb, h108]
  · left
    refine ⟨hb, ?_⟩
    rw [ev_call, pg57]
    simp [ir57, hg, hb]
theorem ev58 (s0 : Sq) (w : List Sk) (hw : w.length < 2 ^ 40) : (begErr s0 w ≠ 0 ∧ ev pg (.call (.fn 58 [] []) [s0.v, words w] []) = some { v := .tup [words [], num (begErr s0 w)], st := ⟨[], []⟩ }) ∨
    (begErr s0 w = 0 ∧ ∀ full done left, isWalk s0 w w.length full done left → ev pg (.call (.fn 58 [] []) [s0.v, words w] []) = some { v := .tup [words left, num 0], st := ⟨[], []⟩ }) := by
  have hg := ev105 s0 w hw
  by_cases hb : begErr s0 w = 0
  · right
    refine ⟨hb, fun full done left hW => ?_⟩
    have hs := okSq_of (givErr_ok (begErr_giv hb)).1
    have h106 := ev106 s0 hs.st w w.length (Nat.le_refl _) hw
    rw [hW.here hs] at h106
    simp only [folV] at h106
    have h6 := (hW.left hs).2.2
    have h47 : left.length * 16 ≤ 140737488355328 := by omega
    generalize full.length / s0.steps.length = c at h106
    generalize full.length % s0.steps.length = i at h106
    rw [ev_call, pg58]
    simp [ir58, hg, hb, h106, h47]
  · left
    refine ⟨hb, ?_⟩
    rw [ev_call, pg58]
    simp [ir58, hg, hb]
/-! ### alike -/
theorem giv_two (s : Sq) (a b : List Sk) : givErrL s [a, b] = if givErr s a = 0 then ckErr b else givErr s a := by
  unfold givErrL givErr
  simp only [firstCk]
  by_cases h : refErr s = 0
  · simp only [h, if_true]
    by_cases h1 : ckErr a = 0
    · simp only [h1, if_true]
      by_cases h2 : ckErr b = 0
      · simp [h2]
      · simp [h2]
    · simp [h1]
  · simp [h]
theorem ev59_60 (s0 : Sq) (a b : List Sk) (ha : a.length < 2 ^ 40) (hb : b.length < 2 ^ 40) : ∃ (m : Bool) (e : Int), ev pg (.call (.fn 59 [] []) [s0.v, words a, words b] []) = some { v := .tup [.bool m, num e], st := ⟨[], []⟩ } ∧ ev pg (.call (.fn 60 [] []) [s0.v, words a, words b] []) = some { v := .tup [.bool m, num e], st := ⟨[], []⟩ } := by
  have h99 := ev99 s0 [a, b] (by simp) (by intro w hw; simp at hw; rcases hw with rfl | rfl <;> omega)
  rw [giv_two] at h99
  have h103 := ev103 s0 a (by omega)
  have h92 := ev92 b (by omega)
  have hga := ev105 s0 a ha
  have hgb := ev105 s0 b hb
  have hL : wordsL [a, b] = .imm [[words a], [words b]] := rfl
  rw [hL] at h99
  by_cases e1 : givErr s0 a = 0
  · rw [if_pos e1] at h99
    by_cases e2 : ckErr b = 0
    · have e3 : givErr s0 b = 0 := by unfold givErr; rw [if_pos (givErr_ok e1).1]; exact e2
      rw [e2] at h99 h92
      rcases ev96b s0 a ha with ⟨hba, hca⟩ | ⟨hba, hs, A, la, hA, hca, h107a⟩
      · rw [begErr_14 e1 hba] at hca hga
        refine ⟨false, 14, ?_, ?_⟩
        · rw [ev_call, pg59]
          simp [ir59, h99, hca]
        · rw [ev_call, pg60]
          simp [ir60, h103, e1, h92, hga]
      · rw [hba] at hga
        rcases ev96b s0 b hb with ⟨hbb, hcb⟩ | ⟨hbb, _, B, lb, hB, hcb, h107b⟩
        · rw [begErr_14 e3 hbb] at hcb hgb
          refine ⟨false, 14, ?_, ?_⟩
          · rw [ev_call, pg59]
            simp [ir59, h99, hca, hcb]
          · rw [ev_call, pg60]
            simp [ir60, h103, e1, h92, hga, hgb]
        · rw [hbb] at hgb
          have h108a := ev108b s0 hs a ha A la hA
          have h108b := ev108b s0 hs b hb B lb hB
          have hla := hA.nf_len
          have h62 := ev62 (normW A) (normW B) (by omega)
          have h61 := ev61 (normW A) (normW B) (by omega)
          refine ⟨decide (normW A = normW B), 0, ?_, ?_⟩
          · generalize normW A = x at *
            generalize normW B = y at *
            rw [ev_call, pg59]
            simp [ir59, h99, hca, hcb, h107a, h107b, h62]
          · generalize normW A = x at *
            generalize normW B = y at *
            rw [ev_call, pg60]
            simp [ev_draw1, exT, chkOk, ir60, h103, e1, h92, hga, hgb, h108a, h108b, h61]
    · refine ⟨false, ckErr b, ?_, ?_⟩
      · rw [ev_call, pg59]
        simp [ir59, h99, e2]
      · rw [ev_call, pg60]
        simp [ir60, h103, e1, h92, e2]
  · rw [if_neg e1] at h99
    refine ⟨false, givErr s0 a, ?_, ?_⟩
    · rw [ev_call, pg59]
      simp [ir59, h99, e1]
    · rw [ev_call, pg60]
      simp [ir60, h103, e1]
/-! ### the law -/
theorem ev10 (s0 : Sq) (a b : List Sk) : ∃ r, ev pg (.call (.fn 10 [] []) [s0.v, words a, words b] []) = some r ∧ r.v = .bool true := by
  have hf := ev52 s0
  have hga := ev39 a
  have hgb := ev39 b
  have haw := awake_ev
  rw [ev_call, pg10]
  by_cases h1 : fewSteps s0 = true
  · by_cases h2 : fewW a = true
    · by_cases h3 : fewW b = true
      · have hwa : a.length < 2 ^ 40 := by
          simp [fewW] at h2
          omega
        have hwb : b.length < 2 ^ 40 := by
          simp [fewW] at h3
          omega
        have a1 : ∃ (x : List Sk) (e : Int), x.length < 2 ^ 62 ∧ ev pg (.call (.fn 56 [] []) [s0.v, words a] []) = some { v := .tup [words x, num e], st := ⟨[], []⟩ } ∧ ev pg (.call (.fn 57 [] []) [s0.v, words a] []) = some { v := .tup [words x, num e], st := ⟨[], []⟩ } := by
          rcases ev56 s0 a hwa with ⟨hb, hc⟩ | ⟨hb, _, B, left, hB, hc⟩ <;> rcases ev57 s0 a hwa with ⟨hb', hd⟩ | ⟨hb', hd⟩
          · exact ⟨_, _, by simp, hc, hd⟩
          · exact absurd hb' hb
          · exact absurd hb hb'
          · exact ⟨_, _, by rw [hB.nf_len]; omega, hc, hd B left hB⟩
        have a2 : ∃ (x : List Sk) (e : Int), x.length < 2 ^ 62 ∧ ev pg (.call (.fn 48 [] []) [s0.v, words a] []) = some { v := .tup [words x, num e], st := ⟨[], []⟩ } ∧ ev pg (.call (.fn 58 [] []) [s0.v, words a] []) = some { v := .tup [words x, num e], st := ⟨[], []⟩ } := by
          rcases ev48 s0 a hwa with ⟨hb, hc⟩ | ⟨hb, full, done, left, hW, hc⟩ <;> rcases ev58 s0 a hwa with ⟨hb', hd⟩ | ⟨hb', hd⟩
          · exact ⟨_, _, by simp, hc, hd⟩
          · exact absurd hb' hb
          · exact absurd hb hb'
          · have h6 := (hW.left (okSq_of (givErr_ok (begErr_giv hb)).1)).2.2
            exact ⟨_, _, by omega, hc, hd full done left hW⟩
        obtain ⟨x, e, hx, c1, c2⟩ := a1
        obtain ⟨y, f, hy, c3, c4⟩ := a2
        obtain ⟨m, g, c5, c6⟩ := ev59_60 s0 a b hwa hwb
        have s1 := ev61 x x hx
        have s2 := ev61 y y hy
        simp at s1 s2
        simp [ir10, hf, hga, hgb, h1, h2, h3, haw, c1, c2, c3, c4, c5, c6, s1, s2]
      · simp [ir10, hf, hga, hgb, h1, h2, h3, haw]
    · simp [ir10, hf, hga, h1, h2, haw]
  · simp [ir10, hf, h1, haw]
end Go.Proofs.Ytopjiafdimoeiaa
