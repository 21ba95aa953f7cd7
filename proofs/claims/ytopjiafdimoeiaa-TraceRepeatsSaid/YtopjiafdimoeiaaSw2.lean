/- The law of exchanged strokes. -/
import Derived.Test.YtopjiafdimoeiaaSw1
namespace Go.Proofs.Ytopjiafdimoeiaa
open Go Go.Am Go.Proofs
set_option maxRecDepth 100000
theorem ev56_ok (s0 : Sq) (w : List Sk) (hw : w.length < 2 ^ 40) (hg : givErr s0 w = 0) {B : List (List Sk)} {left : List Sk} (hB : Beg s0 w B left) : ev pg (.call (.fn 56 [] []) [s0.v, words w] []) = some { v := .tup [words (normW B), num 0], st := ⟨[], []⟩ } := by
  rcases ev56 s0 w hw with ⟨hb, _⟩ | ⟨_, hs, B', left', hB', hc⟩
  · exact absurd (begErr_Beg hB hg) hb
  · rw [(beg_perm hs (List.Perm.refl w) hB hB').1]
    exact hc
theorem ev48_ok (s0 : Sq) (w : List Sk) (hw : w.length < 2 ^ 40) (hg : givErr s0 w = 0) {B : List (List Sk)} {left : List Sk} (hB : Beg s0 w B left) : ev pg (.call (.fn 48 [] []) [s0.v, words w] []) = some { v := .tup [words left, num 0], st := ⟨[], []⟩ } := by
  have hs := okSq_of (givErr_ok hg).1
  rcases ev48 s0 w hw with ⟨hb, _⟩ | ⟨_, full, done, left', hW, hc⟩
  · exact absurd (begErr_Beg hB hg) hb
  · rw [(beg_perm hs (List.Perm.refl w) hB ⟨full, done, rfl, hW⟩).2]
    exact hc
theorem ev59_ok (s0 : Sq) (a b : List Sk) (ha : a.length < 2 ^ 40) (hb : b.length < 2 ^ 40) (ga : givErr s0 a = 0) (gb : givErr s0 b = 0) {A : List (List Sk)} {la : List Sk} (hA : Beg s0 a A la) :
    (begErr s0 b ≠ 0 ∧ ev pg (.call (.fn 59 [] []) [s0.v, words a, words b] []) = some { v := .tup [.bool false, num 14], st := ⟨[], []⟩ }) ∨
    (begErr s0 b = 0 ∧ ∀ B lb, Beg s0 b B lb → ev pg (.call (.fn 59 [] []) [s0.v, words a, words b] []) = some { v := .tup [.bool (decide (normW A = normW B)), num 0], st := ⟨[], []⟩ }) := by
  have h99 := ev99 s0 [a, b] (by simp) (by intro w hw; simp at hw; rcases hw with rfl | rfl <;> omega)
  rw [giv_two, if_pos ga] at h99
  have hL : wordsL [a, b] = .imm [[words a], [words b]] := rfl
  rw [hL, (givErr_ok gb).2] at h99
  rcases ev96b s0 a ha with ⟨hba, hca⟩ | ⟨hba, hs, A', la', hA', hca, h107a⟩
  · exact absurd (begErr_Beg hA ga) hba
  rw [← (beg_perm hs (List.Perm.refl a) hA hA').1] at h107a
  rcases ev96b s0 b hb with ⟨hbb, hcb⟩ | ⟨hbb, _, B', lb', hB', hcb, h107b⟩
  · left
    rw [begErr_14 gb hbb] at hcb
    refine ⟨hbb, ?_⟩
    rw [ev_call, pg59]
    simp [ir59, h99, hca, hcb]
  · right
    refine ⟨hbb, fun B lb hB => ?_⟩
    rw [← (beg_perm hs (List.Perm.refl b) hB hB').1] at h107b
    have hla := hA.nf_len
    have h62 := ev62 (normW A) (normW B) (by omega)
    generalize normW A = x at *
    generalize normW B = y at *
    rw [ev_call, pg59]
    simp [ir59, h99, hca, hcb, h107a, h107b, h62]
theorem swap_perm {w : List Sk} {k : Nat} (h : k + 1 < w.length) : ((w.set k w[k + 1]).set (k + 1) w[k]).Perm w := by
  have hk : k < w.length := by omega
  have e : w = w.take k ++ (w[k] :: w[k + 1] :: w.drop (k + 2)) := by
    conv => lhs; rw [← List.take_append_drop k w, List.drop_eq_getElem_cons hk, List.drop_eq_getElem_cons h]
  generalize w[k] = x at *
  generalize w[k + 1] = y at *
  have hl : (w.take k).length = k := by rw [List.length_take]; omega
  generalize w.take k = p at *
  generalize w.drop (k + 2) = r at *
  rw [e, List.set_append_right _ _ (by omega), List.set_append_right _ _ (by omega), hl, Nat.sub_self, Nat.add_sub_cancel_left]
  exact (List.Perm.swap x y r).append_left p
theorem ev11 (s0 : Sq) (w : List Sk) (i : Int) (hi : 0 ≤ i ∧ i ≤ 255) : ∃ r, ev pg (.call (.fn 11 [] []) [s0.v, words w, .int .u8 i] []) = some r ∧ r.v = .bool true := by
  have hf := ev46 s0 w
  have haw := awake_ev
  rw [ev_call, pg11]
  by_cases h1 : rightSq s0 w = true
  · have h1' := h1
    simp only [rightSq, Bool.and_eq_true, decide_eq_true_eq, beq_iff_eq] at h1'
    obtain ⟨⟨⟨_, h40⟩, hre⟩, hck⟩ := h1'
    have hg : givErr s0 w = 0 := by unfold givErr; rw [if_pos hre]; exact hck
    have hs := okSq_of hre
    rcases ev56 s0 w (by omega) with ⟨hb, h56⟩ | ⟨hb, _, B, left, hB, h56⟩
    · rw [begErr_14 hg hb] at h56
      simp [ir11, hf, haw, h1, h56]
    · have hBn := beg_norm hs hB
      have hpm := hB.perm
      have hnn := (beg_perm hs hpm hBn hB).1
      have hal := hB.nf_len
      have hga := givErr_perm hpm hg
      have h56a := ev56_ok s0 (normW B) (by omega) hga hBn
      rw [hnn] at h56a
      have h48 := ev48_ok s0 w (by omega) hg hB
      have h48a := ev48_ok s0 (normW B) (by omega) hga hBn
      have h59a : ev pg (.call (.fn 59 [] []) [s0.v, words w, words (normW B)] []) = some { v := .tup [.bool true, num 0], st := ⟨[], []⟩ } := by
        rcases ev59_ok s0 w (normW B) (by omega) (by omega) hg hga hB with ⟨hb', _⟩ | ⟨_, hc⟩
        · exact absurd (begErr_Beg hBn hga) hb'
        · rw [hc _ _ hBn, hnn, decide_eq_true rfl]
      have h62a := ev62 (normW B) (normW B) (by omega)
      obtain ⟨full, done, _, hW⟩ := hB.ex
      have h6 := (hW.left hs).2.2
      have h62l := ev62 left left (by omega)
      rw [decide_eq_true rfl] at h62a h62l
      have w0 := wrap_id (n := 0) (by omega) (by omega)
      by_cases hlt : w.length < 2
      · have hlt' : (w.length : Int) < 2 := by omega
        generalize normW B = a at *
        simp [ir11, hf, haw, h1, h56, h56a, h48, h48a, h59a, h62a, h62l, w0, hlt']
      · have hlt' : ¬ ((w.length : Int) < 2) := by omega
        obtain ⟨L, hL⟩ : ∃ L, w.length = L + 1 := ⟨w.length - 1, by omega⟩
        obtain ⟨n, rfl⟩ : ∃ n : Nat, i = n := ⟨i.toNat, by omega⟩
        obtain ⟨k, hkk⟩ : ∃ k, k = n % L := ⟨_, rfl⟩
        have hkL : n % L < L := Nat.mod_lt _ (by omega)
        rw [← hkk] at hkL
        have hk1 : k + 1 < w.length := by omega
        have hk0 : k < w.length := by omega
        have hvp := swap_perm hk1
        have hvg := givErr_perm hvp hg
        have hvl := hvp.length_eq
        have hx : w[k]? = some w[k] := List.getElem?_eq_getElem hk0
        have hy : w[k + 1]? = some w[k + 1] := List.getElem?_eq_getElem hk1
        have hwv : words ((w.set (k) w[k + 1]).set (k + 1) w[k]) = .imm (((w.map Sk.row).set (k) w[k + 1].row).set (k + 1) w[k].row) := by simp only [words, List.map_set]
        have hsub : (w.length : Int) - 1 = (L : Int) := by omega
        have wL := wrap_id (n := (L : Int)) (by omega) (by omega)
        have wn := wrap_id (n := (n : Int)) (by omega) (by omega)
        have hmod : (n : Int).tmod (L : Int) = (k : Int) := by rw [hkk]; rfl
        have hL0 : ¬ (L = 0) := by omega
        have h50 := ev50 w (by omega)
        have hfin : ∃ (ok : Bool) (q : Nat) (same : Bool) (e : Int), ((ok = true ∧ same = true ∧ e = 0) ∨ (ok = false ∧ e = 14)) ∧
            ev pg (.call (.fn 49 [] []) [s0.v, words ((w.set (k) w[k + 1]).set (k + 1) w[k])] []) = some { v := .tup [.bool ok, num q, num 0], st := ⟨[], []⟩ } ∧
            ev pg (.call (.fn 59 [] []) [s0.v, words w, words ((w.set (k) w[k + 1]).set (k + 1) w[k])] []) = some { v := .tup [.bool same, num e], st := ⟨[], []⟩ } := by
          generalize (w.set (k) w[k + 1]).set (k + 1) w[k] = v at *
          rcases ev49 s0 v (by omega) with ⟨hb', _⟩ | ⟨_, q, fu, dn, lf, hV, h49⟩
          · exact absurd hvg hb'
          have hall := hV.all hs
          rcases ev59_ok s0 w v (by omega) (by omega) hg hvg hB with ⟨hb', hc⟩ | ⟨hb', hc⟩
          · have hq : q ≠ v.length := fun e => by
              rw [if_pos e] at hall
              exact hb' (by simp [begErr, hvg, hall])
            have hq' : (q == v.length) = false := by simpa using hq
            rw [hq'] at h49
            exact ⟨false, q, false, 14, .inr ⟨rfl, rfl⟩, h49, hc⟩
          · have hq : q = v.length := by
              by_cases e : q = v.length
              · exact e
              · rw [if_neg e] at hall
                simp [begErr, hvg, hall] at hb'
            subst hq
            have hVB : Beg s0 v (blocks fu dn) lf := ⟨fu, dn, rfl, hV⟩
            have hnv := (beg_perm hs hvp.symm hB hVB).1
            have hcc := hc _ _ hVB
            rw [hnv, decide_eq_true rfl] at hcc
            rw [beq_self_eq_true] at h49
            exact ⟨true, v.length, true, 0, .inl ⟨rfl, rfl, rfl⟩, h49, hcc⟩
        obtain ⟨ok, q, same, e, hcs, h49, h59⟩ := hfin
        rw [hwv] at h49 h59
        have hrow : ((w.map Sk.row).set (k) w[k + 1].row)[k + 1]? = some w[k + 1].row := by
          rw [List.getElem?_set_ne (by omega), List.getElem?_map, hy]; rfl
        generalize normW B = a at *
        have wk := wrap_id (n := (k : Int) + 1) (by omega) (by omega)
        have hkc : ((k : Int) + 1).toNat = k + 1 := by omega
        have hkp : (0 : Int) ≤ (k : Int) + 1 := by omega
        rcases hcs with ⟨rfl, rfl, rfl⟩ | ⟨rfl, rfl⟩
        · simp [ir11, hf, haw, h1, h56, h56a, h48, h48a, h59a, h62a, h62l, w0, hlt', hsub, wL, wn, hmod, hL0, h50, hk0, hk1, wk, hkc, hkp, hrow, h49, h59]
        · simp [ir11, hf, haw, h1, h56, h56a, h48, h48a, h59a, h62a, h62l, w0, hlt', hsub, wL, wn, hmod, hL0, h50, hk0, hk1, wk, hkc, hkp, hrow, h49, h59]
  · simp [ir11, hf, haw, h1]
end Go.Proofs.Ytopjiafdimoeiaa
