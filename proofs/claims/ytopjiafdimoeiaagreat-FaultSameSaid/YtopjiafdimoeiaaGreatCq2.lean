/- Controls: errors, by the program. -/
import Derived.Test.YtopjiafdimoeiaaGreatCq1
namespace Go.Proofs.YtopjiafdimoeiaaGreat
open Go Go.Am Go.Proofs
set_option maxRecDepth 100000
theorem nameE_congr {K L : List Txt} (h : ∀ q, q ∈ K ↔ q ∈ L) (s : Txt) : nameE K s = nameE L s := by
  unfold nameE
  simp only [h s]
theorem sigP_congr (c : Ct) (A : Nat) {K L : List Txt} (h : ∀ q, q ∈ K ↔ q ∈ L) (i : Nat) (x : Sg) : sigP c A K i x = sigP c A L i x := by
  unfold sigP
  rw [nameE_congr h]
theorem namesTo_succ (c : Ct) (A n : Nat) (q : Txt) : q ∈ namesTo c A (n + 1) ↔ (q ∈ namesTo c A n ∨ q = nameAt c A n) := by
  unfold namesTo
  rw [List.range_succ, List.map_append, List.mem_append]
  simp
theorem nameAt_inp (c : Ct) (A j : Nat) (hj : j < c.inputs.length) : nameAt c A (2 * A + j) = c.inputs[j] := by
  unfold nameAt
  rw [if_neg (by omega), if_pos (by omega), show 2 * A + j - 2 * A = j by omega, List.getElem?_eq_getElem hj]
  rfl
def keysTo (c : Ct) (A n : Nat) (l : List (Txt × Int)) : Prop := ∀ q, q ∈ l.map Prod.fst ↔ q ∈ namesTo c A n
theorem calm_hX (c : Ct) (l : List (Txt × Int)) : calm (hX c l []) := by simp [calm, scrubO]
structure Keep84 (st : List V) : Prop where
  nn : noNil st
  len : st.length = 111
  t1 : getS st 1 = .bptr 1 0
  t4 : getS st 4 = .bptr 3 0
def I84a (c : Ct) (A k : Nat) (st : St) : Prop := (∃ l, st.h = hX c l [] ∧ keysTo c A k l) ∧ Keep84 st.s ∧ getS st.s 45 = num (2 * A : Nat) ∧ getS st.s 46 = num k
def Q84a (c : Ct) (A : Nat) (r : R) : Prop := r.x = .exit 0 ∧ (∃ l, r.st.h = hX c l [] ∧ keysTo c A (2 * A) l) ∧ Keep84 r.st.s
theorem loop84a {c : Ct} {A : Nat} (h : Mid c A) (st : St) (h0 : I84a c A 0 st) : ∃ r, ev pg (.code (.going 4 L64_0) st) = some r ∧ Q84a c A r := by
  refine loop_from (I84a c A) (2 * A) (Q84a c A) h0 ?_ ?_
  · rintro k ⟨s, hh⟩ hk ⟨⟨l, rfl, hkeys⟩, ⟨hnn, hl, e1, e4⟩, e45, e46⟩
    simp only at hl e1 e4 e45 e46
    have hn : ∀ j, getS s j ≠ .nils := noNil_get hnn
    have hk' : (k : Int) < ((2 * A : Nat) : Int) := by omega
    have h6 := h.hi
    have wk := wrap_id (n := (k : Int) + 1) (by omega) (by omega)
    have hc := ev88 h k (by unfold countN; omega)
    obtain ⟨l', hu1, hu2⟩ := upd_map l (nameAt c A k) k
    have hcut : ∀ l, cutL 4 (hX c l []) = hX c l [] := fun l => calm_cutL (calm_hX c l)
    generalize hN : 2 * A = N at *
    generalize hq : nameAt c A k = q at *
    rw [getS_expand hl]
    simp [ev_draw1, exT, chkOk, L64_0, List.range, List.range.loop, e1, e4, e45, e46, hk', hc, hu1, wk]
    exact ⟨⟨l', rfl, fun t => by rw [hu2, namesTo_succ, hq, hkeys t]⟩, ⟨by simp [noNil, hn], rfl, rfl, rfl⟩, by rw [hN]; rfl, rfl⟩
  · rintro ⟨s, hh⟩ ⟨⟨l, rfl, hkeys⟩, ⟨hnn, hl, e1, e4⟩, e45, e46⟩
    simp only at hl e1 e4 e45 e46
    have hn : ∀ j, getS s j ≠ .nils := noNil_get hnn
    rw [getS_expand hl]
    simp [L64_0, Q84a, List.range, List.range.loop, e1, e4, e45, e46]
    exact ⟨⟨l, rfl, hkeys⟩, ⟨by simp [noNil, hn], rfl, rfl, rfl⟩⟩
def I84b (c : Ct) (A k : Nat) (st : St) : Prop := (∃ l, st.h = hX c l [] ∧ keysTo c A (2 * A + k) l) ∧ Keep84 st.s ∧ getS st.s 59 = .imm (c.inputs.map srow) ∧ getS st.s 60 = num c.inputs.length ∧ getS st.s 61 = num k ∧ goE (inpF c A) 0 c.inputs.length = goE (inpF c A) k (c.inputs.length - k)
def Q84b (c : Ct) (A : Nat) (r : R) : Prop := (r.x = .exit 2 ∧ (∃ l, r.st.h = hX c l [] ∧ keysTo c A (firstN c A) l) ∧ Keep84 r.st.s ∧ goE (inpF c A) 0 c.inputs.length = 0) ∨ (r.x = .ret ∧ r.st.s.length = 111 ∧ getS r.st.s 2 = .undef ∧ getS r.st.s 3 = num (goE (inpF c A) 0 c.inputs.length) ∧ goE (inpF c A) 0 c.inputs.length ≠ 0 ∧ ∃ l, r.st.h = hX c l [])
theorem loop84b {c : Ct} {A : Nat} (h : Mid c A) (st : St) (h0 : I84b c A 0 st) : ∃ r, ev pg (.code (.going 4 L64_1) st) = some r ∧ Q84b c A r := by
  refine loop_from (I84b c A) c.inputs.length (Q84b c A) h0 ?_ ?_
  · rintro k ⟨s, hh⟩ hk ⟨⟨l, rfl, hkeys⟩, ⟨hnn, hl, e1, e4⟩, e59, e60, e61, he⟩
    simp only at hl e1 e4 e59 e60 e61
    have hn : ∀ j, getS s j ≠ .nils := noNil_get hnn
    obtain ⟨hA, h1, h2, h3, h4⟩ := h
    have hk' : (k : Int) < c.inputs.length := by omega
    have wk := wrap_id (n := (k : Int) + 1) (by omega) (by omega)
    obtain ⟨l', hc, hl'⟩ := ev93 c l [] (fun l => calm_hX c l) c.inputs[k]
    rw [goE_at hk] at he
    have hF : nameE (l.map Prod.fst) c.inputs[k] = inpF c A k := by
      rw [nameE_congr hkeys, inpF, nameAt_inp c A k hk]
    rw [hF] at hc hl'
    have hkeys' : inpF c A k = 0 → keysTo c A (2 * A + (k + 1)) l' := fun h0 => by
      rcases hl' with ⟨_, h⟩ | ⟨h, _⟩
      · intro q
        rw [h q, show 2 * A + (k + 1) = 2 * A + k + 1 by omega, namesTo_succ, hkeys q, nameAt_inp c A k hk]
      · exact absurd h0 h
    generalize inpF c A k = f at *
    rw [getS_expand hl]
    by_cases b : f = 0
    · rw [if_pos b] at he
      simp [L64_1, List.range, List.range.loop, e1, e4, e59, e60, e61, hk, hk', hc, b, wk]
      exact ⟨⟨l', rfl, hkeys' b⟩, ⟨by simp [noNil, hn], rfl, rfl, rfl⟩, rfl, rfl, rfl, he⟩
    · rw [if_neg b] at he
      simp [L64_1, Q84b, List.range, List.range.loop, e1, e4, e59, e60, e61, hk, hk', hc, b, he]
      exact ⟨l', rfl⟩
  · rintro ⟨s, hh⟩ ⟨⟨l, rfl, hkeys⟩, ⟨hnn, hl, e1, e4⟩, e59, e60, e61, he⟩
    simp only [Nat.sub_self, goE] at hl e1 e4 e59 e60 e61 he
    have hn : ∀ j, getS s j ≠ .nils := noNil_get hnn
    rw [getS_expand hl]
    simp [L64_1, Q84b, List.range, List.range.loop, e1, e4, e59, e60, e61, he]
    exact ⟨⟨l, rfl, hkeys⟩, ⟨by simp [noNil, hn], rfl, rfl, rfl⟩⟩
def I84c (c : Ct) (A k : Nat) (st : St) : Prop := (∃ l, st.h = hX c l [] ∧ keysTo c A (firstN c A + k) l) ∧ Keep84 st.s ∧ getS st.s 74 = num c.signals.length ∧ getS st.s 75 = num k ∧ goE (sigF c A) 0 c.signals.length = goE (sigF c A) k (c.signals.length - k)
def Q84c (c : Ct) (A : Nat) (r : R) : Prop := (r.x = .exit 4 ∧ (∃ l, r.st.h = hX c l []) ∧ Keep84 r.st.s ∧ goE (sigF c A) 0 c.signals.length = 0) ∨ (r.x = .ret ∧ r.st.s.length = 111 ∧ getS r.st.s 2 = .undef ∧ getS r.st.s 3 = num (goE (sigF c A) 0 c.signals.length) ∧ goE (sigF c A) 0 c.signals.length ≠ 0 ∧ ∃ l, r.st.h = hX c l [])
theorem loop84c {c : Ct} {A : Nat} (h : Mid c A) (hfew : c.small = true) (st : St) (h0 : I84c c A 0 st) : ∃ r, ev pg (.code (.going 4 L64_2) st) = some r ∧ Q84c c A r := by
  refine loop_from (I84c c A) c.signals.length (Q84c c A) h0 ?_ ?_
  · rintro k ⟨s, hh⟩ hk ⟨⟨l, rfl, hkeys⟩, ⟨hnn, hl, e1, e4⟩, e74, e75, he⟩
    simp only at hl e1 e4 e74 e75
    have hn : ∀ j, getS s j ≠ .nils := noNil_get hnn
    obtain ⟨_, hon, hoff⟩ := (few_parts hfew).2.2.2.2.2 _ (List.getElem_mem hk)
    obtain ⟨l', hc, hl'⟩ := ev94 h l k hk hon hoff
    obtain ⟨hA, h1, h2, h3, h4⟩ := h
    have hk' : (k : Int) < c.signals.length := by omega
    have wk := wrap_id (n := (k : Int) + 1) (by omega) (by omega)
    rw [goE_at hk] at he
    have hF : sigP c A (l.map Prod.fst) k c.signals[k] = sigF c A k := by
      rw [sigP_congr c A hkeys, sigP_eq]
      unfold sigF
      rw [List.getElem?_eq_getElem hk]
    have hkeys' : sigF c A k = 0 → keysTo c A (firstN c A + (k + 1)) l' := fun h0 => by
      rcases hl' with ⟨_, h⟩ | ⟨h, _⟩
      · intro q
        rw [h q, show firstN c A + (k + 1) = firstN c A + k + 1 by omega, namesTo_succ, hkeys q, nameAt_sig c A k hk]
      · rw [← hF] at h0
        unfold sigP at h0
        rw [if_neg h] at h0
        exact absurd h0 h
    rw [hF] at hc
    generalize sigF c A k = f at *
    rw [getS_expand hl]
    by_cases b : f = 0
    · rw [if_pos b] at he
      simp [L64_2, List.range, List.range.loop, e1, e4, e74, e75, hk', hc, b, wk]
      exact ⟨⟨l', rfl, hkeys' b⟩, ⟨by simp [noNil, hn], rfl, rfl, rfl⟩, rfl, rfl, he⟩
    · rw [if_neg b] at he
      simp [L64_2, Q84c, List.range, List.range.loop, e1, e4, e74, e75, hk', hc, b, he]
      exact ⟨l', rfl⟩
  · rintro ⟨s, hh⟩ ⟨⟨l, rfl, hkeys⟩, ⟨hnn, hl, e1, e4⟩, e74, e75, he⟩
    simp only [Nat.sub_self, goE] at hl e1 e4 e74 e75 he
    have hn : ∀ j, getS s j ≠ .nils := noNil_get hnn
    rw [getS_expand hl]
    simp [L64_2, Q84c, List.range, List.range.loop, e1, e4, e74, e75, he]
    exact ⟨⟨l, rfl⟩, ⟨by simp [noNil, hn], rfl, rfl, rfl⟩⟩
end Go.Proofs.YtopjiafdimoeiaaGreat
