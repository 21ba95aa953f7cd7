/- What a fault touches, by the program. -/
import Derived.Test.YtopjiafdimoeiaaGreatTo2
namespace Go.Proofs.YtopjiafdimoeiaaGreat
open Go Go.Am Go.Proofs
set_option maxRecDepth 100000
theorem hadL_occ {n : Int} {l : List Ex} (ih : ∀ y ∈ l, y.had n = y.occ n) : hadL n l = occL n l := by
  induction l with
  | nil => rfl
  | cons y l ihl => rw [hadL, occL, ih y (by simp), ihl fun z hz => ih z (by simp [hz])]
theorem had_occ (n m : Int) : ∀ x : Ex, x.err m = 0 → x.had n = x.occ n := by
  refine Ex.ind fun x ih hx => ?_
  obtain ⟨h1, h2⟩ := err_zero hx
  rw [had_eq, occ_eq]
  by_cases ho : x.op = 1
  · have ha : x.args = [] := List.length_eq_zero_iff.1 (node_arg h1 ho)
    rw [if_pos ho, ha]
    by_cases hi : x.idx = n
    · simp [ho, hi]
    · simp [hi, hadL]
  · rw [if_neg (fun h => ho h.1), if_neg ho]
    exact hadL_occ fun y hy => ih y hy (h2 y hy)
theorem had_zero (n : Int) (x : Ex) (h : x.zero = true) : x.had n = x.occ n := by
  simp only [Ex.zero, Bool.and_eq_true, decide_eq_true_eq] at h
  obtain ⟨⟨h1, h2⟩, h3⟩ := h
  have ha : x.args = [] := List.length_eq_zero_iff.1 h3
  rw [had_eq, occ_eq, h1, ha]
  simp [hadL, occL]
structure Keep17 (c : Ct) (F : Nat) (j : Nat) (st : List V) : Prop where
  nn : noNil st
  len : st.length = 93
  t2 : getS st 2 = .bptr 0 0
  t3 : getS st 3 = .bptr 1 0
  t8 : getS st 8 = num F
  t31 : getS st 31 = .imm (c.signals.map Sg.row)
  t32 : getS st 32 = num c.signals.length
  t33 : getS st 33 = num j
structure Keep17e (st : List V) : Prop where
  nn : noNil st
  len : st.length = 93
  t2 : getS st 2 = .bptr 0 0
  t3 : getS st 3 = .bptr 1 0
def I17a (c : Ct) (A : Nat) (k i : Int) (j : Nat) (st : St) : Prop := ∃ g m, st.h = h18 c k i g m (selL (touchF c.signals k i) (firstN c A) j) ∧ (m = 1 ∨ m = 0) ∧ Keep17 c (firstN c A) j st.s ∧ getS st.s 7 = .sl 3 g m 0 (selL (touchF c.signals k i) (firstN c A) j).length
def Q17a (c : Ct) (A : Nat) (k i : Int) (r : R) : Prop := r.x = .exit 0 ∧ ∃ g m, r.st.h = h18 c k i g m (selL (touchF c.signals k i) (firstN c A) c.signals.length) ∧ (m = 1 ∨ m = 0) ∧ Keep17e r.st.s ∧ getS r.st.s 7 = .sl 3 g m 0 (selL (touchF c.signals k i) (firstN c A) c.signals.length).length
theorem kind_at (n kn : Nat) (hk : kn < 6) : ∃ t v w, ((kC n).drop (kn * 4)).take 4 = [.str t, .bool (decide (kn = 2 ∨ kn = 3)), num v, w] := by
  rcases (by omega : kn = 0 ∨ kn = 1 ∨ kn = 2 ∨ kn = 3 ∨ kn = 4 ∨ kn = 5) with rfl | rfl | rfl | rfl | rfl | rfl <;> exact ⟨_, _, _, rfl⟩
set_option maxHeartbeats 1000000 in
theorem loop17a {c : Ct} {A : Nat} (h : Rgt c A) (hfew : c.small = true) (k : Nat) (hk : k < 6) (i : Int) (st : St) (h0 : I17a c A k i 0 st) : ∃ r, ev pg (.code (.going 4 L25_0) st) = some r ∧ Q17a c A k i r := by
  have hsig := h.mid.sig
  refine loop_from (I17a c A k i) c.signals.length (Q17a c A k i) h0 ?_ ?_
  · rintro j ⟨s, hh⟩ hj ⟨g, m, rfl, hm, ⟨hnn, hl, e2, e3, e8, e31, e32, e33⟩, e7⟩
    simp only at hl e2 e3 e7 e8 e31 e32 e33
    have hnl : ∀ j, getS s j ≠ .nils := noNil_get hnn
    have wj := wrap_id (n := (j : Int) + 1) (by omega) (by omega)
    have hj' : (j : Int) < c.signals.length := by omega
    have hmem := List.getElem_mem hj
    have hget := List.getElem?_eq_getElem hj
    obtain ⟨_, hon, hoff⟩ := (few_parts hfew).2.2.2.2.2 _ hmem
    have h71a := ev57 c.signals[j].on i 0 (light_nodes hon).1
    have h71b := ev57 c.signals[j].off i 0 (light_nodes hoff).1
    rw [had_occ i _ _ (h.on _ hmem)] at h71a
    rw [show c.signals[j].off.had i = c.signals[j].off.occ i from (h.off _ hmem).elim (had_occ i _ _) (had_zero i _)] at h71b
    have hcn : countN c A ≤ 172 := by
      obtain ⟨hA, h1, h2, h3, h4⟩ := h.mid
      unfold countN
      omega
    obtain ⟨t, v, w, hkind⟩ := kind_at 11 k hk
    have hk4 : 4 ≤ 24 - k * 4 := by omega
    have hlen := selL_len (touchF c.signals k i) (firstN c A) j
    have hsu := selL_succ (touchF c.signals k i) (firstN c A) j
    have hF : touchF c.signals k i j = (decide (k = 2 ∨ k = 3) && (c.signals[j].on.occ i || c.signals[j].off.occ i)) := by
      unfold touchF
      rw [List.getElem?_eq_getElem hj]
      have : ((k : Int) = 2 ∨ (k : Int) = 3) ↔ (k = 2 ∨ k = 3) := by omega
      simp only [this]
      rfl
    rw [hF] at hsu
    have hfc : firstN c A ≤ countN c A := by unfold firstN countN; omega
    have hKeep : ∀ st, noNil st → st.length = 93 → getS st 2 = .bptr 0 0 → getS st 3 = .bptr 1 0 → getS st 8 = num (firstN c A : Nat) → getS st 31 = .imm (c.signals.map Sg.row) → getS st 32 = num c.signals.length → getS st 33 = num (j + 1 : Nat) → Keep17 c (firstN c A) (j + 1) st := fun st a b d e f g h i => ⟨a, b, d, e, f, g, h, i⟩
    unfold I17a
    generalize selL (touchF c.signals k i) (firstN c A) (j + 1) = l' at *
    generalize selL (touchF c.signals k i) (firstN c A) j = l at *
    have h47 : (l.length + 1) * 8 ≤ 140737488355328 := by omega
    generalize firstN c A = F at *
    have w2 := wrap_id (n := (F : Int) + (j : Int)) (by omega) (by omega)
    generalize c.signals[j].on.occ i = b1 at *
    generalize c.signals[j].off.occ i = b2 at *
    generalize c.signals[j].on.repl i 0 = y1 at *
    generalize c.signals[j].off.repl i 0 = y2 at *
    generalize decide (k = 2 ∨ k = 3) = bl at *
    have h67 := ev55
    rw [getS_expand hl]
    cases bl with
    | false =>
      simp [ev_draw1, exT, chkOk, L25_0, List.range, List.range.loop, e2, e3, e7, e8, e31, e32, e33, hget, hj', h71a, h71b, h67, hk, hk4, hkind, wj]
      have hsu' : l' = l := by simpa using hsu
      exact ⟨_, _, ⟨rfl, rfl, by rw [hsu']⟩, hm, hKeep _ (by simp [noNil, hnl]) rfl rfl rfl rfl rfl rfl rfl, rfl, rfl, by rw [hsu']⟩
    | true => cases b1 with
      | true =>
        simp [ev_draw1, exT, chkOk, L25_0, List.range, List.range.loop, e2, e3, e7, e8, e31, e32, e33, hget, hj', h71a, h71b, h67, hk, hk4, hkind, w2, wj, hm, h47]
        have hsu' : l' = l ++ [(F : Int) + (j : Int)] := by simpa using hsu
        exact ⟨_, _, ⟨rfl, rfl, by rw [hsu']; simp⟩, .inl rfl, hKeep _ (by simp [noNil, hnl]) rfl rfl rfl rfl rfl rfl rfl, rfl, rfl, by rw [hsu']; simp⟩
      | false => cases b2 with
        | true =>
          simp [ev_draw1, exT, chkOk, L25_0, List.range, List.range.loop, e2, e3, e7, e8, e31, e32, e33, hget, hj', h71a, h71b, h67, hk, hk4, hkind, w2, wj, hm, h47]
          have hsu' : l' = l ++ [(F : Int) + (j : Int)] := by simpa using hsu
          exact ⟨_, _, ⟨rfl, rfl, by rw [hsu']; simp⟩, .inl rfl, hKeep _ (by simp [noNil, hnl]) rfl rfl rfl rfl rfl rfl rfl, rfl, rfl, by rw [hsu']; simp⟩
        | false =>
          simp [ev_draw1, exT, chkOk, L25_0, List.range, List.range.loop, e2, e3, e7, e8, e31, e32, e33, hget, hj', h71a, h71b, h67, hk, hk4, hkind, wj]
          have hsu' : l' = l := by simpa using hsu
          exact ⟨_, _, ⟨rfl, rfl, by rw [hsu']⟩, hm, hKeep _ (by simp [noNil, hnl]) rfl rfl rfl rfl rfl rfl rfl, rfl, rfl, by rw [hsu']⟩
  · rintro ⟨s, hh⟩ ⟨g, m, rfl, hm, ⟨hnn, hl, e2, e3, e8, e31, e32, e33⟩, e7⟩
    simp only at hl e2 e3 e7 e8 e31 e32 e33
    have hnl : ∀ j, getS s j ≠ .nils := noNil_get hnn
    unfold Q17a
    generalize selL (touchF c.signals k i) (firstN c A) c.signals.length = l at *
    rw [getS_expand hl]
    simp [L25_0, List.range, List.range.loop, e2, e3, e7, e8, e31, e32, e33]
    exact ⟨_, _, ⟨rfl, rfl⟩, hm, ⟨by simp [noNil, hnl], rfl, rfl, rfl⟩, rfl, rfl⟩
theorem pil_ge (c : Ct) (k i : Int) (j : Nat) : -1 ≤ (pil c k i j).1 ∧ -1 ≤ (pil c k i j).2 := by
  unfold pil lineV
  split
  · refine ⟨?_, ?_⟩ <;> (simp only; split <;> (try split) <;> omega)
  · split
    · split
      · exact ⟨by omega, by omega⟩
      · split
        · exact ⟨by omega, by omega⟩
        · split
          · exact ⟨by omega, by omega⟩
          · exact ⟨by omega, by omega⟩
    · exact ⟨by omega, by omega⟩
structure Keep17b (c : Ct) (A : Nat) (k i : Int) (j : Nat) (st : List V) : Prop where
  nn : noNil st
  len : st.length = 93
  t2 : getS st 2 = .bptr 0 0
  t3 : getS st 3 = .bptr 1 0
  t74 : getS st 74 = faults (pilL c k i A)
  t75 : getS st 75 = num A
  t76 : getS st 76 = num j
def I17b (c : Ct) (A : Nat) (k i : Int) (P : List Int) (j : Nat) (st : St) : Prop := ∃ g m, st.h = h18 c k i g m (P ++ selL (chgF c k i) (countN c A) j) ∧ (m = 1 ∨ m = 0) ∧ Keep17b c A k i j st.s ∧ getS st.s 7 = .sl 3 g m 0 (P ++ selL (chgF c k i) (countN c A) j).length
def Q17b (c : Ct) (A : Nat) (k i : Int) (P : List Int) (r : R) : Prop := r.x = .exit 2 ∧ ∃ g m, r.st.h = h18 c k i g m (P ++ selL (chgF c k i) (countN c A) A) ∧ r.st.s.length = 93 ∧ getS r.st.s 7 = .sl 3 g m 0 (P ++ selL (chgF c k i) (countN c A) A).length
theorem loop17b {c : Ct} {A : Nat} (h : Mid c A) (k i : Int) (P : List Int) (hP : P.length ≤ 200) (st : St) (h0 : I17b c A k i P 0 st) : ∃ r, ev pg (.code (.going 4 L25_1) st) = some r ∧ Q17b c A k i P r := by
  have h73 := ev59 h
  have hA6 := h.hi
  have hcn : countN c A ≤ 172 := by
    obtain ⟨hA, h1, h2, h3, h4⟩ := h
    unfold countN
    omega
  refine loop_from (I17b c A k i P) A (Q17b c A k i P) h0 ?_ ?_
  · rintro j ⟨s, hh⟩ hj ⟨g, m, rfl, hm, ⟨hnn, hl, e2, e3, e74, e75, e76⟩, e7⟩
    simp only at hl e2 e3 e7 e74 e75 e76
    have hnl : ∀ j, getS s j ≠ .nils := noNil_get hnn
    have wj := wrap_id (n := (j : Int) + 1) (by omega) (by omega)
    have hj' : (j : Int) < A := by omega
    have hget := pilL_get c k i A j hj
    have hlen : (P ++ selL (chgF c k i) (countN c A) j).length ≤ 300 := by
      have := selL_len (chgF c k i) (countN c A) j
      rw [List.length_append]
      omega
    have hsu : P ++ selL (chgF c k i) (countN c A) (j + 1) = if (decide (0 ≤ (pil c k i j).1) || decide (0 ≤ (pil c k i j).2)) = true then (P ++ selL (chgF c k i) (countN c A) j) ++ [(countN c A : Int) + (j : Int)] else P ++ selL (chgF c k i) (countN c A) j := by
      rw [selL_succ, List.append_assoc]
      show P ++ (if (decide (0 ≤ (pil c k i j).1) || decide (0 ≤ (pil c k i j).2)) = true then _ else _) = _
      split <;> rfl
    obtain ⟨hx1, hy1⟩ := pil_ge c k i j
    generalize hp : pil c k i j = p at *
    obtain ⟨x, y⟩ := p
    simp only at hsu hx1 hy1
    have hKeep : ∀ st, noNil st → st.length = 93 → getS st 2 = .bptr 0 0 → getS st 3 = .bptr 1 0 → getS st 74 = faults (pilL c k i A) → getS st 75 = num A → getS st 76 = num (j + 1 : Nat) → Keep17b c A k i (j + 1) st := fun st a b d e f g h => ⟨a, b, d, e, f, g, h⟩
    unfold I17b
    generalize P ++ selL (chgF c k i) (countN c A) (j + 1) = l' at *
    generalize P ++ selL (chgF c k i) (countN c A) j = l at *
    have h47 : (l.length + 1) * 8 ≤ 140737488355328 := by omega
    generalize countN c A = F at *
    have w2 := wrap_id (n := (F : Int) + (j : Int)) (by omega) (by omega)
    generalize pilL c k i A = pl at *
    rw [getS_expand hl]
    by_cases hx : x = -1
    · rw [decide_eq_false (by omega : ¬ 0 ≤ x), Bool.false_or] at hsu
      by_cases hy : y = -1
      · rw [decide_eq_false (by omega : ¬ 0 ≤ y), if_neg (by simp)] at hsu
        simp [L25_1, List.range, List.range.loop, e2, e3, e7, e74, e75, e76, hj', hget, hx, hy, wj]
        exact ⟨_, _, ⟨rfl, rfl, by rw [hsu]⟩, hm, hKeep _ (by simp [noNil, hnl]) rfl rfl rfl rfl rfl rfl, rfl, rfl, by rw [hsu]⟩
      · have hyb : (y == -1) = false := by simpa using hy
        rw [decide_eq_true (by omega : 0 ≤ y), if_pos rfl] at hsu
        simp [L25_1, List.range, List.range.loop, e2, e3, e7, e74, e75, e76, hj', hget, hx, hyb, h73, w2, wj, hm, h47]
        exact ⟨_, _, ⟨rfl, rfl, by rw [hsu]; simp⟩, .inl rfl, hKeep _ (by simp [noNil, hnl]) rfl rfl rfl rfl rfl rfl, rfl, rfl, by rw [hsu]; simp⟩
    · have hxb : (x == -1) = false := by simpa using hx
      rw [decide_eq_true (by omega : 0 ≤ x), Bool.true_or, if_pos rfl] at hsu
      simp [L25_1, List.range, List.range.loop, e2, e3, e7, e74, e75, e76, hj', hget, hxb, h73, w2, wj, hm, h47]
      exact ⟨_, _, ⟨rfl, rfl, by rw [hsu]; simp⟩, .inl rfl, hKeep _ (by simp [noNil, hnl]) rfl rfl rfl rfl rfl rfl, rfl, rfl, by rw [hsu]; simp⟩
  · rintro ⟨s, hh⟩ ⟨g, m, rfl, hm, ⟨hnn, hl, e2, e3, e74, e75, e76⟩, e7⟩
    simp only at hl e2 e3 e7 e74 e75 e76
    unfold Q17b
    generalize P ++ selL (chgF c k i) (countN c A) A = l at *
    rw [getS_expand hl]
    simp [L25_1, List.range, List.range.loop, e2, e3, e7, e74, e75, e76]
theorem ev25 (c : Ct) (hfew : c.small = true) (k i : Int) : ev pg (.call (.fn 25 [] []) [c.v, fv k i] []) = some { v := .tup [ints (touchR c k i), num (fltE c k i)], st := ⟨[], []⟩ } := by
  have h19 := ev28 c hfew k i
  unfold touchR
  by_cases he : fltE c k i = 0
  · obtain ⟨hc, hk, hi0, hiN, hiA⟩ := flt_parts he
    have hR := rgt_check hc hfew
    have hla := fun (kn : Nat) hkn => loop17a hR hfew kn hkn i
    have hP := selL_len (touchF c.signals k i) (firstN c c.act.toNat) c.signals.length
    have hsg := hR.mid.sig
    have hlb := loop17b hR.mid k i (selL (touchF c.signals k i) (firstN c c.act.toNat) c.signals.length) (by omega)
    have h72 := ev58 hR.mid hR.plus hR.minus k i hk
    have hpl := pilL_len c k i c.act.toNat
    have hA := hR.mid.act
    have hA6 := hR.mid.hi
    have hinp := hR.mid.inp
    rw [if_pos he]
    unfold touchL
    rw [he] at h19 ⊢
    have hla := hla k.toNat (by omega)
    rw [show ((k.toNat : Nat) : Int) = k by omega] at hla
    generalize c.act.toNat = A at *
    have hIa : ∀ st : St, (st.h = h18 c k i 0 0 [] ∧ Keep17 c (firstN c A) 0 st.s ∧ getS st.s 7 = .sl 3 0 0 0 0) → I17a c A k i 0 st := fun st h => ⟨0, 0, h.1, .inr rfl, h.2.1, h.2.2⟩
    have hIb : ∀ g m, (m = 1 ∨ m = 0) → ∀ st : St, (st.h = h18 c k i g m (selL (touchF c.signals k i) (firstN c A) c.signals.length) ∧ Keep17b c A k i 0 st.s ∧ getS st.s 7 = .sl 3 g m 0 (selL (touchF c.signals k i) (firstN c A) c.signals.length).length) → I17b c A k i (selL (touchF c.signals k i) (firstN c A) c.signals.length) 0 st := fun g m hm st h => ⟨g, m, by rw [h.1]; simp [selL], hm, h.2.1, by rw [h.2.2]; simp [selL]⟩
    have hKa : ∀ st, noNil st → st.length = 93 → getS st 2 = .bptr 0 0 → getS st 3 = .bptr 1 0 → getS st 8 = num (2 * c.act + (c.inputs.length : Int)) → getS st 31 = .imm (c.signals.map Sg.row) → getS st 32 = num c.signals.length → getS st 33 = num 0 → Keep17 c (firstN c A) 0 st := fun st a b d e f g h i => ⟨a, b, d, e, by rw [f, hA]; simp, g, h, i⟩
    unfold Q17a at hla
    unfold Q17b at hlb
    have hKb : ∀ st, noNil st → st.length = 93 → getS st 2 = .bptr 0 0 → getS st 3 = .bptr 1 0 → getS st 74 = faults (pilL c k i A) → getS st 75 = num A → getS st 76 = num 0 → Keep17b c A k i 0 st := fun st a b d e f g h => ⟨a, b, d, e, f, g, h⟩
    generalize selL (touchF c.signals k i) (firstN c A) c.signals.length = P at *
    generalize P ++ selL (chgF c k i) (countN c A) A = L at *
    generalize pilL c k i A = pl at *
    have w1 := wrap_id (n := 2 * c.act) (by omega) (by omega)
    have w2 := wrap_id (n := 2 * c.act + (c.inputs.length : Int)) (by omega) (by omega)
    rw [ev_call, pg25]
    simp [ir25, h19, w1, w2, ev_loop]
    generalize hr : ev pg (.code (.going 4 L25_0) _) = o
    obtain ⟨r, rfl, hx, g, m, hh, hm, ⟨hrn, hrl, r2, r3⟩, r7⟩ : ∃ r, o = some r ∧ _ := by
      rw [← hr]
      exact hla _ (hIa _ ⟨by simp, hKa _ (by simp [noNil]) rfl rfl rfl rfl rfl rfl rfl, by simp⟩)
    simp (maxDischargeDepth := 9) [hx, hh, hrl, r2, r3, h72, adopt_none, noNil_set, hrn, hpl]
    generalize hr' : ev pg (.code (.going 4 L25_1) _) = o
    obtain ⟨q, rfl, hqx, g', m', hqh, hql, q7⟩ : ∃ r, o = some r ∧ _ := by
      rw [← hr']
      exact hlb _ (hIb g m hm _ ⟨rfl, hKb _ (by simp (maxDischargeDepth := 9) [noNil_set, hrn]) (by simp [hrl]) (by simp [r2]) (by simp [r3]) (by simp [hrl]) (by simp [hrl]) (by simp [hrl]), by simp [r7]⟩)
    simp [hqx, hqh, hql, q7]
  · rw [if_neg he]
    generalize fltE c k i = e at *
    rw [ev_call, pg25]
    simp [ir25, h19, he]
end Go.Proofs.YtopjiafdimoeiaaGreat
