/- A fault that touches nothing leaves the control as it is; faults that are alike touch the same pilots. -/
import Derived.Test.YtopjiafdimoeiaaGreatDe2
namespace Go.Proofs.YtopjiafdimoeiaaGreat
open Go Go.Am Go.Proofs
set_option maxRecDepth 100000
mutual
theorem repl_same (n v : Int) : ∀ x : Ex, x.repl n v = x ↔ x.had n = false
  | .mk o i l => by
    rw [Ex.repl, Ex.had]
    by_cases h : o = 1 ∧ i = n
    · rw [if_pos h, if_pos h, Ex.mk.injEq]
      exact ⟨fun e => by have := e.1; omega, fun e => by cases e⟩
    · rw [if_neg h, if_neg h, Ex.mk.injEq, replL_same n v l]
      simp
theorem replL_same (n v : Int) : ∀ l : List Ex, replL n v l = l ↔ hadL n l = false
  | [] => by rw [replL, hadL]; simp
  | x :: l => by rw [replL, hadL, List.cons.injEq, repl_same n v x, replL_same n v l, Bool.or_eq_false_iff]
end
theorem selL_nil {f : Nat → Bool} {b : Int} {n : Nat} : selL f b n = [] ↔ ∀ j, j < n → f j = false := by
  unfold selL
  rw [List.map_eq_nil_iff, List.filter_eq_nil_iff]
  simp
theorem selL_congr {f g : Nat → Bool} {b : Int} {n : Nat} (h : ∀ j, j < n → f j = g j) : selL f b n = selL g b n := by
  unfold selL
  rw [List.filter_congr]
  intro j hj
  exact h j (List.mem_range.1 hj)
theorem pil_le (c : Ct) (k i : Int) (j : Nat) : (pil c k i j).1 ≤ 1 ∧ (pil c k i j).2 ≤ 1 := by
  unfold pil lineV
  repeat' split
  all_goals exact ⟨by simp only <;> (first | omega | (split <;> omega)), by simp only <;> (first | omega | (split <;> omega))⟩
theorem putTo_none {f : Nat → Bool} {next : Int} {l : List Int} : ∀ {A : Nat}, (∀ j, j < A → f j = false) → putTo f next A l = l
  | 0, _ => rfl
  | A + 1, h => by
    rw [putTo, h A (by omega), if_neg (by decide)]
    exact putTo_none fun j hj => h j (by omega)
theorem needTo_iff {p : Nat → Bool} : ∀ {A : Nat}, needTo p A = false ↔ ∀ j, j < A → p j = false
  | 0 => ⟨fun _ j hj => by omega, fun _ => rfl⟩
  | A + 1 => by
    rw [needTo, Bool.or_eq_false_iff, needTo_iff]
    exact ⟨fun h j hj => by
      by_cases e : j = A
      · rw [e]; exact h.2
      · exact h.1 j (by omega), fun h => ⟨fun j hj => h j (by omega), h A (by omega)⟩⟩
theorem putTo_at {f : Nat → Bool} {next : Int} {l : List Int} : ∀ {A j : Nat} (hj : j < l.length), j < A → (putTo f next A l)[j]? = some (if f j = true then next else l[j])
  | A + 1, j, hl, hj => by
    rw [putTo]
    by_cases e : j = A
    · subst e
      split
      · rw [List.getElem?_set_self (by rw [putTo_len]; exact hl)]
      · rw [putTo_get (Nat.le_refl _), List.getElem?_eq_getElem hl]
    · split
      · rw [List.getElem?_set_ne (by omega)]
        exact putTo_at hl (by omega)
      · exact putTo_at hl (by omega)
theorem chg_false {c : Ct} {k i : Int} {j : Nat} : chgF c k i j = false ↔ pil c k i j = (-1, -1) := by
  have h := pil_ge c k i j
  unfold chgF
  rw [Bool.or_eq_false_iff, decide_eq_false_iff_not, decide_eq_false_iff_not]
  generalize pil c k i j = p at *
  obtain ⟨p1, p2⟩ := p
  simp only at h
  rw [Prod.mk.injEq]
  exact ⟨fun g => ⟨by omega, by omega⟩, fun g => ⟨by simp only; omega, by simp only; omega⟩⟩
theorem need_zero {c : Ct} {k i : Int} {A : Nat} : (needV c k i 0 A = false ∧ needV c k i 1 A = false) ↔ ∀ j, j < A → chgF c k i j = false := by
  unfold needV
  rw [needTo_iff, needTo_iff]
  constructor
  · rintro ⟨h0, h1⟩ j hj
    have g0 := h0 j hj
    have g1 := h1 j hj
    have hl := pil_le c k i j
    have hg := pil_ge c k i j
    rw [chg_false]
    unfold selP selM at g0 g1
    generalize pil c k i j = p at *
    obtain ⟨p1, p2⟩ := p
    simp only [Bool.or_eq_false_iff, beq_eq_false_iff_ne] at g0 g1
    simp only at hl hg
    rw [Prod.mk.injEq]
    exact ⟨by omega, by omega⟩
  · intro h
    refine ⟨fun j hj => ?_, fun j hj => ?_⟩ <;>
    · have g := chg_false.1 (h j hj)
      simp only [selP, selM, g]
      decide
theorem step_need {c : Ct} {k i : Int} {A : Nat} {v : Int} {s : Fs} : (stepV c k i A v s).d.signals.length = s.d.signals.length + (if needV c k i v A = true then 1 else 0) := by
  unfold stepV
  simp only
  split <;> simp
theorem had_occ_on {c : Ct} {A : Nat} (hR : Rgt c A) (n : Int) {x : Sg} (hx : x ∈ c.signals) : x.on.had n = x.on.occ n := had_occ n _ _ (hR.on x hx)
theorem had_occ_off {c : Ct} {A : Nat} (hR : Rgt c A) (n : Int) {x : Sg} (hx : x ∈ c.signals) : x.off.had n = x.off.occ n := by
  rcases hR.off x hx with h | h
  · exact had_occ n _ _ h
  · exact had_zero n _ h
theorem unchanged {c : Ct} {k i : Int} {A : Nat} (h : ∀ j, j < A → chgF c k i j = false) : (stepV c k i A 1 (stepV c k i A 0 (startF c k i A))).d = (startF c k i A).d := by
  obtain ⟨h0, h1⟩ := need_zero.2 h
  have sel : ∀ v, v = 0 ∨ v = 1 → (∀ j, j < A → selP c k i v j = false) ∧ (∀ j, j < A → selM c k i v j = false) := fun v hv => by
    refine ⟨fun j hj => ?_, fun j hj => ?_⟩ <;>
    · have g := chg_false.1 (h j hj)
      simp only [selP, selM, g]
      rcases hv with rfl | rfl <;> decide
  rw [stepV_no h1, stepV_no h0]
  simp only
  rw [putTo_none (sel 0 (.inl rfl)).1, putTo_none (sel 0 (.inl rfl)).2, putTo_none (sel 1 (.inr rfl)).1, putTo_none (sel 1 (.inr rfl)).2]
theorem touch_same {c : Ct} (hfew : c.small = true) {k i : Int} (hf : fltE c k i = 0) : touchR c k i = [] ↔ c = (faultyF c k i).d := by
  obtain ⟨hc, hk, hi0, hiN, hiA⟩ := flt_parts hf
  have hR := rgt_check hc hfew
  have hact := hR.mid.act
  unfold touchR faultyF
  rw [if_pos hf]
  generalize c.act.toNat = A at *
  unfold touchL
  rw [List.append_eq_nil_iff, selL_nil, selL_nil]
  -- the signals
  have hsig : (∀ j, j < c.signals.length → touchF c.signals k i j = false) → k = 2 ∨ k = 3 → (startF c k i A).d = c := fun h hl => by
    have : c.signals.map (replS (lineI k i) (lineV k)) = c.signals := by
      rw [List.map_congr_left (g := id), List.map_id]
      intro x hx
      obtain ⟨j, hj, rfl⟩ := List.mem_iff_getElem.1 hx
      have g := h j hj
      unfold touchF at g
      rw [decide_eq_true hl, Bool.true_and, List.getElem?_eq_getElem hj] at g
      simp only [Option.map_some, Option.getD_some, Bool.or_eq_false_iff] at g
      have hi : lineI k i = i := by unfold lineI; rw [if_pos hl]
      have g1 := (repl_same i (lineV k) c.signals[j].on).2 (by rw [had_occ_on hR i hx]; exact g.1)
      have g2 := (repl_same i (lineV k) c.signals[j].off).2 (by rw [had_occ_off hR i hx]; exact g.2)
      unfold replS
      rw [hi, g1, g2]
      rfl
    unfold startF
    rw [this]
  constructor
  · rintro ⟨h1, h2⟩
    rw [unchanged h2]
    by_cases hl : k = 2 ∨ k = 3
    · exact (hsig h1 hl).symm
    · have h3 := hiA hl
      have h4 := chg_false.1 (h2 i.toNat (by omega))
      unfold pil at h4
      rw [if_neg hl, if_pos (by omega)] at h4
      exfalso
      revert h4
      repeat' split
      all_goals simp
  · intro h
    have e1 := step_need (c := c) (k := k) (i := i) (A := A) (v := 1) (s := stepV c k i A 0 (startF c k i A))
    have e0 := step_need (c := c) (k := k) (i := i) (A := A) (v := 0) (s := startF c k i A)
    have l0 := (start_lens c k i A).1
    rw [← h, e0, l0] at e1
    have n0 : needV c k i 0 A = false := by
      cases hb : needV c k i 0 A with
      | false => rfl
      | true => rw [hb, if_pos rfl] at e1; omega
    have n1 : needV c k i 1 A = false := by
      cases hb : needV c k i 1 A with
      | false => rfl
      | true => rw [hb, if_pos rfl] at e1; omega
    have h2 := need_zero.1 ⟨n0, n1⟩
    rw [unchanged h2] at h
    refine ⟨fun j hj => ?_, h2⟩
    unfold touchF
    by_cases hl : k = 2 ∨ k = 3
    · have hs : c.signals.map (replS (lineI k i) (lineV k)) = c.signals := (congrArg Ct.signals h).symm
      have hi : lineI k i = i := by unfold lineI; rw [if_pos hl]
      rw [hi] at hs
      have hx := List.getElem_mem hj
      have g := congrArg (fun l => l[j]?) hs
      simp only [List.getElem?_map, List.getElem?_eq_getElem hj, Option.map_some, Option.some.injEq] at g
      have g1 := congrArg Sg.on g
      have g2 := congrArg Sg.off g
      rw [List.getElem?_eq_getElem hj]
      simp only [Option.map_some, Option.getD_some]
      rw [← had_occ_on hR i hx, ← had_occ_off hR i hx, (repl_same _ _ _).1 g1, (repl_same _ _ _).1 g2]
      simp
    · rw [decide_eq_false hl]; rfl
theorem keep_touch {c : Ct} {k i : Int} (hf : fltE c k i = 0) : keepL (fun n => decide (n < (countN c c.act.toNat : Nat))) (touchR c k i) = selL (chgF c k i) (countN c c.act.toNat) c.act.toNat := by
  unfold touchR
  rw [if_pos hf]
  generalize c.act.toNat = A
  unfold touchL keepL
  rw [List.filter_append]
  have h1 : (selL (touchF c.signals k i) (firstN c A) c.signals.length).filter (fun n : Int => !decide (n < (countN c A : Nat))) = [] := by
    rw [List.filter_eq_nil_iff]
    intro v hv
    obtain ⟨j, hj, _, rfl⟩ := (selL_mem _ _ _ _).1 hv
    have : ((firstN c A : Nat) : Int) + (j : Int) < (countN c A : Nat) := by unfold firstN countN; omega
    rw [decide_eq_true this]
    decide
  have h2 : (selL (chgF c k i) (countN c A) A).filter (fun n : Int => !decide (n < (countN c A : Nat))) = selL (chgF c k i) (countN c A) A := by
    rw [List.filter_eq_self]
    intro v hv
    obtain ⟨j, hj, _, rfl⟩ := (selL_mem _ _ _ _).1 hv
    rw [decide_eq_false (by omega)]
    rfl
  rw [h1, h2, List.nil_append]
theorem faulty_plus {c : Ct} {A : Nat} (hR : Rgt c A) (k i : Int) {j : Nat} (hj : j < A) (hp : j < c.plus.length) (hm : j < c.minus.length) :
    (∃ v, (stepV c k i A 1 (stepV c k i A 0 (startF c k i A))).d.plus[j]? = some v ∧ (0 ≤ (pil c k i j).1 ↔ (countN c A : Nat) ≤ v)) ∧ (∃ v, (stepV c k i A 1 (stepV c k i A 0 (startF c k i A))).d.minus[j]? = some v ∧ (0 ≤ (pil c k i j).2 ↔ (countN c A : Nat) ≤ v)) := by
  have hg := pil_ge c k i j
  have hl := pil_le c k i j
  have badP : c.plus[j] < (countN c A : Nat) := by
    have h := List.any_eq_false.1 hR.pp _ (List.getElem_mem hp)
    unfold badL at h
    simp at h
    unfold countN
    omega
  have badM : c.minus[j] < (countN c A : Nat) := by
    have h := List.any_eq_false.1 hR.mm _ (List.getElem_mem hm)
    unfold badL at h
    simp at h
    unfold countN
    omega
  have n0 : (countN c A : Nat) ≤ countN (startF c k i A).d A := by
    unfold countN startF
    simp
  have n1 : countN (startF c k i A).d A ≤ countN (stepV c k i A 0 (startF c k i A)).d A := by
    have := (step_lens c k i A 0 (startF c k i A)).1
    unfold countN
    have e : (stepV c k i A 0 (startF c k i A)).d.inputs = (startF c k i A).d.inputs := rfl
    rw [e]
    omega
  constructor
  · have hp' : j < (putTo (selP c k i 0) (countN (startF c k i A).d A) A c.plus).length := by rw [putTo_len]; exact hp
    have h1 := putTo_at (f := selP c k i 0) (next := (countN (startF c k i A).d A : Nat)) hp hj
    have h2 := putTo_at (f := selP c k i 1) (next := (countN (stepV c k i A 0 (startF c k i A)).d A : Nat)) hp' hj
    rw [List.getElem?_eq_getElem hp', Option.some.injEq] at h1
    rw [h1] at h2
    clear hp' h1
    refine ⟨_, h2, ?_⟩
    clear h2
    generalize countN (stepV c k i A 0 (startF c k i A)).d A = N2 at *
    generalize countN (startF c k i A).d A = N1 at *
    generalize countN c A = N0 at *
    simp only [selP, beq_iff_eq]
    generalize (pil c k i j).1 = p at *
    rcases (by omega : p = -1 ∨ p = 0 ∨ p = 1) with rfl | rfl | rfl
    · simp; omega
    · simp; omega
    · simp; omega
  · have hp' : j < (putTo (selM c k i 0) (countN (startF c k i A).d A) A c.minus).length := by rw [putTo_len]; exact hm
    have h1 := putTo_at (f := selM c k i 0) (next := (countN (startF c k i A).d A : Nat)) hm hj
    have h2 := putTo_at (f := selM c k i 1) (next := (countN (stepV c k i A 0 (startF c k i A)).d A : Nat)) hp' hj
    rw [List.getElem?_eq_getElem hp', Option.some.injEq] at h1
    rw [h1] at h2
    clear hp' h1
    refine ⟨_, h2, ?_⟩
    clear h2
    generalize countN (stepV c k i A 0 (startF c k i A)).d A = N2 at *
    generalize countN (startF c k i A).d A = N1 at *
    generalize countN c A = N0 at *
    simp only [selM, beq_iff_eq]
    generalize (pil c k i j).2 = p at *
    rcases (by omega : p = -1 ∨ p = 0 ∨ p = 1) with rfl | rfl | rfl
    · simp; omega
    · simp; omega
    · simp; omega
theorem same_pilots {c : Ct} (hfew : c.small = true) {k i k' i' : Int} (hc : c.check = 0) (h : (faultyF c k i).d = (faultyF c k' i').d) : selL (chgF c k i) (countN c c.act.toNat) c.act.toNat = selL (chgF c k' i') (countN c c.act.toNat) c.act.toNat := by
  have hR := rgt_check hc hfew
  have hp := hR.plus
  have hm := hR.minus
  unfold faultyF at h
  generalize c.act.toNat = A at *
  refine selL_congr fun j hj => ?_
  obtain ⟨⟨a, a1, a2⟩, ⟨b, b1, b2⟩⟩ := faulty_plus hR k i hj (by omega) (by omega)
  obtain ⟨⟨a', a1', a2'⟩, ⟨b', b1', b2'⟩⟩ := faulty_plus hR k' i' hj (by omega) (by omega)
  rw [h, a1', Option.some.injEq] at a1
  rw [h, b1', Option.some.injEq] at b1
  subst a1 b1
  unfold chgF
  rw [decide_eq_decide.2 (a2.trans a2'.symm), decide_eq_decide.2 (b2.trans b2'.symm)]
end Go.Proofs.YtopjiafdimoeiaaGreat
