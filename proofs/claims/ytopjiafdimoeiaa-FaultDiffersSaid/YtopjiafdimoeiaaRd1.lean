import Derived.Test.YtopjiafdimoeiaaTe2
/- The text of a fault is read back. -/
namespace Go.Proofs.Ytopjiafdimoeiaa
open Go Go.Am Go.Proofs
set_option maxRecDepth 100000
theorem nameE_zero {K : List Txt} {s : Txt} (h : nameE K s = 0) : wordB s = true ∧ s.length ≤ 24 ∧ ¬ s ∈ K := by
  unfold nameE at h
  split at h
  · rename_i h1
    split at h
    · cases h
    · split at h
      · cases h
      · rename_i h2 h3
        exact ⟨h1, by omega, h3⟩
  · cases h
theorem name_good {c : Ct} {A : Nat} (h : Rgt c A) {j : Nat} (h1 : 2 * A ≤ j) (h2 : j < countN c A) : nameE (namesTo c A j) (nameAt c A j) = 0 := by
  unfold countN at h2
  by_cases hj : j < 2 * A + c.inputs.length
  · have h3 := h.inp (j - 2 * A) (by omega)
    rw [show 2 * A + (j - 2 * A) = j by omega] at h3
    exact h3
  · have hi : j - (2 * A + c.inputs.length) < c.signals.length := by omega
    have h3 := h.name (j - (2 * A + c.inputs.length)) _ (List.getElem?_eq_getElem hi)
    have h4 := nameAt_sig c A (j - (2 * A + c.inputs.length)) hi
    rw [show firstN c A + (j - (2 * A + c.inputs.length)) = j by unfold firstN; omega] at h3 h4
    rw [h4]
    exact h3
theorem two_inj {i j : Nat} (hi : i < 12) (hj : j < 12) (h : ([UInt8.ofNat (97 + i / 2), UInt8.ofNat (48 + i % 2)] : Txt) = [UInt8.ofNat (97 + j / 2), UInt8.ofNat (48 + j % 2)]) : i = j := by
  have key : ∀ i : Fin 12, ∀ j : Fin 12, ([UInt8.ofNat (97 + i.val / 2), UInt8.ofNat (48 + i.val % 2)] : Txt) = [UInt8.ofNat (97 + j.val / 2), UInt8.ofNat (48 + j.val % 2)] → i = j := by decide
  have := key ⟨i, hi⟩ ⟨j, hj⟩ h
  exact congrArg Fin.val this
theorem nameAt_lt {c : Ct} {A : Nat} (h : Rgt c A) {i j : Nat} (hij : i < j) (hj : j < countN c A) : nameAt c A i ≠ nameAt c A j := by
  intro he
  have hA6 := h.mid.hi
  by_cases h1 : j < 2 * A
  · unfold nameAt at he
    rw [if_pos h1, if_pos (by omega)] at he
    have := two_inj (by omega) (by omega) he
    omega
  · have h2 := (nameE_zero (name_good h (by omega) hj)).2.2
    apply h2
    unfold namesTo
    exact List.mem_map.2 ⟨i, List.mem_range.2 hij, he⟩
theorem nameAt_inj {c : Ct} {A : Nat} (h : Rgt c A) {i j : Nat} (hi : i < countN c A) (hj : j < countN c A) (he : nameAt c A i = nameAt c A j) : i = j := by
  rcases Nat.lt_trichotomy i j with h1 | h1 | h1
  · exact absurd he (nameAt_lt h h1 hj)
  · exact h1
  · exact absurd he.symm (nameAt_lt h h1 hi)
theorem app_end {x y a b : Txt} (h : x ++ a = y ++ b) (hab : a.length = b.length) : x = y ∧ a = b := by
  have h1 := congrArg List.length h
  rw [List.length_append, List.length_append] at h1
  exact List.append_inj h (by omega)
theorem ends_ne {x y : Txt} : x ++ t2t ≠ y ++ t3t := by
  intro h
  have h1 := congrArg List.reverse h
  simp at h1
theorem letter_ne {i : Nat} (hi : i < 6) {a : Txt} {n s : Txt} : (linet ++ n ++ a) ≠ [UInt8.ofNat (65 + i)] ++ s := by
  intro h
  have h1 := congrArg List.head? h
  rcases (by omega : i = 0 ∨ i = 1 ∨ i = 2 ∨ i = 3 ∨ i = 4 ∨ i = 5) with rfl | rfl | rfl | rfl | rfl | rfl <;> simp at h1
theorem letter_inj {i j : Nat} (hi : i < 6) (hj : j < 6) (h : UInt8.ofNat (65 + i) = UInt8.ofNat (65 + j)) : i = j := by
  have key : ∀ i : Fin 6, ∀ j : Fin 6, UInt8.ofNat (65 + i.val) = UInt8.ofNat (65 + j.val) → i = j := by decide
  exact congrArg Fin.val (key ⟨i, hi⟩ ⟨j, hj⟩ h)
theorem writ_inj {c : Ct} (hfew : c.small = true) {k i k' i' : Int} (h : fltE c k i = 0) (h' : fltE c k' i' = 0) (he : writ c c.act.toNat k i = writ c c.act.toNat k' i') : k = k' ∧ i = i' := by
  obtain ⟨hc, hk, hi0, hiN, hiA⟩ := flt_parts h
  obtain ⟨_, hk', hi0', hiN', hiA'⟩ := flt_parts h'
  have hR := rgt_check hc hfew
  have hA := hR.mid.act
  have hA6 := hR.mid.hi
  obtain ⟨n, rfl⟩ : ∃ n : Nat, i = n := ⟨i.toNat, by omega⟩
  obtain ⟨n', rfl⟩ : ∃ n' : Nat, i' = n' := ⟨i'.toNat, by omega⟩
  unfold writ at he
  simp only [Int.toNat_natCast] at he
  by_cases hl : k = 2 ∨ k = 3
  · have g := hiN hl
    rw [if_pos hl] at he
    by_cases hl' : k' = 2 ∨ k' = 3
    · have g' := hiN' hl'
      rw [if_pos hl'] at he
      have same : ∀ s : Txt, linet ++ nameAt c c.act.toNat n ++ s = linet ++ nameAt c c.act.toNat n' ++ s → n = n' := fun s hs => by
        have h1 := (app_end hs rfl).1
        have h2 := List.append_cancel_left h1
        exact nameAt_inj hR (by omega) (by omega) h2
      rcases hl with rfl | rfl <;> rcases hl' with rfl | rfl
      · exact ⟨rfl, by rw [same _ he]⟩
      · simp only [if_true] at he
        exact absurd he ends_ne
      · exact absurd he.symm ends_ne
      · exact ⟨rfl, by rw [same _ he]⟩
    · rw [if_neg hl'] at he
      have g' := hiA' hl'
      exact absurd he (letter_ne (by omega))
  · have g := hiA hl
    rw [if_neg hl] at he
    by_cases hl' : k' = 2 ∨ k' = 3
    · rw [if_pos hl'] at he
      exact absurd he.symm (letter_ne (by omega))
    · have g' := hiA' hl'
      rw [if_neg hl'] at he
      obtain ⟨h1, h2⟩ := List.cons.inj he
      have h3 := letter_inj (by omega) (by omega) h1
      refine ⟨?_, by rw [h3]⟩
      rcases (by omega : k = 0 ∨ k = 1 ∨ k = 4 ∨ k = 5) with rfl | rfl | rfl | rfl <;> rcases (by omega : k' = 0 ∨ k' = 1 ∨ k' = 4 ∨ k' = 5) with rfl | rfl | rfl | rfl <;> first | rfl | exact absurd h2 (by decide)
theorem mem_all {c : Ct} (hfew : c.small = true) {k i : Int} (h : fltE c k i = 0) : (k, i) ∈ allL c := by
  obtain ⟨hc, hk, hi0, hiN, hiA⟩ := flt_parts h
  have hM := mid_check hc hfew
  have hA := hM.act
  unfold allL
  rw [if_pos hc]
  unfold fupto fkind
  simp only [List.mem_flatMap, List.mem_range, List.mem_map]
  refine ⟨k.toNat, by omega, i.toNat, ?_, by rw [Int.toNat_of_nonneg hk.1, Int.toNat_of_nonneg hi0]⟩
  unfold mostN
  by_cases hl : k = 2 ∨ k = 3
  · have := hiN hl
    rw [if_pos (by omega)]
    omega
  · have := hiA hl
    rw [if_neg (by omega)]
    omega
theorem sufT_len (k : Int) : (sufT k).length ≤ 12 := by
  unfold sufT
  split
  · simp
  · split
    · simp
    · split <;> simp
theorem writ_len {c : Ct} (hfew : c.small = true) (A : Nat) (k i : Int) : (writ c A k i).length ≤ 211 := by
  unfold writ
  split
  · have := nameAt_len (A := A) hfew i.toNat
    split <;> simp <;> omega
  · have := sufT_len k
    simp
    omega
theorem read_back {c : Ct} (hfew : c.small = true) {k i : Int} (h : fltE c k i = 0) : parseV c (textR c k i) = ((k, i), 0) := by
  obtain ⟨hc, _⟩ := flt_parts h
  have hm := mem_all hfew h
  have hl := writ_len hfew c.act.toNat k i
  unfold parseV textR
  rw [if_pos hc, if_pos h, if_neg (by omega)]
  cases hf : (allL c).find? (isT c (writ c c.act.toNat k i)) with
  | none =>
    have h1 := List.find?_eq_none.1 hf _ hm
    exact absurd (by simp [isT]) h1
  | some p =>
    have h1 := List.find?_some hf
    have h2 := all_right hfew (List.mem_of_find?_eq_some hf)
    unfold isT at h1
    obtain ⟨rfl, rfl⟩ := writ_inj hfew h h2 (by rw [beq_iff_eq] at h1; exact h1.symm)
    rfl
end Go.Proofs.Ytopjiafdimoeiaa
/- The faulty control. -/
namespace Go.Proofs.Ytopjiafdimoeiaa
open Go Go.Am Go.Proofs
set_option maxRecDepth 100000
/-! ### names that are not there yet -/
theorem pigeon {α : Type} [DecidableEq α] (f : Nat → α) (hf : ∀ i j, f i = f j → i = j) : ∀ (n : Nat) (K : List α), (∀ j, j < n → f j ∈ K) → n ≤ K.length
  | 0, _, _ => Nat.zero_le _
  | n + 1, K, h => by
    have h1 := h n (by omega)
    have h2 := List.length_erase_of_mem h1
    have h3 := List.length_pos_of_mem h1
    have ih := pigeon f hf n (K.erase (f n)) fun j hj => (List.mem_erase_of_ne (fun e => by have := hf _ _ e; omega)).2 (h j (by omega))
    omega
abbrev withU (s : Txt) (j : Nat) : Txt := s ++ List.replicate j 95
theorem withU_inj (s : Txt) (i j : Nat) (h : withU s i = withU s j) : i = j := by
  have := congrArg List.length h
  simp at this
  exact this
def freeFrom (K : List Txt) (s : Txt) (n : Nat) : Nat → Nat
  | 0 => n
  | m + 1 => if withU s n ∈ K then freeFrom K s (n + 1) m else n
def freeN (K : List Txt) (s : Txt) : Nat := freeFrom K s 0 (K.length + 1)
theorem freeFrom_le (K : List Txt) (s : Txt) : ∀ (m n : Nat), freeFrom K s n m ≤ n + m
  | 0, n => Nat.le_refl _
  | m + 1, n => by
    unfold freeFrom
    split
    · have := freeFrom_le K s m (n + 1)
      omega
    · omega
theorem freeFrom_lt (K : List Txt) (s : Txt) : ∀ (m n : Nat), (∀ j, j < n → withU s j ∈ K) → ∀ j, j < freeFrom K s n m → withU s j ∈ K
  | 0, n, h => h
  | m + 1, n, h => by
    unfold freeFrom
    split
    · rename_i hn
      refine freeFrom_lt K s m (n + 1) fun j hj => ?_
      by_cases e : j = n
      · rw [e]; exact hn
      · exact h j (by omega)
    · exact h
theorem freeFrom_not (K : List Txt) (s : Txt) : ∀ (m n : Nat), freeFrom K s n m < n + m → ¬ withU s (freeFrom K s n m) ∈ K
  | 0, n, h => absurd h (by unfold freeFrom; omega)
  | m + 1, n, h => by
    unfold freeFrom at h ⊢
    split
    · rename_i hn
      rw [if_pos hn] at h
      exact freeFrom_not K s m (n + 1) (by omega)
    · rename_i hn
      exact hn
theorem free_lt (K : List Txt) (s : Txt) : ∀ j, j < freeN K s → withU s j ∈ K := freeFrom_lt K s _ 0 fun j hj => by omega
theorem free_le (K : List Txt) (s : Txt) : freeN K s ≤ K.length := pigeon (withU s) (withU_inj s) _ K (free_lt K s)
theorem free_not (K : List Txt) (s : Txt) : ¬ withU s (freeN K s) ∈ K := freeFrom_not K s _ 0 (by have := free_le K s; unfold freeN at this; omega)
def freshT (K : List Txt) (s : Txt) : Txt := withU s (freeN K s)
theorem freshT_len (K : List Txt) (s : Txt) : (freshT K s).length ≤ s.length + K.length := by
  have := free_le K s
  unfold freshT
  simp
  omega
/-! ### the faulty control -/
def lineI (k i : Int) : Int := if k = 2 ∨ k = 3 then i else -1
abbrev replS (n v : Int) (x : Sg) : Sg := ⟨x.name, x.kind, x.on.repl n v, x.off.repl n v, x.delay, x.init⟩
def putTo (f : Nat → Bool) (next : Int) : Nat → List Int → List Int
  | 0, l => l
  | j + 1, l => if f j = true then (putTo f next j l).set j next else putTo f next j l
theorem putTo_len (f : Nat → Bool) (next : Int) (l : List Int) : ∀ j, (putTo f next j l).length = l.length
  | 0 => rfl
  | j + 1 => by
    have ih := putTo_len f next l j
    unfold putTo
    split
    · rw [List.length_set, ih]
    · exact ih
def needTo (p : Nat → Bool) : Nat → Bool
  | 0 => false
  | j + 1 => needTo p j || p j
abbrev stuckT (v : Int) : Txt := [115, 116, 117, 99, 107, if v = 0 then 48 else 49]
abbrev gateOf (name : Txt) (v : Int) : Sg := ⟨name, 0, .mk 0 v [], .mk 0 0 [], 0, false⟩
structure Fs where
  d : Ct
  K : List Txt
  w : List Bool
abbrev selP (c : Ct) (k i v : Int) (j : Nat) : Bool := (pil c k i j).1 == v
abbrev selM (c : Ct) (k i v : Int) (j : Nat) : Bool := (pil c k i j).2 == v
def needV (c : Ct) (k i v : Int) (A : Nat) : Bool := needTo (fun j => selP c k i v j || selM c k i v j) A
def stepV (c : Ct) (k i : Int) (A : Nat) (v : Int) (s : Fs) : Fs :=
  ⟨⟨s.d.act, s.d.inputs, if needV c k i v A = true then s.d.signals ++ [gateOf (freshT s.K (stuckT v)) v] else s.d.signals, putTo (selP c k i v) (countN s.d A) A s.d.plus, putTo (selM c k i v) (countN s.d A) A s.d.minus⟩,
    if needV c k i v A = true then s.K ++ [freshT s.K (stuckT v)] else s.K, if needV c k i v A = true then s.w ++ [v == 1] else s.w⟩
def startF (c : Ct) (k i : Int) (A : Nat) : Fs := ⟨⟨c.act, c.inputs, c.signals.map (replS (lineI k i) (lineV k)), c.plus, c.minus⟩, namesTo c A (countN c A), []⟩
def faultyF (c : Ct) (k i : Int) : Fs := stepV c k i c.act.toNat 1 (stepV c k i c.act.toNat 0 (startF c k i c.act.toNat))
/-! ### it is small -/
mutual
theorem repl_nodes (n v : Int) : ∀ x : Ex, (x.repl n v).nodes ≤ x.nodes
  | .mk o i l => by
    rw [Ex.repl]
    split
    · rw [Ex.nodes, Ex.nodes, nodesL]; omega
    · rw [Ex.nodes, Ex.nodes]
      have := replL_nodes n v l
      omega
theorem replL_nodes (n v : Int) : ∀ l : List Ex, nodesL (replL n v l) ≤ nodesL l
  | [] => Nat.le_refl _
  | x :: l => by
    rw [replL, nodesL, nodesL]
    have h1 := repl_nodes n v x
    have h2 := replL_nodes n v l
    omega
end
mutual
theorem repl_depth (n v : Int) : ∀ x : Ex, (x.repl n v).depth ≤ x.depth
  | .mk o i l => by
    rw [Ex.repl]
    split
    · rw [Ex.depth, Ex.depth, depthL]; omega
    · rw [Ex.depth, Ex.depth]
      have := replL_depth n v l
      omega
theorem replL_depth (n v : Int) : ∀ l : List Ex, depthL (replL n v l) ≤ depthL l
  | [] => Nat.le_refl _
  | x :: l => by
    rw [replL, depthL, depthL]
    have h1 := repl_depth n v x
    have h2 := replL_depth n v l
    omega
end
theorem repl_light {n v : Int} {x : Ex} (h : x.light = true) : (x.repl n v).light = true := by
  obtain ⟨h1, h2⟩ := light_nodes h
  have h3 := repl_nodes n v x
  have h4 := repl_depth n v x
  simp only [Ex.light, Bool.and_eq_true, decide_eq_true_eq]
  omega
theorem small_of {c : Ct} (h1 : c.inputs.length ≤ 32) (h2 : c.signals.length ≤ 128) (h3 : c.plus.length ≤ 40) (h4 : c.minus.length ≤ 40) (h5 : ∀ s ∈ c.inputs, s.length ≤ 200) (h6 : ∀ x ∈ c.signals, x.name.length ≤ 200 ∧ x.on.light = true ∧ x.off.light = true) : c.small = true := by
  simp only [Ct.small, Bool.and_eq_true, decide_eq_true_eq, List.all_eq_true, fewI, fewS]
  exact ⟨⟨⟨⟨⟨h1, h2⟩, h3⟩, h4⟩, h5⟩, fun x hx => ⟨⟨(h6 x hx).1, (h6 x hx).2.1⟩, (h6 x hx).2.2⟩⟩
theorem light0 (v : Int) : (Ex.mk 0 v []).light = true := by
  simp [Ex.light, Ex.nodes, Ex.depth, nodesL, depthL]
theorem start_small {c : Ct} (hfew : c.small = true) (k i : Int) (A : Nat) : (startF c k i A).d.small = true := by
  obtain ⟨h1, h2, h3, h4, h5, h6⟩ := few_parts hfew
  refine small_of h1 ?_ h3 h4 h5 ?_
  · unfold startF
    rw [List.length_map]
    exact h2
  · intro x hx
    unfold startF at hx
    obtain ⟨y, hy, rfl⟩ := List.mem_map.1 hx
    obtain ⟨g1, g2, g3⟩ := h6 y hy
    exact ⟨g1, repl_light g2, repl_light g3⟩
theorem step_small {c : Ct} {k i : Int} {A : Nat} {v : Int} {s : Fs} (h : s.d.small = true) (hs : s.d.signals.length < 128) (hK : s.K.length ≤ 190) : (stepV c k i A v s).d.small = true := by
  obtain ⟨h1, h2, h3, h4, h5, h6⟩ := few_parts h
  refine small_of h1 ?_ ?_ ?_ h5 ?_
  · unfold stepV
    simp only
    split
    · simp; omega
    · exact h2
  · unfold stepV
    simp only [putTo_len]
    exact h3
  · unfold stepV
    simp only [putTo_len]
    exact h4
  · intro x hx
    unfold stepV at hx
    simp only at hx
    split at hx
    · rcases List.mem_append.1 hx with hx | hx
      · exact h6 x hx
      · obtain rfl := List.mem_singleton.1 hx
        have := freshT_len s.K (stuckT v)
        have e : (stuckT v).length = 6 := rfl
        have e2 : (freshT s.K (stuckT v)).length ≤ 200 := by omega
        exact ⟨e2, light0 v, light0 0⟩
    · exact h6 x hx
theorem step_lens (c : Ct) (k i : Int) (A : Nat) (v : Int) (s : Fs) : s.d.signals.length ≤ (stepV c k i A v s).d.signals.length ∧ (stepV c k i A v s).d.signals.length ≤ s.d.signals.length + 1 ∧ (stepV c k i A v s).K.length ≤ s.K.length + 1 := by
  unfold stepV
  simp only
  split <;> simp
theorem start_lens (c : Ct) (k i : Int) (A : Nat) : (startF c k i A).d.signals.length = c.signals.length ∧ (startF c k i A).K.length = countN c A := by
  unfold startF namesTo
  simp
theorem faulty_lens (c : Ct) (k i : Int) : c.signals.length ≤ (faultyF c k i).d.signals.length ∧ (faultyF c k i).d.signals.length ≤ c.signals.length + 2 := by
  obtain ⟨a1, _⟩ := start_lens c k i c.act.toNat
  obtain ⟨b1, b2, _⟩ := step_lens c k i c.act.toNat 0 (startF c k i c.act.toNat)
  obtain ⟨d1, d2, _⟩ := step_lens c k i c.act.toNat 1 (stepV c k i c.act.toNat 0 (startF c k i c.act.toNat))
  unfold faultyF
  omega
theorem faulty_small {c : Ct} (hfew : c.small = true) (hc : c.check = 0) (k i : Int) : (faultyF c k i).d.small = true := by
  have hM := mid_check hc hfew
  have hA6 := hM.hi
  have h64 : c.inputs.length ≤ 16 ∧ c.signals.length ≤ 64 := by
    unfold Ct.check at hc
    split at hc
    · cases hc
    · split at hc
      · cases hc
      · omega
  obtain ⟨a1, a2⟩ := start_lens c k i c.act.toNat
  obtain ⟨b1, b2, b3⟩ := step_lens c k i c.act.toNat 0 (startF c k i c.act.toNat)
  have e : countN c c.act.toNat ≤ 100 := by unfold countN; omega
  exact step_small (step_small (start_small hfew k i _) (by omega) (by omega)) (by omega) (by omega)
theorem faulty_same (c : Ct) (k i : Int) : (faultyF c k i).d.act = c.act ∧ (faultyF c k i).d.inputs = c.inputs := ⟨rfl, rfl⟩
theorem step_at {c : Ct} {k i : Int} {A : Nat} {v : Int} {s : Fs} {j : Nat} (hj : j < s.d.signals.length) : (stepV c k i A v s).d.signals[j]? = s.d.signals[j]? := by
  unfold stepV
  simp only
  split
  · exact List.getElem?_append_left hj
  · rfl
theorem faulty_at (c : Ct) (k i : Int) (j : Nat) (hj : j < c.signals.length) : (faultyF c k i).d.signals[j]? = some (replS (lineI k i) (lineV k) c.signals[j]) := by
  obtain ⟨a1, _⟩ := start_lens c k i c.act.toNat
  obtain ⟨b1, b2, _⟩ := step_lens c k i c.act.toNat 0 (startF c k i c.act.toNat)
  unfold faultyF
  rw [step_at (by omega), step_at (by omega)]
  unfold startF
  simp only
  rw [List.getElem?_map, List.getElem?_eq_getElem hj]
  rfl
end Go.Proofs.Ytopjiafdimoeiaa
/- Clones; is a text in a list? -/
namespace Go.Proofs.Ytopjiafdimoeiaa
open Go Go.Am Go.Proofs
set_option maxRecDepth 100000
theorem ev122 (l : List Txt) (hl : l.length ≤ 4096) : ev pg (.call (.fn 122 [] []) [.imm (l.map srow)] []) = some { v := .sl 0 0 1 0 l.length, st := ⟨[], [⟨0, .arr 1 (l.map srow)⟩]⟩ } := by
  rw [ev_call, pg122]
  cases l with
  | nil => simp [ir122, moveVs, moveV, move1]
  | cons x l =>
    have h47 : (l.length + 1) * 16 ≤ 140737488355328 := by
      simp only [List.length_cons] at hl
      omega
    simp [ir122, h47, moveVs, moveV, move1]
theorem ev35 (l : List Int) (hl : l.length ≤ 4096) : ev pg (.call (.fn 35 [] []) [ints l] []) = some { v := .sl 0 0 1 0 l.length, st := ⟨[], [⟨0, .arr 1 (l.map nrow)⟩]⟩ } := by
  rw [ev_call, pg35]
  cases l with
  | nil => simp [ir35, moveVs, moveV, move1]
  | cons x l =>
    have h47 : (l.length + 1) * 8 ≤ 140737488355328 := by
      simp only [List.length_cons] at hl
      omega
    simp [ir35, h47, moveVs, moveV, move1]
def isS (s x : Txt) : Bool := s == x
def I152 (K : List Txt) (t : Txt) (k : Nat) (st : St) : Prop := st.h = [] ∧ st.s.length = 19 ∧ getS st.s 0 = .imm (K.map srow) ∧ getS st.s 1 = .str t ∧ getS st.s 7 = num K.length ∧ getS st.s 8 = num k ∧ K.any (isS t) = (K.drop k).any (isS t)
def Q152 (K : List Txt) (t : Txt) (r : R) : Prop := r.st.s.length = 19 ∧ ((r.x = .exit 0 ∧ r.st.h = [] ∧ K.any (isS t) = false) ∨ (r.x = .ret ∧ r.st.h = [] ∧ (∃ k : Nat, getS r.st.s 4 = num k) ∧ K.any (isS t) = true))
theorem loop152 (K : List Txt) (t : Txt) (hK : K.length ≤ 4096) (st : St) (h0 : I152 K t 0 st) : ∃ r, ev pg (.code (.going 0 L152_0) st) = some r ∧ Q152 K t r := by
  refine loop_from (I152 K t) K.length (Q152 K t) h0 ?_ ?_
  · rintro k ⟨s, hh⟩ hk ⟨rfl, hl, e0, e1, e7, e8, he⟩
    simp only at hl e0 e1 e7 e8
    have hk' : (k : Int) < K.length := by omega
    have wk := wrap_id (n := (k : Int) + 1) (by omega) (by omega)
    rw [any_at hk] at he
    rw [getS_expand hl]
    by_cases hb : t = K[k]
    · have hb2 : isS t K[k] = true := by simpa [isS] using hb
      rw [hb2] at he
      have hb3 : (t == K[k]) = true := by simpa using hb
      simp [L152_0, Q152, List.range, List.range.loop, e0, e1, e7, e8, hk, hk', hb3]
      exact ⟨⟨k, rfl⟩, by simpa using he⟩
    · have hb2 : isS t K[k] = false := by simpa [isS] using hb
      rw [hb2] at he
      have hb3 : (t == K[k]) = false := by simpa using hb
      simp [L152_0, I152, List.range, List.range.loop, e0, e1, e7, e8, hk, hk', hb3, wk]
      simpa using he
  · rintro ⟨s, hh⟩ ⟨rfl, hl, e0, e1, e7, e8, he⟩
    simp only [List.drop_length] at hl e0 e1 e7 e8 he
    have he' : K.any (isS t) = false := he
    rw [getS_expand hl]
    simp [L152_0, Q152, List.range, List.range.loop, e0, e1, e7, e8]
    simpa using he'
theorem ev123 (K : List Txt) (t : Txt) (hK : K.length ≤ 4096) : ev pg (.call (.fn 123 [] []) [.imm (K.map srow), .str t] []) = some { v := .bool (K.any (isS t)), st := ⟨[], []⟩ } := by
  have hloop := loop152 K t hK
  have h152 : ∃ r : Int, ev pg (.call (.fn 152 [] []) [.imm (K.map srow), .str t] []) = some { v := num r, st := ⟨[], []⟩ } ∧ decide (0 ≤ r) = K.any (isS t) := by
    unfold Q152 at hloop
    have hI : ∀ st : St, I152 K t 0 st ↔ (st.h = [] ∧ st.s.length = 19 ∧ getS st.s 0 = .imm (K.map srow) ∧ getS st.s 1 = .str t ∧ getS st.s 7 = num K.length ∧ getS st.s 8 = num 0) := fun st => by
      unfold I152
      exact ⟨fun h => ⟨h.1, h.2.1, h.2.2.1, h.2.2.2.1, h.2.2.2.2.1, h.2.2.2.2.2.1⟩, fun h => ⟨h.1, h.2.1, h.2.2.1, h.2.2.2.1, h.2.2.2.2.1, h.2.2.2.2.2, rfl⟩⟩
    generalize K.any (isS t) = B at *
    rw [ev_call, pg152]
    simp [ir152, ev_loop]
    generalize hr : ev pg (.code (.going _ L152_0) _) = o
    obtain ⟨r, rfl, hl, hQ⟩ : ∃ r, o = some r ∧ _ := by
      rw [← hr]
      exact hloop _ ((hI _).2 ⟨by simp, by simp, by simp, by simp, by simp, by simp⟩)
    rcases hQ with ⟨hx, hh, rfl⟩ | ⟨hx, hh, ⟨k, h4⟩, rfl⟩
    · simp [hx, hh, hl]
    · simp [hx, h4]
  obtain ⟨r, h152, hr⟩ := h152
  rw [ev_call, pg123, ← hr]
  simp [ir123, h152]
theorem any_mem (K : List Txt) (t : Txt) : K.any (isS t) = decide (t ∈ K) := by
  rw [Bool.eq_iff_iff, List.any_eq_true, decide_eq_true_eq]
  constructor
  · rintro ⟨x, hx, e⟩
    unfold isS at e
    rw [beq_iff_eq] at e
    rw [e]; exact hx
  · intro h
    exact ⟨t, h, by simp [isS]⟩
end Go.Proofs.Ytopjiafdimoeiaa
/- Are lists equal? -/
namespace Go.Proofs.Ytopjiafdimoeiaa
open Go Go.Am Go.Proofs
set_option maxRecDepth 100000
def I30 (a b : List Txt) (k : Nat) (st : St) : Prop := st.h = [] ∧ st.s.length = 26 ∧ getS st.s 0 = .imm (a.map srow) ∧ getS st.s 1 = .imm (b.map srow) ∧ getS st.s 12 = num a.length ∧ getS st.s 13 = num k ∧ decide (a = b) = decide (a.drop k = b.drop k)
def Q30 (a b : List Txt) (r : R) : Prop := r.st.s.length = 26 ∧ r.st.h = [] ∧ ((r.x = .exit 0 ∧ decide (a = b) = true) ∨ (r.x = .ret ∧ getS r.st.s 4 = .bool false ∧ decide (a = b) = false))
theorem loop30 (a b : List Txt) (hab : b.length = a.length) (ha : a.length ≤ 4096) (st : St) (h0 : I30 a b 0 st) : ∃ r, ev pg (.code (.going 0 L30_0) st) = some r ∧ Q30 a b r := by
  refine loop_from (I30 a b) a.length (Q30 a b) h0 ?_ ?_
  · rintro k ⟨s, hh⟩ hk ⟨rfl, hl, e0, e1, e12, e13, he⟩
    simp only at hl e0 e1 e12 e13
    have hk' : (k : Int) < a.length := by omega
    have hkb : k < b.length := by omega
    have wk := wrap_id (n := (k : Int) + 1) (by omega) (by omega)
    rw [List.drop_eq_getElem_cons hk, List.drop_eq_getElem_cons hkb] at he
    rw [getS_expand hl]
    by_cases hb : a[k] = b[k]
    · have he' : decide (a = b) = decide (a.drop (k + 1) = b.drop (k + 1)) := by rw [he]; simp only [List.cons.injEq, hb, true_and]
      simp [L30_0, I30, List.range, List.range.loop, e0, e1, e12, e13, hk, hk', hkb, hb, wk]
      simpa using he'
    · have he' : decide (a = b) = false := by rw [he]; simp only [List.cons.injEq, hb, false_and, decide_false]
      simp [L30_0, Q30, List.range, List.range.loop, e0, e1, e12, e13, hk, hk', hkb, hb]
      simpa using he'
  · rintro ⟨s, hh⟩ ⟨rfl, hl, e0, e1, e12, e13, he⟩
    simp only [List.drop_length] at hl e0 e1 e12 e13 he
    rw [show List.drop a.length b = [] by rw [← hab]; exact List.drop_length] at he
    have he' : decide (a = b) = true := by rw [he]; rfl
    rw [getS_expand hl]
    simp [L30_0, Q30, List.range, List.range.loop, e0, e1, e12, e13]
    simpa using he'
theorem ev30 (a b : List Txt) (ha : a.length ≤ 4096) : ev pg (.call (.fn 30 [] []) [.imm (a.map srow), .imm (b.map srow)] []) = some { v := .bool (decide (a = b)), st := ⟨[], []⟩ } := by
  by_cases hab : b.length = a.length
  · have hloop := loop30 a b hab ha
    have hab' : (b.length : Int) = a.length := by omega
    unfold Q30 at hloop
    have hI : ∀ st : St, I30 a b 0 st ↔ (st.h = [] ∧ st.s.length = 26 ∧ getS st.s 0 = .imm (a.map srow) ∧ getS st.s 1 = .imm (b.map srow) ∧ getS st.s 12 = num a.length ∧ getS st.s 13 = num 0) := fun st => by
      unfold I30
      exact ⟨fun h => ⟨h.1, h.2.1, h.2.2.1, h.2.2.2.1, h.2.2.2.2.1, h.2.2.2.2.2.1⟩, fun h => ⟨h.1, h.2.1, h.2.2.1, h.2.2.2.1, h.2.2.2.2.1, h.2.2.2.2.2, rfl⟩⟩
    generalize decide (a = b) = B at *
    rw [ev_call, pg30]
    simp [ir30, ev_loop, hab']
    generalize hr : ev pg (.code (.going _ L30_0) _) = o
    obtain ⟨r, rfl, hl, hh, hQ⟩ : ∃ r, o = some r ∧ _ := by
      rw [← hr]
      exact hloop _ ((hI _).2 ⟨by simp, by simp, by simp, by simp, by simp, by simp⟩)
    rcases hQ with ⟨hx, rfl⟩ | ⟨hx, h4, rfl⟩
    · simp [hx, hh, hl]
    · simp [hx, h4]
  · have hd : decide (a = b) = false := by
      rw [decide_eq_false_iff_not]
      intro e
      exact hab (by rw [e])
    have hne : ((a.length : Int) != (b.length : Int)) = true := by
      rw [bne_iff_ne]; omega
    rw [hd, ev_call, pg30]
    simp [ir30, hne]
def I38 (a b : List Int) (k : Nat) (st : St) : Prop := st.h = [] ∧ st.s.length = 26 ∧ getS st.s 0 = .imm (a.map nrow) ∧ getS st.s 1 = .imm (b.map nrow) ∧ getS st.s 12 = num a.length ∧ getS st.s 13 = num k ∧ decide (a = b) = decide (a.drop k = b.drop k)
def Q38 (a b : List Int) (r : R) : Prop := r.st.s.length = 26 ∧ r.st.h = [] ∧ ((r.x = .exit 0 ∧ decide (a = b) = true) ∨ (r.x = .ret ∧ getS r.st.s 4 = .bool false ∧ decide (a = b) = false))
theorem loop38 (a b : List Int) (hab : b.length = a.length) (ha : a.length ≤ 4096) (st : St) (h0 : I38 a b 0 st) : ∃ r, ev pg (.code (.going 0 L38_0) st) = some r ∧ Q38 a b r := by
  refine loop_from (I38 a b) a.length (Q38 a b) h0 ?_ ?_
  · rintro k ⟨s, hh⟩ hk ⟨rfl, hl, e0, e1, e12, e13, he⟩
    simp only at hl e0 e1 e12 e13
    have hk' : (k : Int) < a.length := by omega
    have hkb : k < b.length := by omega
    have wk := wrap_id (n := (k : Int) + 1) (by omega) (by omega)
    rw [List.drop_eq_getElem_cons hk, List.drop_eq_getElem_cons hkb] at he
    rw [getS_expand hl]
    by_cases hb : a[k] = b[k]
    · have he' : decide (a = b) = decide (a.drop (k + 1) = b.drop (k + 1)) := by rw [he]; simp only [List.cons.injEq, hb, true_and]
      simp [L38_0, I38, List.range, List.range.loop, e0, e1, e12, e13, hk, hk', hkb, hb, wk]
      simpa using he'
    · have he' : decide (a = b) = false := by rw [he]; simp only [List.cons.injEq, hb, false_and, decide_false]
      simp [L38_0, Q38, List.range, List.range.loop, e0, e1, e12, e13, hk, hk', hkb, hb]
      simpa using he'
  · rintro ⟨s, hh⟩ ⟨rfl, hl, e0, e1, e12, e13, he⟩
    simp only [List.drop_length] at hl e0 e1 e12 e13 he
    rw [show List.drop a.length b = [] by rw [← hab]; exact List.drop_length] at he
    have he' : decide (a = b) = true := by rw [he]; rfl
    rw [getS_expand hl]
    simp [L38_0, Q38, List.range, List.range.loop, e0, e1, e12, e13]
    simpa using he'
theorem ev38 (a b : List Int) (ha : a.length ≤ 4096) : ev pg (.call (.fn 38 [] []) [.imm (a.map nrow), .imm (b.map nrow)] []) = some { v := .bool (decide (a = b)), st := ⟨[], []⟩ } := by
  by_cases hab : b.length = a.length
  · have hloop := loop38 a b hab ha
    have hab' : (b.length : Int) = a.length := by omega
    unfold Q38 at hloop
    have hI : ∀ st : St, I38 a b 0 st ↔ (st.h = [] ∧ st.s.length = 26 ∧ getS st.s 0 = .imm (a.map nrow) ∧ getS st.s 1 = .imm (b.map nrow) ∧ getS st.s 12 = num a.length ∧ getS st.s 13 = num 0) := fun st => by
      unfold I38
      exact ⟨fun h => ⟨h.1, h.2.1, h.2.2.1, h.2.2.2.1, h.2.2.2.2.1, h.2.2.2.2.2.1⟩, fun h => ⟨h.1, h.2.1, h.2.2.1, h.2.2.2.1, h.2.2.2.2.1, h.2.2.2.2.2, rfl⟩⟩
    generalize decide (a = b) = B at *
    rw [ev_call, pg38]
    simp [ir38, ev_loop, hab']
    generalize hr : ev pg (.code (.going _ L38_0) _) = o
    obtain ⟨r, rfl, hl, hh, hQ⟩ : ∃ r, o = some r ∧ _ := by
      rw [← hr]
      exact hloop _ ((hI _).2 ⟨by simp, by simp, by simp, by simp, by simp, by simp⟩)
    rcases hQ with ⟨hx, rfl⟩ | ⟨hx, h4, rfl⟩
    · simp [hx, hh, hl]
    · simp [hx, h4]
  · have hd : decide (a = b) = false := by
      rw [decide_eq_false_iff_not]
      intro e
      exact hab (by rw [e])
    have hne : ((a.length : Int) != (b.length : Int)) = true := by
      rw [bne_iff_ne]; omega
    rw [hd, ev_call, pg38]
    simp [ir38, hne]
end Go.Proofs.Ytopjiafdimoeiaa
