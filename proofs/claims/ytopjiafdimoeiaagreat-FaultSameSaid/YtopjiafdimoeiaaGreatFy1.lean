/- The faulty control. -/
import Derived.Test.YtopjiafdimoeiaaGreatTe2
namespace Go.Proofs.YtopjiafdimoeiaaGreat
open Go Go.Am Go.Proofs
set_option maxRecDepth 100000
/-! ### names that are not there yet -/
theorem pigeon {α : Type} [DecidableEq α] (f : Nat → α) (hf : ∀ i j, f i = f j → i = j) : ∀ (n : Nat) (K : List α), (∀ j, j < n → f j ∈ K) → n ≤ K.length
  | 0, _, _ => Nat.zero_le _
  | n + 1, K, h => by
    have h1 := h n (by omega)
    have h2 := List.length_erase_of_mem h1
    have h3 := List.length_pos_of_mem h1
    have ih := pigeon f hf n (K.erase (f n)) fun j hj => (List.mem_erase_of_ne (fun e => by have := hf _ _ e; omega)).2 (h j (by omega))
    omega
abbrev withU (s : Txt) (j : Nat) : Txt := s ++ List.replicate j 95
theorem withU_inj (s : Txt) (i j : Nat) (h : withU s i = withU s j) : i = j := by
  have := congrArg List.length h
  simp at this
  exact this
def freeFrom (K : List Txt) (s : Txt) (n : Nat) : Nat → Nat
  | 0 => n
  | m + 1 => if withU s n ∈ K then freeFrom K s (n + 1) m else n
def freeN (K : List Txt) (s : Txt) : Nat := freeFrom K s 0 (K.length + 1)
theorem freeFrom_lt (K : List Txt) (s : Txt) : ∀ (m n : Nat), (∀ j, j < n → withU s j ∈ K) → ∀ j, j < freeFrom K s n m → withU s j ∈ K
  | 0, n, h => h
  | m + 1, n, h => by
    unfold freeFrom
    split
    · rename_i hn
      refine freeFrom_lt K s m (n + 1) fun j hj => ?_
      by_cases e : j = n
      · rw [e]; exact hn
      · exact h j (by omega)
    · exact h
theorem freeFrom_not (K : List Txt) (s : Txt) : ∀ (m n : Nat), freeFrom K s n m < n + m → ¬ withU s (freeFrom K s n m) ∈ K
  | 0, n, h => absurd h (by unfold freeFrom; omega)
  | m + 1, n, h => by
    unfold freeFrom at h ⊢
    split
    · rename_i hn
      rw [if_pos hn] at h
      exact freeFrom_not K s m (n + 1) (by omega)
    · rename_i hn
      exact hn
theorem free_lt (K : List Txt) (s : Txt) : ∀ j, j < freeN K s → withU s j ∈ K := freeFrom_lt K s _ 0 fun j hj => by omega
theorem free_le (K : List Txt) (s : Txt) : freeN K s ≤ K.length := pigeon (withU s) (withU_inj s) _ K (free_lt K s)
theorem free_not (K : List Txt) (s : Txt) : ¬ withU s (freeN K s) ∈ K := freeFrom_not K s _ 0 (by have := free_le K s; unfold freeN at this; omega)
def freshT (K : List Txt) (s : Txt) : Txt := withU s (freeN K s)
theorem freshT_len (K : List Txt) (s : Txt) : (freshT K s).length ≤ s.length + K.length := by
  have := free_le K s
  unfold freshT
  simp
  omega
/-! ### the faulty control -/
def lineI (k i : Int) : Int := if k = 2 ∨ k = 3 then i else -1
abbrev replS (n v : Int) (x : Sg) : Sg := ⟨x.name, x.kind, x.on.repl n v, x.off.repl n v, x.delay, x.init⟩
def putTo (f : Nat → Bool) (next : Int) : Nat → List Int → List Int
  | 0, l => l
  | j + 1, l => if f j = true then (putTo f next j l).set j next else putTo f next j l
theorem putTo_len (f : Nat → Bool) (next : Int) (l : List Int) : ∀ j, (putTo f next j l).length = l.length
  | 0 => rfl
  | j + 1 => by
    have ih := putTo_len f next l j
    unfold putTo
    split
    · rw [List.length_set, ih]
    · exact ih
def needTo (p : Nat → Bool) : Nat → Bool
  | 0 => false
  | j + 1 => needTo p j || p j
abbrev stuckT (v : Int) : Txt := [115, 116, 117, 99, 107, if v = 0 then 48 else 49]
abbrev gateOf (name : Txt) (v : Int) : Sg := ⟨name, 0, .mk 0 v [], .mk 0 0 [], 0, false⟩
structure Fs where
  d : Ct
  K : List Txt
  w : List Bool
abbrev selP (c : Ct) (k i v : Int) (j : Nat) : Bool := (pil c k i j).1 == v
abbrev selM (c : Ct) (k i v : Int) (j : Nat) : Bool := (pil c k i j).2 == v
def needV (c : Ct) (k i v : Int) (A : Nat) : Bool := needTo (fun j => selP c k i v j || selM c k i v j) A
def stepV (c : Ct) (k i : Int) (A : Nat) (v : Int) (s : Fs) : Fs :=
  ⟨⟨s.d.act, s.d.inputs, if needV c k i v A = true then s.d.signals ++ [gateOf (freshT s.K (stuckT v)) v] else s.d.signals, putTo (selP c k i v) (countN s.d A) A s.d.plus, putTo (selM c k i v) (countN s.d A) A s.d.minus⟩,
    if needV c k i v A = true then s.K ++ [freshT s.K (stuckT v)] else s.K, if needV c k i v A = true then s.w ++ [v == 1] else s.w⟩
def startF (c : Ct) (k i : Int) (A : Nat) : Fs := ⟨⟨c.act, c.inputs, c.signals.map (replS (lineI k i) (lineV k)), c.plus, c.minus⟩, namesTo c A (countN c A), []⟩
def faultyF (c : Ct) (k i : Int) : Fs := stepV c k i c.act.toNat 1 (stepV c k i c.act.toNat 0 (startF c k i c.act.toNat))
/-! ### it is small -/
mutual
theorem repl_nodes (n v : Int) : ∀ x : Ex, (x.repl n v).nodes ≤ x.nodes
  | .mk o i l => by
    rw [Ex.repl]
    split
    · rw [Ex.nodes, Ex.nodes, nodesL]; omega
    · rw [Ex.nodes, Ex.nodes]
      have := replL_nodes n v l
      omega
theorem replL_nodes (n v : Int) : ∀ l : List Ex, nodesL (replL n v l) ≤ nodesL l
  | [] => Nat.le_refl _
  | x :: l => by
    rw [replL, nodesL, nodesL]
    have h1 := repl_nodes n v x
    have h2 := replL_nodes n v l
    omega
end
mutual
theorem repl_depth (n v : Int) : ∀ x : Ex, (x.repl n v).depth ≤ x.depth
  | .mk o i l => by
    rw [Ex.repl]
    split
    · rw [Ex.depth, Ex.depth, depthL]; omega
    · rw [Ex.depth, Ex.depth]
      have := replL_depth n v l
      omega
theorem replL_depth (n v : Int) : ∀ l : List Ex, depthL (replL n v l) ≤ depthL l
  | [] => Nat.le_refl _
  | x :: l => by
    rw [replL, depthL, depthL]
    have h1 := repl_depth n v x
    have h2 := replL_depth n v l
    omega
end
theorem repl_light {n v : Int} {x : Ex} (h : x.light = true) : (x.repl n v).light = true := by
  obtain ⟨h1, h2⟩ := light_nodes h
  have h3 := repl_nodes n v x
  have h4 := repl_depth n v x
  simp only [Ex.light, Bool.and_eq_true, decide_eq_true_eq]
  omega
theorem small_of {c : Ct} (h1 : c.inputs.length ≤ 32) (h2 : c.signals.length ≤ 128) (h3 : c.plus.length ≤ 40) (h4 : c.minus.length ≤ 40) (h5 : ∀ s ∈ c.inputs, s.length ≤ 200) (h6 : ∀ x ∈ c.signals, x.name.length ≤ 200 ∧ x.on.light = true ∧ x.off.light = true) : c.small = true := by
  simp only [Ct.small, Bool.and_eq_true, decide_eq_true_eq, List.all_eq_true, fewI, fewS]
  exact ⟨⟨⟨⟨⟨h1, h2⟩, h3⟩, h4⟩, h5⟩, fun x hx => ⟨⟨(h6 x hx).1, (h6 x hx).2.1⟩, (h6 x hx).2.2⟩⟩
theorem light0 (v : Int) : (Ex.mk 0 v []).light = true := by
  simp [Ex.light, Ex.nodes, Ex.depth, nodesL, depthL]
theorem start_small {c : Ct} (hfew : c.small = true) (k i : Int) (A : Nat) : (startF c k i A).d.small = true := by
  obtain ⟨h1, h2, h3, h4, h5, h6⟩ := few_parts hfew
  refine small_of h1 ?_ h3 h4 h5 ?_
  · unfold startF
    rw [List.length_map]
    exact h2
  · intro x hx
    unfold startF at hx
    obtain ⟨y, hy, rfl⟩ := List.mem_map.1 hx
    obtain ⟨g1, g2, g3⟩ := h6 y hy
    exact ⟨g1, repl_light g2, repl_light g3⟩
theorem step_small {c : Ct} {k i : Int} {A : Nat} {v : Int} {s : Fs} (h : s.d.small = true) (hs : s.d.signals.length < 128) (hK : s.K.length ≤ 190) : (stepV c k i A v s).d.small = true := by
  obtain ⟨h1, h2, h3, h4, h5, h6⟩ := few_parts h
  refine small_of h1 ?_ ?_ ?_ h5 ?_
  · unfold stepV
    simp only
    split
    · simp; omega
    · exact h2
  · unfold stepV
    simp only [putTo_len]
    exact h3
  · unfold stepV
    simp only [putTo_len]
    exact h4
  · intro x hx
    unfold stepV at hx
    simp only at hx
    split at hx
    · rcases List.mem_append.1 hx with hx | hx
      · exact h6 x hx
      · obtain rfl := List.mem_singleton.1 hx
        have := freshT_len s.K (stuckT v)
        have e : (stuckT v).length = 6 := rfl
        have e2 : (freshT s.K (stuckT v)).length ≤ 200 := by omega
        exact ⟨e2, light0 v, light0 0⟩
    · exact h6 x hx
theorem step_lens (c : Ct) (k i : Int) (A : Nat) (v : Int) (s : Fs) : s.d.signals.length ≤ (stepV c k i A v s).d.signals.length ∧ (stepV c k i A v s).d.signals.length ≤ s.d.signals.length + 1 ∧ (stepV c k i A v s).K.length ≤ s.K.length + 1 := by
  unfold stepV
  simp only
  split <;> simp
theorem start_lens (c : Ct) (k i : Int) (A : Nat) : (startF c k i A).d.signals.length = c.signals.length ∧ (startF c k i A).K.length = countN c A := by
  unfold startF namesTo
  simp
theorem faulty_small {c : Ct} (hfew : c.small = true) (hc : c.check = 0) (k i : Int) : (faultyF c k i).d.small = true := by
  have hM := mid_check hc hfew
  have hA6 := hM.hi
  have h64 : c.inputs.length ≤ 16 ∧ c.signals.length ≤ 64 := by
    unfold Ct.check at hc
    split at hc
    · cases hc
    · split at hc
      · cases hc
      · omega
  obtain ⟨a1, a2⟩ := start_lens c k i c.act.toNat
  obtain ⟨b1, b2, b3⟩ := step_lens c k i c.act.toNat 0 (startF c k i c.act.toNat)
  have e : countN c c.act.toNat ≤ 100 := by unfold countN; omega
  exact step_small (step_small (start_small hfew k i _) (by omega) (by omega)) (by omega) (by omega)
theorem step_at {c : Ct} {k i : Int} {A : Nat} {v : Int} {s : Fs} {j : Nat} (hj : j < s.d.signals.length) : (stepV c k i A v s).d.signals[j]? = s.d.signals[j]? := by
  unfold stepV
  simp only
  split
  · exact List.getElem?_append_left hj
  · rfl
theorem faulty_at (c : Ct) (k i : Int) (j : Nat) (hj : j < c.signals.length) : (faultyF c k i).d.signals[j]? = some (replS (lineI k i) (lineV k) c.signals[j]) := by
  obtain ⟨a1, _⟩ := start_lens c k i c.act.toNat
  obtain ⟨b1, b2, _⟩ := step_lens c k i c.act.toNat 0 (startF c k i c.act.toNat)
  unfold faultyF
  rw [step_at (by omega), step_at (by omega)]
  unfold startF
  simp only
  rw [List.getElem?_map, List.getElem?_eq_getElem hj]
  rfl
end Go.Proofs.YtopjiafdimoeiaaGreat
