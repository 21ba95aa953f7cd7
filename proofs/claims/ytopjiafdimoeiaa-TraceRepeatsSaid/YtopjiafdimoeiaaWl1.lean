/- What is left of a step behind some strokes; places behind whole steps, in plain words. -/
import Derived.Test.YtopjiafdimoeiaaWk4
namespace Go.Proofs.Ytopjiafdimoeiaa
open Go Go.Am Go.Proofs
set_option maxRecDepth 100000
theorem ordErr_pw : ∀ {w : List Sk} {last : Int}, ordErr last w = 0 → (∀ y ∈ w, last < y.act) ∧ w.Pairwise (fun a b => a.act < b.act)
  | [], _, _ => ⟨fun _ h => (nomatch h), List.Pairwise.nil⟩
  | z :: r, last, h => by
    simp only [ordErr] at h
    split at h
    · split at h
      · cases h
      · split at h
        · cases h
        · rename_i h1 h2
          obtain ⟨a, b⟩ := ordErr_pw h
          refine ⟨fun y hy => ?_, List.Pairwise.cons a b⟩
          rcases List.mem_cons.1 hy with rfl | hy
          · omega
          · have := a y hy; omega
    · cases h
theorem pw_nodup {w : List Sk} (h : w.Pairwise (fun a b => a.act < b.act)) : w.Nodup := h.imp fun hh e => by subst e; omega
/-! ### strokes taken out -/
theorem mem_minus {l : List Sk} {y x : Sk} : x ∈ minus l y ↔ x ∈ l ∧ x ≠ y := by simp [minus]
theorem minus_eq {l : List Sk} {y : Sk} (h : ¬ y ∈ l) : minus l y = l := by
  unfold minus
  refine List.filter_eq_self.2 fun x hx => ?_
  have : x ≠ y := fun e => h (e ▸ hx)
  simp [this]
theorem minus_cons {x y : Sk} {l : List Sk} : minus (x :: l) y = if x = y then minus l y else x :: minus l y := by
  unfold minus
  by_cases h : x = y <;> simp [h]
theorem minus_length : ∀ {l : List Sk} {y : Sk}, l.Nodup → y ∈ l → (minus l y).length + 1 = l.length
  | [], _, _, h => nomatch h
  | x :: l, y, hn, h => by
    obtain ⟨h1, h2⟩ := List.nodup_cons.1 hn
    rw [minus_cons]
    by_cases e : x = y
    · subst e
      rw [if_pos rfl, minus_eq h1]; rfl
    · rw [if_neg e]
      have := minus_length h2 ((List.mem_cons.1 h).resolve_left fun e' => e e'.symm)
      simp only [List.length_cons]
      omega
theorem minus_nodup {l : List Sk} {y : Sk} (h : l.Nodup) : (minus l y).Nodup := List.Pairwise.filter _ h
theorem minus_lt {l : List Sk} {y : Sk} (hn : l.Nodup) (h : y ∈ l) : (minus l y).length ≠ l.length := by
  have := minus_length hn h
  omega
theorem eraseIdx_minus : ∀ {l : List Sk} {k : Nat} {y : Sk}, l.Nodup → l[k]? = some y → l.eraseIdx k = minus l y
  | [], _, _, _, h => by simp at h
  | x :: l, 0, y, hn, h => by
    obtain ⟨h1, h2⟩ := List.nodup_cons.1 hn
    simp only [List.getElem?_cons_zero, Option.some.injEq] at h
    subst h
    rw [minus_cons, if_pos rfl, minus_eq h1]; rfl
  | x :: l, k + 1, y, hn, h => by
    obtain ⟨h1, h2⟩ := List.nodup_cons.1 hn
    simp only [List.getElem?_cons_succ] at h
    have hy := List.mem_of_getElem? h
    have e : x ≠ y := fun e => h1 (e ▸ hy)
    rw [minus_cons, if_neg e, List.eraseIdx_cons_succ, eraseIdx_minus h2 h]
/-- What is left of a step behind some of its strokes. -/
def eats : List Sk → List Sk → Option (List Sk)
  | l, [] => some l
  | l, y :: r => if y ∈ l then eats (minus l y) r else none
theorem eats_snoc : ∀ {d l left : List Sk} {y : Sk}, eats l d = some left → y ∈ left → eats l (d ++ [y]) = some (minus left y)
  | [], l, left, y, h, hy => by
    simp only [eats, Option.some.injEq] at h
    subst h
    simp [eats, hy]
  | x :: d, l, left, y, h, hy => by
    simp only [eats] at h
    split at h
    · rename_i hx
      show (if x ∈ l then eats (minus l x) (d ++ [y]) else none) = _
      rw [if_pos hx]
      exact eats_snoc h hy
    · cases h
theorem eats_nodup : ∀ {d l left : List Sk}, eats l d = some left → l.Nodup → left.Nodup ∧ d.length + left.length = l.length
  | [], l, left, h, hn => by
    simp only [eats, Option.some.injEq] at h
    subst h
    exact ⟨hn, by simp⟩
  | x :: d, l, left, h, hn => by
    simp only [eats] at h
    split at h
    · rename_i hx
      obtain ⟨h1, h2⟩ := eats_nodup h (minus_nodup hn)
      have := minus_length hn hx
      refine ⟨h1, ?_⟩
      simp only [List.length_cons]
      omega
    · cases h
theorem eats_nil : ∀ {d left : List Sk}, eats [] d = some left → d = [] ∧ left = []
  | [], left, h => by
    simp only [eats, Option.some.injEq] at h
    exact ⟨rfl, h.symm⟩
  | x :: d, left, h => by
    simp only [eats] at h
    split at h
    · rename_i hx; cases hx
    · cases h
theorem stepP_in {s : Sq} {c i : Nat} {l : List Sk} {y : Sk} (hn : l.Nodup) (hy : y ∈ l) : stepP s (c, i, l) y = if minus l y = [] then some (nextP s c i) else some (c, i, minus l y) := by
  simp only [stepP]
  rw [if_neg (minus_lt hn hy)]
theorem stepP_out {s : Sq} {c i : Nat} {l : List Sk} {y : Sk} (hy : ¬ y ∈ l) : stepP s (c, i, l) y = none := by
  simp only [stepP]
  rw [if_pos (by rw [minus_eq hy])]
theorem walk_part {s : Sq} {c i : Nat} : ∀ {d l left : List Sk}, l.Nodup → eats l d = some left → left ≠ [] → walkP s (c, i, l) d = some (c, i, left)
  | [], l, left, _, h, _ => by
    simp only [eats, Option.some.injEq] at h
    subst h
    rfl
  | y :: d, l, left, hn, h, h0 => by
    simp only [eats] at h
    split at h
    · rename_i hy
      have hne : minus l y ≠ [] := fun e => by
        rw [e] at h
        exact h0 (eats_nil h).2
      simp only [walkP]
      rw [stepP_in hn hy, if_neg hne]
      exact walk_part (minus_nodup hn) h h0
    · cases h
theorem walk_full {s : Sq} {c i : Nat} : ∀ {d l : List Sk}, l.Nodup → eats l d = some [] → l ≠ [] → walkP s (c, i, l) d = some (nextP s c i)
  | [], l, _, h, h0 => by
    simp only [eats, Option.some.injEq] at h
    exact absurd h h0
  | y :: d, l, hn, h, _ => by
    simp only [eats] at h
    split at h
    · rename_i hy
      simp only [walkP]
      rw [stepP_in hn hy]
      by_cases he : minus l y = []
      · rw [he] at h
        obtain ⟨rfl, _⟩ := eats_nil h
        rw [if_pos he]
        rfl
      · rw [if_neg he]
        exact walk_full (minus_nodup hn) h he
    · cases h
theorem walkP_append {s : Sq} : ∀ (a b : List Sk) (p : Place), walkP s p (a ++ b) = (walkP s p a).bind fun q => walkP s q b
  | [], _, _ => rfl
  | y :: a, b, p => by
    simp only [List.cons_append, walkP]
    cases stepP s p y with
    | none => rfl
    | some q => exact walkP_append a b q
/-! ### right sequences -/
structure okSq (s : Sq) : Prop where
  st : okSteps s
  er : ∀ t ∈ s.steps, 0 < t.sk.length ∧ stepErr t = 0
theorem okSq_of {s : Sq} (h : refErr s = 0) : okSq s := ⟨(refErr_ok h).1, (refErr_ok h).2⟩
theorem okSq.pw {s : Sq} (h : okSq s) {t : Stp} (ht : t ∈ s.steps) : t.sk.Pairwise (fun a b => a.act < b.act) := (ordErr_pw (stepErr_ok (h.er t ht).2).2.2.1).2
theorem okSq.nodup {s : Sq} (h : okSq s) {i : Nat} (hi : i < s.steps.length) : (skOf s i).Nodup := by
  rw [(skOf_at hi).2]; exact pw_nodup (h.pw (List.getElem_mem hi))
theorem okSq.ne {s : Sq} (h : okSq s) {i : Nat} (hi : i < s.steps.length) : skOf s i ≠ [] := by
  rw [(skOf_at hi).2]
  have := (h.er _ (List.getElem_mem hi)).1
  exact fun e => by rw [e] at this; simp at this
theorem okSq.mod {s : Sq} (h : okSq s) (m : Nat) : m % s.steps.length < s.steps.length := Nat.mod_lt _ h.st.1
/-! ### whole steps -/
def place (s : Sq) (m : Nat) : Place := (m / s.steps.length, m % s.steps.length, skOf s (m % s.steps.length))
theorem next_div (n m : Nat) (hn : 0 < n) : (m % n + 1 = n → (m + 1) / n = m / n + 1 ∧ (m + 1) % n = 0) ∧ (m % n + 1 ≠ n → (m + 1) / n = m / n ∧ (m + 1) % n = m % n + 1) := by
  have h1 := Nat.div_add_mod m n
  have h2 := Nat.mod_lt m hn
  constructor
  · intro h
    have e : m + 1 = n * (m / n + 1) := by rw [Nat.mul_add]; omega
    rw [e]
    exact ⟨Nat.mul_div_cancel_left _ hn, Nat.mul_mod_right _ _⟩
  · intro h
    have e : m + 1 = n * (m / n) + (m % n + 1) := by omega
    have q1 : (m % n + 1) / n = 0 := Nat.div_eq_of_lt (by omega)
    have q2 : (m % n + 1) % n = m % n + 1 := Nat.mod_eq_of_lt (by omega)
    rw [e, Nat.mul_add_div hn, Nat.mul_add_mod, q1, q2]
    exact ⟨rfl, rfl⟩
theorem next_place {s : Sq} (hs : okSq s) (m : Nat) : nextP s (m / s.steps.length) (m % s.steps.length) = place s (m + 1) := by
  obtain ⟨a, b⟩ := next_div s.steps.length m hs.st.1
  unfold nextP place
  by_cases h : m % s.steps.length + 1 = s.steps.length
  · rw [if_pos h, (a h).1, (a h).2]
  · rw [if_neg h, (b h).1, (b h).2]
def isFull (s : Sq) : Nat → List (List Sk) → Prop
  | _, [] => True
  | m, d :: r => eats (skOf s (m % s.steps.length)) d = some [] ∧ isFull s (m + 1) r
theorem isFull_snoc {s : Sq} {d : List Sk} : ∀ {full : List (List Sk)} {m : Nat}, isFull s m full → eats (skOf s ((m + full.length) % s.steps.length)) d = some [] → isFull s m (full ++ [d])
  | [], m, _, h => ⟨h, trivial⟩
  | x :: full, m, h, hd => ⟨h.1, isFull_snoc h.2 (by rw [List.length_cons] at hd; rw [show m + 1 + full.length = m + (full.length + 1) by omega]; exact hd)⟩
theorem walk_flat {s : Sq} (hs : okSq s) : ∀ (full : List (List Sk)) (m : Nat), isFull s m full → walkP s (place s m) full.flatten = some (place s (m + full.length))
  | [], m, _ => rfl
  | d :: full, m, h => by
    have hm := hs.mod m
    rw [List.flatten_cons, walkP_append]
    unfold place at *
    rw [walk_full (hs.nodup hm) h.1 (hs.ne hm), next_place hs m]
    have := walk_flat hs full (m + 1) h.2
    rw [show m + (d :: full).length = m + 1 + full.length by simp only [List.length_cons]; omega]
    exact this
theorem full_len {s : Sq} (hs : okSq s) : ∀ (full : List (List Sk)) (m : Nat), isFull s m full → full.length ≤ full.flatten.length
  | [], m, _ => by simp
  | d :: full, m, h => by
    have hm := hs.mod m
    have h1 := (eats_nodup h.1 (hs.nodup hm)).2
    have h2 := hs.ne hm
    have h3 := full_len hs full (m + 1) h.2
    have h4 : (skOf s (m % s.steps.length)).length ≠ 0 := fun e => h2 (List.length_eq_zero_iff.1 e)
    simp only [List.length_cons, List.flatten_cons, List.length_append, List.length_nil] at h1 ⊢
    omega
/-- What the program's walk finds. -/
structure isWalk (s : Sq) (w : List Sk) (k : Nat) (full : List (List Sk)) (done left : List Sk) : Prop where
  le : k ≤ w.length
  flat : full.flatten ++ done = w.take k
  whole : isFull s 0 full
  part : eats (skOf s (full.length % s.steps.length)) done = some left
  rest : left ≠ []
  stop : ∀ y, w[k]? = some y → ¬ y ∈ left
theorem place0 (s : Sq) : place s 0 = (0, 0, skOf s 0) := by simp [place]
theorem walkN_le {s : Sq} {w : List Sk} {j k : Nat} (hjk : j ≤ k) (h : (walkN s w k).isSome = true) : (walkN s w j).isSome = true := by
  unfold walkN at h ⊢
  have e : w.take k = w.take j ++ (w.take k).drop j := by
    have h1 := List.take_append_drop j (w.take k)
    rw [List.take_take, Nat.min_eq_left hjk] at h1
    exact h1.symm
  rw [e, walkP_append] at h
  cases hj : walkP s (0, 0, skOf s 0) (w.take j) with
  | none => rw [hj] at h; exact h
  | some q => rfl
theorem isWalk.here {s : Sq} (hs : okSq s) {w : List Sk} {k : Nat} {full : List (List Sk)} {done left : List Sk} (h : isWalk s w k full done left) : walkN s w k = some (full.length / s.steps.length, full.length % s.steps.length, left) := by
  have h1 := walk_flat hs full 0 h.whole
  rw [Nat.zero_add, place0] at h1
  unfold walkN
  rw [← h.flat, walkP_append, h1]
  exact walk_part (hs.nodup (hs.mod _)) h.part h.rest
theorem isWalk.next {s : Sq} (hs : okSq s) {w : List Sk} {k : Nat} {full : List (List Sk)} {done left : List Sk} (h : isWalk s w k full done left) (hk : k < w.length) : walkN s w (k + 1) = none := by
  have h1 := h.here hs
  have h2 := h.stop w[k] (List.getElem?_eq_getElem hk)
  unfold walkN at h1 ⊢
  rw [List.take_succ_eq_append_getElem hk, walkP_append, h1]
  simp only [Option.bind_some, walkP]
  rw [stepP_out h2]
theorem isWalk.len {s : Sq} (hs : okSq s) {w : List Sk} {k : Nat} {full : List (List Sk)} {done left : List Sk} (h : isWalk s w k full done left) : isLen s w k :=
  ⟨h.le, fun j hj => walkN_le hj (by rw [h.here hs]; rfl), fun hk => h.next hs hk⟩
theorem isLen_one {s : Sq} {w : List Sk} {j k : Nat} (hj : isLen s w j) (hk : isLen s w k) : j = k := by
  rcases Nat.lt_trichotomy j k with h | h | h
  · have h1 := hj.2.2 (by have := hk.1; omega)
    have h2 := hk.2.1 (j + 1) h
    rw [h1] at h2; cases h2
  · exact h
  · have h1 := hk.2.2 (by have := hj.1; omega)
    have h2 := hj.2.1 (k + 1) h
    rw [h1] at h2; cases h2
theorem isWalk.all {s : Sq} (hs : okSq s) {w : List Sk} {k : Nat} {full : List (List Sk)} {done left : List Sk} (h : isWalk s w k full done left) : walkN s w w.length = if k = w.length then some (full.length / s.steps.length, full.length % s.steps.length, left) else none := by
  by_cases hk : k = w.length
  · rw [if_pos hk, ← hk]; exact h.here hs
  · rw [if_neg hk]
    have h1 := h.next hs (by have := h.le; omega)
    cases hw : walkN s w w.length with
    | none => rfl
    | some p =>
      have := walkN_le (s := s) (w := w) (j := k + 1) (k := w.length) (by have := h.le; omega) (by rw [hw]; rfl)
      rw [h1] at this; cases this
/-! ### how many strokes -/
def upTo (s : Sq) (i : Nat) : Nat := (firstW (s.steps.take i)).length
theorem upTo_succ {s : Sq} {i : Nat} (hi : i < s.steps.length) : upTo s (i + 1) = upTo s i + (skOf s i).length := by
  unfold upTo
  rw [firstW_take hi, List.length_append, (skOf_at hi).2]
theorem upTo_all (s : Sq) : upTo s s.steps.length = (firstW s.steps).length := by unfold upTo; rw [List.take_length]
def upToM (s : Sq) (m : Nat) : Nat := m / s.steps.length * (firstW s.steps).length + upTo s (m % s.steps.length)
theorem upToM_succ {s : Sq} (hs : okSq s) (m : Nat) : upToM s (m + 1) = upToM s m + (skOf s (m % s.steps.length)).length := by
  obtain ⟨a, b⟩ := next_div s.steps.length m hs.st.1
  have h1 := upTo_succ (hs.mod m)
  unfold upToM
  by_cases h : m % s.steps.length + 1 = s.steps.length
  · rw [(a h).1, (a h).2]
    rw [h, upTo_all] at h1
    have h0 : upTo s 0 = 0 := rfl
    rw [h0, Nat.add_mul]
    omega
  · rw [(b h).1, (b h).2, h1]
    omega
theorem flat_len {s : Sq} (hs : okSq s) : ∀ (full : List (List Sk)) (m : Nat), isFull s m full → upToM s m + full.flatten.length = upToM s (m + full.length)
  | [], m, _ => rfl
  | d :: full, m, h => by
    have h1 := (eats_nodup h.1 (hs.nodup (hs.mod m))).2
    have h2 := flat_len hs full (m + 1) h.2
    have h3 := upToM_succ hs m
    simp only [List.length_cons, List.flatten_cons, List.length_append, List.length_nil] at h1 ⊢
    rw [show m + (full.length + 1) = m + 1 + full.length by omega, ← h2]
    omega
theorem upTo_mono {s : Sq} {i j : Nat} (h : i ≤ j) (hj : j ≤ s.steps.length) : upTo s i ≤ upTo s j := by
  induction j with
  | zero =>
    have : i = 0 := by omega
    rw [this]; exact Nat.le_refl _
  | succ j ih =>
    by_cases e : i = j + 1
    · rw [e]; exact Nat.le_refl _
    · have h1 := ih (by omega) (by omega)
      have h2 := upTo_succ (s := s) (i := j) (by omega)
      omega
theorem isWalk.count {s : Sq} (hs : okSq s) {w : List Sk} {k : Nat} {full : List (List Sk)} {done left : List Sk} (h : isWalk s w k full done left) : ∃ r, k = full.length / s.steps.length * (firstW s.steps).length + r ∧ r < (firstW s.steps).length ∧ r = upTo s (full.length % s.steps.length) + done.length := by
  have h1 := flat_len hs full 0 h.whole
  have h2 := (eats_nodup h.part (hs.nodup (hs.mod _))).2
  have h3 : left.length ≠ 0 := fun e => h.rest (List.length_eq_zero_iff.1 e)
  have h4 := congrArg List.length h.flat
  have h5 : upToM s 0 = 0 := by simp [upToM, upTo, firstW]
  have h6 := upTo_succ (hs.mod full.length)
  have h7 := upTo_mono (s := s) (i := full.length % s.steps.length + 1) (j := s.steps.length) (by have := hs.mod full.length; omega) (Nat.le_refl _)
  rw [upTo_all] at h7
  rw [List.length_append, List.length_take, Nat.min_eq_left h.le] at h4
  rw [h5, Nat.zero_add, Nat.zero_add] at h1
  unfold upToM at h1
  exact ⟨upTo s (full.length % s.steps.length) + done.length, by omega, by omega, rfl⟩
end Go.Proofs.Ytopjiafdimoeiaa
