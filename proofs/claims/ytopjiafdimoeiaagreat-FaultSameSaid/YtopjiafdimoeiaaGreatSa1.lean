/- Expressions in place of variables, by the reference. Loops of Am, by a picture of the slots and of the memory. States: how they stand in Am's memory; equal states, by the reference. -/
import Derived.Test.YtopjiafdimoeiaaGreatFy5
import Derived.Test.YtopjiafdimoeiaaGreatEn6
/- Expressions in place of variables, by the reference. -/
namespace Go.Proofs.YtopjiafdimoeiaaGreat
open Go Go.Am Go.Proofs
set_option maxRecDepth 100000
/-! ### all variables, but for one -/
abbrev h66 (x : Ex) (g m : Nat) (rows : List (List V)) : H := [⟨0, .box x.cells⟩, ⟨0, .arr 0 []⟩, ⟨0, .box [num 0, num 0, .sl 1 0 0 0 0]⟩, ⟨g, .arr m rows⟩]
end Go.Proofs.YtopjiafdimoeiaaGreat
/- Loops of Am, by a picture of the slots and of the memory. -/
namespace Go.Am
/-- A picture of slots: what is known of each. -/
abbrev Tm := List (Option V)
def fill (f : Nat → V) : Nat → Tm → List V
  | _, [] => []
  | i, some v :: t => v :: fill f (i + 1) t
  | i, none :: t => f i :: fill f (i + 1) t
def fits : Tm → List V → Prop
  | [], [] => True
  | some v :: t, x :: s => x = v ∧ fits t s
  | none :: t, x :: s => x ≠ .nils ∧ fits t s
  | _, _ => False
def Junk (f : Nat → V) : Prop := ∀ i, f i ≠ .nils
theorem fits_fill : ∀ {t : Tm} {s : List V} (n : Nat), fits t s → ∃ f, Junk f ∧ s = fill f n t
  | [], [], _, _ => ⟨fun _ => .undef, fun _ => by simp, rfl⟩
  | [], _ :: _, _, h => by simp [fits] at h
  | some _ :: _, [], _, h => by simp [fits] at h
  | none :: _, [], _, h => by simp [fits] at h
  | some v :: t, x :: s, n, h => by
    obtain ⟨rfl, h2⟩ := h
    obtain ⟨f, hf, rfl⟩ := fits_fill (n + 1) h2
    exact ⟨f, hf, rfl⟩
  | none :: t, x :: s, n, h => by
    obtain ⟨hx, h2⟩ := h
    obtain ⟨f, hf, rfl⟩ := fits_fill (n + 1) h2
    refine ⟨fun i => if i = n then x else f i, fun i => ?_, ?_⟩
    · simp only
      split
      · exact hx
      · exact hf i
    · have : ∀ (t : Tm) (m : Nat), n < m → fill (fun i => if i = n then x else f i) m t = fill f m t := by
        intro t
        induction t with
        | nil => intro m _; rfl
        | cons o t ih =>
          intro m hm
          cases o with
          | none => simp only [fill, ih (m + 1) (by omega)]; rw [if_neg (by omega)]
          | some v => simp only [fill, ih (m + 1) (by omega)]
      simp only [fill, if_true]
      rw [this t (n + 1) (by omega)]
/-- The state is as the picture says. -/
structure At (T : Tm) (h : H) (st : St) : Prop where
  s : fits T st.s
  h : st.h = h
theorem At.eq {T : Tm} {h : H} {st : St} (a : At T h st) : ∃ f, Junk f ∧ st = ⟨fill f 0 T, h⟩ := by
  obtain ⟨f, hf, e⟩ := fits_fill 0 a.s
  refine ⟨f, hf, ?_⟩
  obtain ⟨s, h'⟩ := st
  obtain rfl : h' = h := a.h
  obtain rfl : s = fill f 0 T := e
  rfl
/-- A loop ends so, in a state like the picture. -/
def Out {α : Type} (x : X) (T : α → Tm) (Hp : α → H) (G : α → Prop) (r : R) : Prop := ∃ a f, Junk f ∧ G a ∧ r = { x := x, st := ⟨fill f 0 (T a), Hp a⟩ }
theorem out_of {α : Type} {x : X} {T : α → Tm} {Hp : α → H} {G : α → Prop} {st : St} (a : α) (g : G a) (h : At (T a) (Hp a) st) : Out x T Hp G { x := x, st := st } := by
  obtain ⟨f, hf, rfl⟩ := h.eq
  exact ⟨a, f, hf, g, rfl⟩
/-- A loop of which each round leads from a picture to the next one. -/
theorem loop_at {P : Prg} {nx : Nat} {c : C} {α : Type} (N : Nat) (T : Nat → α → Tm) (Hp : Nat → α → H) (G : Nat → α → Prop) (Q : R → Prop)
    (step : ∀ k a f, Junk f → k < N → G k a → ∃ r, ev P (.code c ⟨fill f 0 (T k a), Hp k a⟩) = some r ∧ ((r.x = .normal ∧ ∃ a', G (k + 1) a' ∧ At (T (k + 1) a') (Hp (k + 1) a') (cutS nx r.st)) ∨ (r.x ≠ .normal ∧ Q r)))
    (last : ∀ a f, Junk f → G N a → ∃ r, ev P (.code c ⟨fill f 0 (T N a), Hp N a⟩) = some r ∧ r.x ≠ .normal ∧ Q r)
    {st : St} (a0 : α) (g0 : G 0 a0) (h0 : At (T 0 a0) (Hp 0 a0) st) : ∃ r, ev P (.code (.going nx c) st) = some r ∧ Q r := by
  refine loop_from (fun k st => ∃ a, G k a ∧ At (T k a) (Hp k a) st) N Q ⟨a0, g0, h0⟩ ?_ ?_
  · rintro k st hk ⟨a, g, h⟩
    obtain ⟨f, hf, rfl⟩ := h.eq
    exact step k a f hf hk g
  · rintro st ⟨a, g, h⟩
    obtain ⟨f, hf, rfl⟩ := h.eq
    exact last a f hf g
/-- The same, where the picture says it all. -/
theorem loop_pic {P : Prg} {nx : Nat} {c : C} (N : Nat) (T : Nat → Tm) (Hp : Nat → H) (Q : R → Prop)
    (step : ∀ k f, Junk f → k < N → ∃ r, ev P (.code c ⟨fill f 0 (T k), Hp k⟩) = some r ∧ ((r.x = .normal ∧ At (T (k + 1)) (Hp (k + 1)) (cutS nx r.st)) ∨ (r.x ≠ .normal ∧ Q r)))
    (last : ∀ f, Junk f → ∃ r, ev P (.code c ⟨fill f 0 (T N), Hp N⟩) = some r ∧ r.x ≠ .normal ∧ Q r)
    {st : St} (h0 : At (T 0) (Hp 0) st) : ∃ r, ev P (.code (.going nx c) st) = some r ∧ Q r :=
  loop_at (α := Unit) N (fun k _ => T k) (fun k _ => Hp k) (fun _ _ => True) Q
    (fun k _ f hf hk _ => by
      obtain ⟨r, e, h⟩ := step k f hf hk
      refine ⟨r, e, ?_⟩
      rcases h with ⟨hx, h⟩ | h
      · exact .inl ⟨hx, (), trivial, h⟩
      · exact .inr h)
    (fun _ f hf _ => last f hf) () trivial h0
/-- The first number with a property is found, or there is none. -/
def Finds (N : Nat) (p : Nat → Bool) (X : Nat → R → Prop) (Y : R → Prop) (r : R) : Prop := (∃ k, k < N ∧ p k = true ∧ (∀ j, j < k → p j = false) ∧ X k r) ∨ ((∀ j, j < N → p j = false) ∧ Y r)
/-- A loop that looks for the first number with a property. -/
theorem loop_first {P : Prg} {nx : Nat} {c : C} (N : Nat) (p : Nat → Bool) (T : Nat → Tm) (h : H) (X : Nat → R → Prop) (Y : R → Prop)
    (go : ∀ k f, Junk f → k < N → p k = false → ∃ st, ev P (.code c ⟨fill f 0 (T k), h⟩) = some { st := st } ∧ At (T (k + 1)) h (cutS nx st))
    (hit : ∀ k f, Junk f → k < N → p k = true → ∃ r, ev P (.code c ⟨fill f 0 (T k), h⟩) = some r ∧ r.x ≠ .normal ∧ X k r)
    (last : ∀ f, Junk f → ∃ r, ev P (.code c ⟨fill f 0 (T N), h⟩) = some r ∧ r.x ≠ .normal ∧ Y r)
    {st : St} (h0 : At (T 0) h st) : ∃ r, ev P (.code (.going nx c) st) = some r ∧ Finds N p X Y r := by
  refine loop_at (α := Unit) N (fun k _ => T k) (fun _ _ => h) (fun k _ => ∀ j, j < k → p j = false) _ ?_ ?_ () (fun j hj => absurd hj (Nat.not_lt_zero j)) h0
  · intro k _ f hf hk hp
    cases hb : p k with
    | false =>
      obtain ⟨st, e, ha⟩ := go k f hf hk hb
      refine ⟨_, e, .inl ⟨rfl, (), fun j hj => ?_, ha⟩⟩
      by_cases hjk : j = k
      · rw [hjk]; exact hb
      · exact hp j (by omega)
    | true =>
      obtain ⟨r, e, hx, hX⟩ := hit k f hf hk hb
      exact ⟨r, e, .inr ⟨hx, .inl ⟨k, hk, hb, hp, hX⟩⟩⟩
  · intro _ f hf hp
    obtain ⟨r, e, hx, hY⟩ := last f hf
    exact ⟨r, e, hx, .inr ⟨hp, hY⟩⟩
/-- It ends so, in a state like the picture. -/
def EndsAs (x : X) (T : Tm) (h : H) (r : R) : Prop := ∃ f, Junk f ∧ r = { x := x, st := ⟨fill f 0 T, h⟩ }
@[simp] theorem ends_iff {x x' : X} {T : Tm} {h : H} {st : St} : EndsAs x T h { x := x', v := .undef, st := st } ↔ x' = x ∧ At T h st := by
  constructor
  · rintro ⟨f, hf, e⟩
    injection e with e1 _ e3
    subst e3
    refine ⟨e1, ?_, rfl⟩
    have : ∀ (t : Tm) (n : Nat), fits t (fill f n t) := by
      intro t
      induction t with
      | nil => intro n; trivial
      | cons o t ih =>
        intro n
        cases o with
        | none => exact ⟨hf n, ih (n + 1)⟩
        | some v => exact ⟨rfl, ih (n + 1)⟩
    exact this T 0
  · rintro ⟨rfl, h⟩
    obtain ⟨f, hf, rfl⟩ := h.eq
    exact ⟨f, hf, rfl⟩
theorem at_mk {T : Tm} {h : H} {st : St} (a : fits T st.s) (b : st.h = h) : At T h st := ⟨a, b⟩
theorem at_iff {T : Tm} {h h' : H} {s : List V} : At T h ⟨s, h'⟩ ↔ fits T s ∧ h' = h := ⟨fun a => ⟨a.s, a.h⟩, fun a => ⟨a.1, a.2⟩⟩
attribute [simp] fill fits at_iff
@[simp] theorem Junk.ne {f : Nat → V} (hf : Junk f) (i : Nat) : (f i = .nils) = False := by simp [hf i]
end Go.Am
/- States: how they stand in Am's memory; equal states, by the reference. -/
namespace Go.Proofs.YtopjiafdimoeiaaGreat
open Go Go.Am Go.Proofs
set_option maxRecDepth 100000
abbrev bools (l : List Bool) : V := .imm (l.map brow)
structure Ste where
  ends : List Int
  valves : List Bool
  inputs : List Bool
  values : List Bool
  timers : List Int
abbrev Ste.cells (s : Ste) : List V := [ints s.ends, bools s.valves, bools s.inputs, bools s.values, ints s.timers]
abbrev Ste.v (s : Ste) : V := .agg s.cells
def zeroS : Ste := ⟨[], [], [], [], []⟩
@[simp] theorem beqR_bool (l : List Bool) : beqR (l.map brow) (l.map brow) = true := beqR_map (fun x => by simp) l
end Go.Proofs.YtopjiafdimoeiaaGreat
