/- States: few, equal, right, by the reference. -/
import Derived.Test.YtopjiafdimoeiaaGreatSa1
namespace Go.Proofs.YtopjiafdimoeiaaGreat
open Go Go.Am Go.Proofs
set_option maxRecDepth 100000
def Ste.few (s : Ste) : Bool := decide (s.ends.length ≤ 40) && decide (s.valves.length ≤ 40) && decide (s.inputs.length ≤ 200) && decide (s.values.length ≤ 200) && decide (s.timers.length ≤ 200)
theorem fewS_parts {s : Ste} (h : s.few = true) : s.ends.length ≤ 40 ∧ s.valves.length ≤ 40 ∧ s.inputs.length ≤ 200 ∧ s.values.length ≤ 200 ∧ s.timers.length ≤ 200 := by
  simp only [Ste.few, Bool.and_eq_true, decide_eq_true_eq] at h
  exact ⟨h.1.1.1.1, h.1.1.1.2, h.1.1.2, h.1.2, h.2⟩
theorem ev40 (s : Ste) : ev pg (.call (.fn 40 [] []) [s.v] []) = some { v := .bool s.few, st := ⟨[], []⟩ } := by
  rw [ev_call, pg40]
  unfold Ste.few
  by_cases h1 : s.ends.length ≤ 40
  · have g1 : (s.ends.length : Int) ≤ 40 := by omega
    by_cases h2 : s.valves.length ≤ 40
    · have g2 : (s.valves.length : Int) ≤ 40 := by omega
      by_cases h3 : s.inputs.length ≤ 200
      · have g3 : (s.inputs.length : Int) ≤ 200 := by omega
        by_cases h4 : s.values.length ≤ 200
        · have g4 : (s.values.length : Int) ≤ 200 := by omega
          by_cases h5 : s.timers.length ≤ 200
          · have g5 : (s.timers.length : Int) ≤ 200 := by omega
            simp [ir40, h1, h2, h3, h4, h5, g1, g2, g3, g4, g5]
          · have g5 : ¬ (s.timers.length : Int) ≤ 200 := by omega
            simp [ir40, h1, h2, h3, h4, h5, g1, g2, g3, g4, g5]
        · have g4 : ¬ (s.values.length : Int) ≤ 200 := by omega
          simp [ir40, h1, h2, h3, h4, g1, g2, g3, g4]
      · have g3 : ¬ (s.inputs.length : Int) ≤ 200 := by omega
        simp [ir40, h1, h2, h3, g1, g2, g3]
    · have g2 : ¬ (s.valves.length : Int) ≤ 40 := by omega
      simp [ir40, h1, h2, g1, g2]
  · have g1 : ¬ (s.ends.length : Int) ≤ 40 := by omega
    simp [ir40, h1, g1]
theorem ev13 (c : Ct) (s : Ste) : ev pg (.call (.fn 13 [] []) [c.v, s.v] []) = some { v := .bool (c.few && s.few), st := ⟨[], []⟩ } := by
  have h1 := ev6 c
  have h2 := ev40 s
  rw [ev_call, pg13]
  generalize c.few = b at *
  cases b <;> simp [ir13, h1, h2]
/-- Lists that are not too long. -/
structure Ste.small (s : Ste) : Prop where
  e : s.ends.length ≤ 4096
  w : s.valves.length ≤ 4096
  i : s.inputs.length ≤ 4096
  v : s.values.length ≤ 4096
  t : s.timers.length ≤ 4096
theorem few_smallS {s : Ste} (h : s.few = true) : s.small := by
  obtain ⟨h1, h2, h3, h4, h5⟩ := fewS_parts h
  exact ⟨by omega, by omega, by omega, by omega, by omega⟩
/-! ### right states -/
def tmB (kind : Int) (v : Bool) (t : Int) : Bool := (!decide (kind = 2) && decide (t ≠ 0)) || (decide (kind = 2) && (v != (t == 2)))
/-- Is the state of the timer that a signal has not what it should be? -/
def tmF (c : Ct) (s : Ste) (k : Nat) : Bool := tmB ((c.signals[k]?).map Sg.kind |>.getD 0) ((s.values[k]?).getD false) ((s.timers[k]?).getD 0)
def anyF (p : Nat → Bool) (n : Nat) : Bool := (List.range n).any p
theorem anyF_of {p : Nat → Bool} {n k : Nat} (hk : k < n) (h : p k = true) : anyF p n = true := by
  unfold anyF; rw [List.any_eq_true]; exact ⟨k, List.mem_range.2 hk, h⟩
theorem anyF_not {p : Nat → Bool} {n : Nat} (h : ∀ j, j < n → p j = false) : anyF p n = false := by
  unfold anyF; rw [List.any_eq_false]; intro k hk; rw [h k (List.mem_range.1 hk)]; simp
theorem any_of {p : Int → Bool} {l : List Int} {k : Nat} (hk : k < l.length) (h : p l[k] = true) : l.any p = true := by
  rw [List.any_eq_true]; exact ⟨_, List.getElem_mem hk, h⟩
theorem any_not {p : Int → Bool} {l : List Int} (h : ∀ j (hj : j < l.length), p l[j] = false) : l.any p = false := by
  rw [List.any_eq_false]
  intro x hx
  obtain ⟨j, hj, rfl⟩ := List.getElem_of_mem hx
  rw [h j hj]; simp
structure Shp (c : Ct) (s : Ste) : Prop where
  e : (s.ends.length : Int) = c.act
  w : (s.valves.length : Int) = c.act
  i : s.inputs.length = c.inputs.length
  v : s.values.length = c.signals.length
  t : s.timers.length = c.signals.length
instance (c : Ct) (s : Ste) : Decidable (Shp c s) :=
  if h : (s.ends.length : Int) = c.act ∧ (s.valves.length : Int) = c.act ∧ s.inputs.length = c.inputs.length ∧ s.values.length = c.signals.length ∧ s.timers.length = c.signals.length then .isTrue ⟨h.1, h.2.1, h.2.2.1, h.2.2.2.1, h.2.2.2.2⟩
  else .isFalse fun a => h ⟨a.e, a.w, a.i, a.v, a.t⟩
def fitE (c : Ct) (s : Ste) : Int := if Shp c s then (if s.ends.any (badL 4) = true ∨ s.timers.any (badL 3) = true then 1 else if anyF (tmF c s) s.timers.length = true then 14 else 0) else 8
abbrev h49 (c : Ct) (s : Ste) : H := [⟨0, .box c.cells⟩, ⟨0, .box s.cells⟩]
def T49 (l : List (Option V)) (n : Nat) : Tm := [none, none, some (.bptr 0 0), some (.bptr 1 0), some (num 0)] ++ l ++ List.replicate n none
def T49r (e : Int) : Tm := [none, none, none, none, some (num e)] ++ List.replicate 128 none
theorem loop49a (c : Ct) (s : Ste) (hs : s.small) {st : St} (h0 : At (T49 [some (num 0)] 127) (h49 c s) st) : ∃ r, ev pg (.code (.going 2 L49_0) st) = some r ∧ Finds s.ends.length (fun k => badL 4 ((s.ends[k]?).getD 0)) (fun _ => EndsAs .ret (T49r 1) (h49 c s)) (EndsAs (.exit 0) (T49 [] 128) (h49 c s)) r := by
  have hse := hs.e
  refine loop_first _ _ (fun k => T49 [some (num k)] 127) (h49 c s) _ _ ?_ ?_ ?_ h0
  · intro k f hf hk hp
    have hk' : (k : Int) < s.ends.length := by omega
    have wk := wrap_id (n := (k : Int) + 1) (by omega) (by omega)
    have hp' : ¬ s.ends[k] < 0 ∧ ¬ 4 ≤ s.ends[k] := by simpa [badL, hk] using hp
    simp [T49, L49_0, hk, hk', hp', wk, hf.ne]
  · intro k f hf hk hp
    have hk' : (k : Int) < s.ends.length := by omega
    have hp' : s.ends[k] < 0 ∨ 4 ≤ s.ends[k] := by simpa [badL, hk] using hp
    rcases Int.lt_or_le s.ends[k] 0 with h | h
    · simp [T49, T49r, L49_0, hk, hk', h, hf.ne]
    · have h1 : ¬ s.ends[k] < 0 := by omega
      have h2 : 4 ≤ s.ends[k] := by omega
      simp [T49, T49r, L49_0, hk, hk', h1, h2, hf.ne]
  · intro f hf
    simp [T49, L49_0, hf.ne]
theorem loop49b (c : Ct) (s : Ste) (hs : s.small) {st : St} (h0 : At (T49 [none, some (num 0)] 126) (h49 c s) st) : ∃ r, ev pg (.code (.going 2 L49_1) st) = some r ∧ Finds s.timers.length (fun k => badL 3 ((s.timers[k]?).getD 0)) (fun _ => EndsAs .ret (T49r 1) (h49 c s)) (EndsAs (.exit 2) (T49 [] 128) (h49 c s)) r := by
  have hse := hs.t
  refine loop_first _ _ (fun k => T49 [none, some (num k)] 126) (h49 c s) _ _ ?_ ?_ ?_ h0
  · intro k f hf hk hp
    have hk' : (k : Int) < s.timers.length := by omega
    have wk := wrap_id (n := (k : Int) + 1) (by omega) (by omega)
    have hp' : ¬ s.timers[k] < 0 ∧ ¬ 3 ≤ s.timers[k] := by simpa [badL, hk] using hp
    simp [T49, L49_1, hk, hk', hp', wk, hf.ne]
  · intro k f hf hk hp
    have hk' : (k : Int) < s.timers.length := by omega
    have hp' : s.timers[k] < 0 ∨ 3 ≤ s.timers[k] := by simpa [badL, hk] using hp
    rcases Int.lt_or_le s.timers[k] 0 with h | h
    · simp [T49, T49r, L49_1, hk, hk', h, hf.ne]
    · have h1 : ¬ s.timers[k] < 0 := by omega
      have h2 : 3 ≤ s.timers[k] := by omega
      simp [T49, T49r, L49_1, hk, hk', h1, h2, hf.ne]
  · intro f hf
    simp [T49, L49_1, hf.ne]
theorem loop49c (c : Ct) (s : Ste) (hs : s.small) (hS : Shp c s) {st : St} (h0 : At (T49 [none, none, some (num 0)] 125) (h49 c s) st) : ∃ r, ev pg (.code (.going 2 L49_2) st) = some r ∧ Finds s.timers.length (tmF c s) (fun _ => EndsAs .ret (T49r 14) (h49 c s)) (EndsAs (.exit 4) (T49 [] 128) (h49 c s)) r := by
  have hse := hs.t
  have hv := hS.v
  have ht := hS.t
  refine loop_first _ _ (fun k => T49 [none, none, some (num k)] 125) (h49 c s) _ _ ?_ ?_ ?_ h0
  · intro k f hf hk hp
    have hk' : (k : Int) < s.timers.length := by omega
    have hkv : k < s.values.length := by omega
    have hkc : k < c.signals.length := by omega
    have wk := wrap_id (n := (k : Int) + 1) (by omega) (by omega)
    have hp' : tmB c.signals[k].kind s.values[k] s.timers[k] = false := by simpa [tmF, hk, hkv, hkc] using hp
    simp [tmB] at hp'
    by_cases h2 : c.signals[k].kind = 2
    · have hq := hp'.2 h2
      simp [T49, L49_2, hk, hk', hkv, hkc, h2, hq, wk, hf.ne]
    · have h0 := hp'.1 h2
      have h2b : (c.signals[k].kind == 2) = false := by simpa using h2
      simp [T49, L49_2, hk, hk', hkv, hkc, h2b, h0, wk, hf.ne]
  · intro k f hf hk hp
    have hk' : (k : Int) < s.timers.length := by omega
    have hkv : k < s.values.length := by omega
    have hkc : k < c.signals.length := by omega
    have hp' : tmB c.signals[k].kind s.values[k] s.timers[k] = true := by simpa [tmF, hk, hkv, hkc] using hp
    simp [tmB] at hp'
    by_cases h2 : c.signals[k].kind = 2
    · have hq : ¬ s.values[k] = (s.timers[k] == 2) := by simpa [h2] using hp'
      simp [T49, T49r, L49_2, hk, hk', hkv, hkc, h2, hq, hf.ne]
    · have h0 : (s.timers[k] != 0) = true := by simpa [h2] using hp'
      have h2b : (c.signals[k].kind == 2) = false := by simpa using h2
      simp [T49, T49r, L49_2, hk, hk', hkv, hkc, h2b, h0, hf.ne]
  · intro f hf
    simp [T49, L49_2, hf.ne]
theorem shp_not {c : Ct} {s : Ste} (h : ¬ Shp c s) : ((s.ends.length : Int) != c.act || ((s.valves.length : Int) != c.act || ((s.inputs.length : Int) != (c.inputs.length : Int) || ((s.values.length : Int) != (c.signals.length : Int) || ((s.timers.length : Int) != (c.signals.length : Int)))))) = true := by
  simp only [Bool.or_eq_true, bne_iff_ne]
  by_cases h1 : (s.ends.length : Int) = c.act
  · by_cases h2 : (s.valves.length : Int) = c.act
    · by_cases h3 : (s.inputs.length : Int) = c.inputs.length
      · by_cases h4 : (s.values.length : Int) = c.signals.length
        · by_cases h5 : (s.timers.length : Int) = c.signals.length
          · exact absurd ⟨h1, h2, by omega, by omega, by omega⟩ h
          · simp [h5]
        · simp [h4]
      · simp [h3]
    · simp [h2]
  · simp [h1]
theorem ev49 (c : Ct) (s : Ste) (hs : s.small) : ev pg (.call (.fn 49 [] []) [c.v, s.v] []) = some { v := num (fitE c s), st := ⟨[], []⟩ } := by
  rw [ev_call, pg49]
  by_cases hS : Shp c s
  · have hla := @loop49a c s hs
    have hlb := @loop49b c s hs
    have hlc := @loop49c c s hs hS
    have e1 : ((s.ends.length : Int) != c.act) = false := by simp [hS.e]
    have e2 : ((s.valves.length : Int) != c.act) = false := by simp [hS.w]
    have e3 : ((s.inputs.length : Int) != (c.inputs.length : Int)) = false := by simp [hS.i]
    have e4 : ((s.values.length : Int) != (c.signals.length : Int)) = false := by simp [hS.v]
    have e5 : ((s.timers.length : Int) != (c.signals.length : Int)) = false := by simp [hS.t]
    unfold fitE
    rw [if_pos hS]
    generalize hB1 : s.ends.any (badL 4) = B1
    generalize hB2 : s.timers.any (badL 3) = B2
    generalize hB3 : anyF (tmF c s) s.timers.length = B3
    simp [ir49, ev_loop, e1, e2, e3, e4, e5]
    generalize hr : ev pg (.code (.going _ L49_0) _) = o
    obtain ⟨r, rfl, hQ⟩ : ∃ r, o = some r ∧ _ := by rw [← hr]; exact hla (by simp [T49])
    rcases hQ with ⟨k, hk, hp, -, f, hf, rfl⟩ | ⟨hp, f, hf, rfl⟩
    · obtain rfl : B1 = true := by rw [← hB1]; exact any_of hk (by simpa [hk] using hp)
      simp [T49r]
    · obtain rfl : B1 = false := by rw [← hB1]; exact any_not fun j hj => by simpa [hj] using hp j hj
      simp [T49, hf.ne, ev_loop]
      generalize hr : ev pg (.code (.going _ L49_1) _) = o
      obtain ⟨r, rfl, hQ⟩ : ∃ r, o = some r ∧ _ := by rw [← hr]; exact hlb (by simp [T49, hf.ne])
      rcases hQ with ⟨k, hk, hp, -, f, hf, rfl⟩ | ⟨hp, f, hf, rfl⟩
      · obtain rfl : B2 = true := by rw [← hB2]; exact any_of hk (by simpa [hk] using hp)
        simp [T49r]
      · obtain rfl : B2 = false := by rw [← hB2]; exact any_not fun j hj => by simpa [hj] using hp j hj
        simp [T49, hf.ne, ev_loop]
        generalize hr : ev pg (.code (.going _ L49_2) _) = o
        obtain ⟨r, rfl, hQ⟩ : ∃ r, o = some r ∧ _ := by rw [← hr]; exact hlc (by simp [T49, hf.ne])
        rcases hQ with ⟨k, hk, hp, -, f, hf, rfl⟩ | ⟨hp, f, hf, rfl⟩
        · obtain rfl : B3 = true := by rw [← hB3]; exact anyF_of hk hp
          simp [T49r]
        · obtain rfl : B3 = false := by rw [← hB3]; exact anyF_not hp
          simp [T49]
  · have hn := shp_not hS
    unfold fitE
    rw [if_neg hS]
    generalize e1 : ((s.ends.length : Int) != c.act) = b1 at hn
    generalize e2 : ((s.valves.length : Int) != c.act) = b2 at hn
    generalize e3 : ((s.inputs.length : Int) != (c.inputs.length : Int)) = b3 at hn
    generalize e4 : ((s.values.length : Int) != (c.signals.length : Int)) = b4 at hn
    generalize e5 : ((s.timers.length : Int) != (c.signals.length : Int)) = b5 at hn
    cases b1 with
    | true => simp [ir49, e1]
    | false => cases b2 with
      | true => simp [ir49, e1, e2]
      | false => cases b3 with
        | true => simp [ir49, e1, e2, e3]
        | false => cases b4 with
          | true => simp [ir49, e1, e2, e3, e4]
          | false => cases b5 with
            | true => simp [ir49, e1, e2, e3, e4, e5]
            | false => simp at hn
theorem ev18 (c : Ct) (s : Ste) (hfew : c.small = true) (hs : s.small) : ev pg (.call (.fn 18 [] []) [c.v, s.v] []) = some { v := num (if c.check = 0 then fitE c s else c.check), st := ⟨[], []⟩ } := by
  have h1 := ev33 c hfew
  have h2 := ev49 c s hs
  rw [ev_call, pg18]
  generalize c.check = e at *
  by_cases he : e = 0
  · subst he
    simp [ir18, h1, h2]
  · simp [ir18, h1, he]
end Go.Proofs.YtopjiafdimoeiaaGreat
