/- Controls: lines and their names. -/
import Derived.Test.YtopjiafdimoeiaaGreatCt1
namespace Go.Proofs.YtopjiafdimoeiaaGreat
open Go Go.Am Go.Proofs
set_option maxRecDepth 100000
/-- A control that is not too great, with some actuators. -/
structure Mid (c : Ct) (A : Nat) : Prop where
  act : c.act = A
  lo : 1 ≤ A
  hi : A ≤ 6
  inp : c.inputs.length ≤ 32
  sig : c.signals.length ≤ 128
abbrev firstN (c : Ct) (A : Nat) : Nat := 2 * A + c.inputs.length
abbrev countN (c : Ct) (A : Nat) : Nat := 2 * A + c.inputs.length + c.signals.length
theorem ev67 {c : Ct} {A : Nat} (h : Mid c A) : ev pg (.call (.fn 67 [] []) [c.v] []) = some { v := num (countN c A : Nat), st := ⟨[], []⟩ } := by
  obtain ⟨hA, h1, h2, h3, h4⟩ := h
  have w1 := wrap_id (n := 2 * (A : Int)) (by omega) (by omega)
  have w2 := wrap_id (n := 2 * (A : Int) + (c.inputs.length : Int)) (by omega) (by omega)
  have w3 := wrap_id (n := 2 * (A : Int) + (c.inputs.length : Int) + (c.signals.length : Int)) (by omega) (by omega)
  rw [ev_call, pg67]
  simp [ir67, hA, w1, w2, w3]
theorem ev59 {c : Ct} {A : Nat} (h : Mid c A) : ev pg (.call (.fn 59 [] []) [c.v] []) = some { v := num (countN c A : Nat), st := ⟨[], []⟩ } := by
  obtain ⟨hA, h1, h2, h3, h4⟩ := h
  have w1 := wrap_id (n := 2 * (A : Int)) (by omega) (by omega)
  have w2 := wrap_id (n := 2 * (A : Int) + (c.inputs.length : Int)) (by omega) (by omega)
  have w3 := wrap_id (n := 2 * (A : Int) + (c.inputs.length : Int) + (c.signals.length : Int)) (by omega) (by omega)
  rw [ev_call, pg59]
  simp [ir59, hA, w1, w2, w3]
theorem ev101 {c : Ct} {A : Nat} (h : Mid c A) : ev pg (.call (.fn 101 [] []) [c.v] []) = some { v := num (firstN c A : Nat), st := ⟨[], []⟩ } := by
  obtain ⟨hA, h1, h2, h3, h4⟩ := h
  have w1 := wrap_id (n := 2 * (A : Int)) (by omega) (by omega)
  have w2 := wrap_id (n := 2 * (A : Int) + (c.inputs.length : Int)) (by omega) (by omega)
  rw [ev_call, pg101]
  simp [ir101, hA, w1, w2]
theorem ev84 {c : Ct} {A : Nat} (h : Mid c A) : ev pg (.call (.fn 84 [] []) [c.v] []) = some { v := num (firstN c A : Nat), st := ⟨[], []⟩ } := by
  obtain ⟨hA, h1, h2, h3, h4⟩ := h
  have w1 := wrap_id (n := 2 * (A : Int)) (by omega) (by omega)
  have w2 := wrap_id (n := 2 * (A : Int) + (c.inputs.length : Int)) (by omega) (by omega)
  rw [ev_call, pg84]
  simp [ir84, hA, w1, w2]
theorem beqR_map {α : Type} {row : α → List V} (h : ∀ x, beqL (row x) (row x) = true) : ∀ l : List α, beqR (l.map row) (l.map row) = true
  | [] => rfl
  | x :: l => by simp only [List.map_cons, beqR, h x, beqR_map h l, Bool.and_self]
@[simp] theorem beqR_ex (l : List Ex) : beqR (l.map Ex.row) (l.map Ex.row) = true := by
  have : ∀ x : Ex, beqL x.row x.row = true := by
    refine Ex.ind fun x ih => ?_
    have hl : ∀ l : List Ex, (∀ y ∈ l, beqL y.row y.row = true) → beqR (l.map Ex.row) (l.map Ex.row) = true := by
      intro l
      induction l with
      | nil => intro _; rfl
      | cons y l ihl =>
        intro h
        simp only [List.map_cons, beqR, h y (by simp), ihl (fun z hz => h z (by simp [hz])), Bool.and_self]
    rw [row_eq]
    simp [hl x.args ih]
  exact beqR_map this l
@[simp] theorem beqR_sg (l : List Sg) : beqR (l.map Sg.row) (l.map Sg.row) = true := beqR_map (fun x => by simp) l
@[simp] theorem beqR_str (l : List Txt) : beqR (l.map srow) (l.map srow) = true := beqR_map (fun x => by simp) l
@[simp] theorem beqR_int (l : List Int) : beqR (l.map nrow) (l.map nrow) = true := beqR_map (fun x => by simp) l
theorem ev51 {c : Ct} {A : Nat} (h : Mid c A) : ev pg (.call (.fn 51 [] []) [c.v] []) = some { v := num (countN c A : Nat), st := ⟨[], []⟩ } := by
  have hf := ev84 h
  obtain ⟨hA, h1, h2, h3, h4⟩ := h
  have w3 := wrap_id (n := 2 * (A : Int) + (c.inputs.length : Int) + (c.signals.length : Int)) (by omega) (by omega)
  rw [ev_call, pg51]
  simp [ev_draw1, exT, chkOk, ir51, hf, w3]
/-! ### names -/
def nameAt (c : Ct) (A k : Nat) : Txt := if k < 2 * A then [UInt8.ofNat (97 + k / 2), UInt8.ofNat (48 + k % 2)] else if k < 2 * A + c.inputs.length then (c.inputs[k - 2 * A]?).getD [] else ((c.signals[k - (2 * A + c.inputs.length)]?).map Sg.name).getD []
theorem wrap32 {n : Int} (h : 0 ≤ n) (h2 : n < 2147483648) : IntKind.i32.wrap n = n := by
  unfold IntKind.wrap; simp [IntKind.bits, IntKind.signed]; omega
theorem lit_a {q : Nat} (h : q < 6) : List.take 1 (List.drop q ([97, 98, 99, 100, 101, 102] : List UInt8)) = [UInt8.ofNat (97 + q)] := by
  rcases (by omega : q = 0 ∨ q = 1 ∨ q = 2 ∨ q = 3 ∨ q = 4 ∨ q = 5) with rfl | rfl | rfl | rfl | rfl | rfl <;> rfl
theorem lit_0 {q : Nat} (h : q < 2) : List.take 1 (List.drop q ([48, 49] : List UInt8)) = [UInt8.ofNat (48 + q)] := by
  rcases (by omega : q = 0 ∨ q = 1) with rfl | rfl <;> rfl
theorem enc_a {q : Nat} (h : q < 6) : (Utf8.encode (97 + (q : Int))).data.toList = [UInt8.ofNat (97 + q)] := by
  rcases (by omega : q = 0 ∨ q = 1 ∨ q = 2 ∨ q = 3 ∨ q = 4 ∨ q = 5) with rfl | rfl | rfl | rfl | rfl | rfl <;> decide
theorem enc_0 {q : Nat} (h : q < 2) : (Utf8.encode (48 + (q : Int))).data.toList = [UInt8.ofNat (48 + q)] := by
  rcases (by omega : q = 0 ∨ q = 1) with rfl | rfl <;> decide
theorem ev99 {c : Ct} {A : Nat} (h : Mid c A) (k : Nat) (hk : k < countN c A) : ev pg (.call (.fn 99 [] []) [c.v, num k] []) = some { v := .str (nameAt c A k), st := ⟨[], []⟩ } := by
  have hf := ev101 h
  obtain ⟨hA, h1, h2, h3, h4⟩ := h
  have hk' : k < 2 * A + c.inputs.length + c.signals.length := hk
  have w1 := wrap_id (n := 2 * c.act) (by omega) (by omega)
  rw [ev_call, pg99]
  by_cases c1 : k < 2 * A
  · have c1' : (k : Int) < 2 * c.act := by omega
    obtain ⟨q, hq⟩ : ∃ q, q = k / 2 := ⟨_, rfl⟩
    obtain ⟨r, hr⟩ : ∃ r, r = k % 2 := ⟨_, rfl⟩
    have hq6 : q < 6 := by omega
    have hr2 : r < 2 := by omega
    have t1 : (k : Int).tdiv 2 = (q : Int) := by rw [hq]; rfl
    have t2 : (k : Int).tmod 2 = (r : Int) := by rw [hr]; rfl
    have w2 := wrap_id (n := (q : Int)) (by omega) (by omega)
    have w3 := wrap_id (n := (q : Int) + 1) (by omega) (by omega)
    have w4 := wrap_id (n := (r : Int) + 1) (by omega) (by omega)
    have hn : nameAt c A k = [UInt8.ofNat (97 + q), UInt8.ofNat (48 + r)] := by unfold nameAt; rw [if_pos c1, hq, hr]
    have l1 := lit_a hq6
    have l2 := lit_0 hr2
    have b1 : q + 1 ≤ 6 := by omega
    have b2 : r + 1 ≤ 2 := by omega
    have n1 : ((q : Int) + 1).toNat = q + 1 := by omega
    have n2 : ((r : Int) + 1).toNat = r + 1 := by omega
    have p1 : (0 : Int) ≤ (q : Int) + 1 := by omega
    have p2 : (0 : Int) ≤ (r : Int) + 1 := by omega
    rw [hn]
    simp [ir99, w1, c1', t1, t2, w2, w3, w4, l1, l2, b1, b2, n1, n2, p1, p2]
  · have c1' : ¬ ((k : Int) < 2 * c.act) := by omega
    by_cases c2 : k < 2 * A + c.inputs.length
    · have c2' : (k : Int) < 2 * (A : Int) + (c.inputs.length : Int) := by omega
      have hsub : (k : Int) - 2 * c.act = ((k - 2 * A : Nat) : Int) := by omega
      have w2 := wrap_id (n := ((k - 2 * A : Nat) : Int)) (by omega) (by omega)
      have hlt : k - 2 * A < c.inputs.length := by omega
      have hn : nameAt c A k = c.inputs[k - 2 * A] := by unfold nameAt; rw [if_neg c1, if_pos c2, List.getElem?_eq_getElem hlt]; rfl
      rw [hn]
      generalize k - 2 * A = j at *
      simp [ir99, w1, c1', hf, c2', hsub, w2, hlt]
    · have c2' : ¬ ((k : Int) < 2 * (A : Int) + (c.inputs.length : Int)) := by omega
      have hsub : (k : Int) - (2 * (A : Int) + (c.inputs.length : Int)) = ((k - (2 * A + c.inputs.length) : Nat) : Int) := by omega
      have w2 := wrap_id (n := ((k - (2 * A + c.inputs.length) : Nat) : Int)) (by omega) (by omega)
      have hlt : k - (2 * A + c.inputs.length) < c.signals.length := by omega
      have hn : nameAt c A k = c.signals[k - (2 * A + c.inputs.length)].name := by unfold nameAt; rw [if_neg c1, if_neg c2, List.getElem?_eq_getElem hlt]; rfl
      rw [hn]
      generalize k - (2 * A + c.inputs.length) = j at *
      simp [ev_draw1, exT, chkOk, ir99, w1, c1', hf, c2', hsub, w2, hlt]
theorem ev88 {c : Ct} {A : Nat} (h : Mid c A) (k : Nat) (hk : k < countN c A) : ev pg (.call (.fn 88 [] []) [c.v, num k] []) = some { v := .str (nameAt c A k), st := ⟨[], []⟩ } := by
  have hf := ev84 h
  obtain ⟨hA, h1, h2, h3, h4⟩ := h
  have hk' : k < 2 * A + c.inputs.length + c.signals.length := hk
  have w1 := wrap_id (n := 2 * c.act) (by omega) (by omega)
  rw [ev_call, pg88]
  by_cases c1 : k < 2 * A
  · have c1' : (k : Int) < 2 * c.act := by omega
    obtain ⟨q, hq⟩ : ∃ q, q = k / 2 := ⟨_, rfl⟩
    obtain ⟨r, hr⟩ : ∃ r, r = k % 2 := ⟨_, rfl⟩
    have hq6 : q < 6 := by omega
    have hr2 : r < 2 := by omega
    have t1 : (k : Int).tdiv 2 = (q : Int) := by rw [hq]; rfl
    have t2 : (k : Int).tmod 2 = (r : Int) := by rw [hr]; rfl
    have w2 := wrap_id (n := (q : Int)) (by omega) (by omega)
    have w3 := wrap_id (n := 97 + (q : Int)) (by omega) (by omega)
    have w4 := wrap_id (n := 48 + (r : Int)) (by omega) (by omega)
    have w5 := wrap32 (n := 97 + (q : Int)) (by omega) (by omega)
    have w6 := wrap32 (n := 48 + (r : Int)) (by omega) (by omega)
    have hn : nameAt c A k = [UInt8.ofNat (97 + q), UInt8.ofNat (48 + r)] := by unfold nameAt; rw [if_pos c1, hq, hr]
    have l1 := enc_a hq6
    have l2 := enc_0 hr2
    rw [hn]
    simp [ir88, w1, c1', hf, t1, t2, w2, w3, w4, w5, w6, l1, l2]
  · have c1' : ¬ ((k : Int) < 2 * c.act) := by omega
    by_cases c2 : k < 2 * A + c.inputs.length
    · have c2' : (k : Int) < 2 * (A : Int) + (c.inputs.length : Int) := by omega
      have hsub : (k : Int) - 2 * c.act = ((k - 2 * A : Nat) : Int) := by omega
      have w2 := wrap_id (n := ((k - 2 * A : Nat) : Int)) (by omega) (by omega)
      have hlt : k - 2 * A < c.inputs.length := by omega
      have hn : nameAt c A k = c.inputs[k - 2 * A] := by unfold nameAt; rw [if_neg c1, if_pos c2, List.getElem?_eq_getElem hlt]; rfl
      rw [hn]
      generalize k - 2 * A = j at *
      simp [ir88, w1, c1', hf, c2', hsub, w2, hlt]
    · have c2' : ¬ ((k : Int) < 2 * (A : Int) + (c.inputs.length : Int)) := by omega
      have hsub : (k : Int) - (2 * (A : Int) + (c.inputs.length : Int)) = ((k - (2 * A + c.inputs.length) : Nat) : Int) := by omega
      have w2 := wrap_id (n := ((k - (2 * A + c.inputs.length) : Nat) : Int)) (by omega) (by omega)
      have hlt : k - (2 * A + c.inputs.length) < c.signals.length := by omega
      have hn : nameAt c A k = c.signals[k - (2 * A + c.inputs.length)].name := by unfold nameAt; rw [if_neg c1, if_neg c2, List.getElem?_eq_getElem hlt]; rfl
      rw [hn]
      generalize k - (2 * A + c.inputs.length) = j at *
      simp [ir88, w1, c1', hf, c2', hsub, w2, hlt]
end Go.Proofs.YtopjiafdimoeiaaGreat
