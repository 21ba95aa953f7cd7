/- Gates: errors, by the program. -/
import Derived.Test.YtopjiafdimoeiaaCt9
namespace Go.Proofs.Ytopjiafdimoeiaa
open Go Go.Am Go.Proofs
set_option maxRecDepth 100000
/-- Is a line a gate that is not before the gate i? -/
def lateF (c : Ct) (F i : Nat) (n : Int) : Bool := decide ((i : Int) ≤ n - F) && ((c.signals[(n - F).toNat]?).map fun x => decide (x.kind = 0)).getD false
/-- What lies behind the program's check when a gate is looked at. -/
abbrev gT (x : Sg) (i : Nat) (b : Bool) (r : H) : H := ⟨0, .arr 0 []⟩ :: ⟨0, .arr 0 []⟩ :: ⟨0, .box x.row⟩ :: ⟨0, .box [.bptr 3 0]⟩ :: ⟨0, .box [num i]⟩ :: ⟨0, .arr 0 []⟩ :: ⟨0, .arr 0 []⟩ :: ⟨0, .box x.row⟩ :: ⟨0, .box [.bool b]⟩ :: r
abbrev eT (x : Sg) : H := [⟨0, .box x.on.cells⟩, ⟨0, .box [.fn 154 [] [.bptr 7 0, .bptr 12 0, .bptr 8 0]]⟩, ⟨0, .box [.fn 186 [] [.bptr 14 0, .bptr 15 0]]⟩]
abbrev gB (c : Ct) (l : List (Txt × Int)) (x : Sg) (i : Nat) (b : Bool) : H := hX c l (gT x i b (eT x))
theorem ev154 {c : Ct} {A : Nat} (h : Mid c A) (l : List (Txt × Int)) (x : Sg) (i : Nat) (b : Bool) (n : Int) (r : H) (hn : 0 ≤ n ∧ n < (countN c A : Nat)) (hr : ∀ b, calm (gB c l x i b ++ r)) : ev pg (.call (.fn 154 [] [.bptr 7 0, .bptr 12 0, .bptr 8 0]) [num n] (gB c l x i b ++ r)) = some { v := .tup [], st := ⟨[], gB c l x i (b || lateF c (firstN c A) i n) ++ r⟩ } := by
  have hf := ev155 h
  obtain ⟨hA, h1, h2, h3, h4⟩ := h
  obtain ⟨n, rfl⟩ : ∃ k : Nat, n = k := ⟨n.toNat, by omega⟩
  have hnc : n < 2 * A + c.inputs.length + c.signals.length := by have := hn.2; unfold countN at this; omega
  have hck : ∀ b, cutK (16 + r.length) (gB c l x i b ++ r) = gB c l x i b ++ r := fun b => by
    have := calm_cutK (hr b)
    rw [show (gB c l x i b ++ r : H).length = 16 + r.length by simp; omega] at this
    exact this
  have hlen : r.length + 1 + 1 + 1 + 1 + 1 + 1 + 1 + 1 + 1 + 1 + 1 + 1 + 1 + 1 + 1 + 1 = 16 + r.length := by omega
  have w1 := wrap_id (n := (n : Int) - (2 * (A : Int) + (c.inputs.length : Int))) (by omega) (by omega)
  have hl16 : (gB c l x i b ++ r : H).length = 16 + r.length := by simp; omega
  rw [ev_call, pg154]
  have hlen : r.length + 1 + 1 + 1 + 1 + 1 + 1 + 1 + 1 + 1 + 1 + 1 + 1 + 1 + 1 + 1 + 1 = 16 + r.length := by omega
  cases b with
  | true =>
    have hck := hck true
    simp only [Bool.true_or]
    simp [-cutK, ir154, hf, w1, hlen]
    exact hck
  | false =>
    by_cases hge : (i : Int) ≤ (n : Int) - (2 * (A : Int) + (c.inputs.length : Int))
    · obtain ⟨k, hk⟩ : ∃ k : Nat, (n : Int) - (2 * (A : Int) + (c.inputs.length : Int)) = k := ⟨((n : Int) - (2 * (A : Int) + (c.inputs.length : Int))).toNat, by omega⟩
      have hkl : k < c.signals.length := by omega
      have hik : (i : Int) ≤ (k : Int) := by omega
      have hL : lateF c (firstN c A) i n = (c.signals[k].kind == 0) := by
        unfold lateF
        rw [show (n : Int) - ((firstN c A : Nat) : Int) = k by unfold firstN; omega]
        simp only [Int.toNat_natCast, List.getElem?_eq_getElem hkl, decide_eq_true hik]
        rfl
      rw [hL, Bool.false_or]
      rw [hk] at w1
      have hck := hck (c.signals[k].kind == 0)
      simp [-cutK, ir154, hf, hk, w1, hlen, hik, hkl]
      exact hck
    · have hL : lateF c (firstN c A) i n = false := by
        unfold lateF
        rw [decide_eq_false (by unfold firstN; push_cast; omega), Bool.false_and]
      rw [hL]
      have hck := hck false
      simp [-cutK, ir154, hf, w1, hlen, hge]
      exact hck
theorem calm_gB (c : Ct) (l : List (Txt × Int)) (x : Sg) (i : Nat) (b : Bool) : calm (gB c l x i b) := by
  simp [calm, scrubO]
theorem ev153 {c : Ct} {A : Nat} (h : Mid c A) (l : List (Txt × Int)) (x : Sg) (i : Nat) (hx : x.on.nodes ≤ 256) (hv : x.on.err (countN c A : Nat) = 0) : ev pg (.call (.fn 153 [] []) [x.on.v, .fn 154 [] [.bptr 7 0, .bptr 12 0, .bptr 8 0]] (hX c l (gT x i false []))) = some { v := .tup [], st := ⟨[], hX c l (gT x i (x.on.anyV (lateF c (firstN c A) i)) [])⟩ } := by
  have hY : Eac 14 (countN c A : Nat) (lateF c (firstN c A) i) [.bptr 7 0, .bptr 12 0, .bptr 8 0] (gB c l x i) := ⟨fun b => rfl, fun b => rfl, fun b => rfl, fun b n r hn hr => ev154 h l x i b n r hn hr, rfl⟩
  have h186 := ev186 hY x.on false [] hx hv (fun b => by rw [List.append_nil]; exact calm_gB c l x i b)
  rw [List.append_nil, List.append_nil, Bool.false_or] at h186
  generalize x.on.anyV (lateF c (firstN c A) i) = B at *
  rw [ev_call, pg153]
  simp [ir153, h186]
end Go.Proofs.Ytopjiafdimoeiaa
