/- Gates: errors, by the program. Signals: errors, by the program. -/
import Derived.Test.YtopjiafdimoeiaaGreatCt9
/- Gates: errors, by the program. -/
namespace Go.Proofs.YtopjiafdimoeiaaGreat
open Go Go.Am Go.Proofs
set_option maxRecDepth 100000
/-- Is a line a gate that is not before the gate i? -/
def lateF (c : Ct) (F i : Nat) (n : Int) : Bool := decide ((i : Int) ≤ n - F) && ((c.signals[(n - F).toNat]?).map fun x => decide (x.kind = 0)).getD false
/-- What lies behind the program's check when a gate is looked at. -/
abbrev gT (x : Sg) (i : Nat) (b : Bool) (r : H) : H := ⟨0, .arr 0 []⟩ :: ⟨0, .arr 0 []⟩ :: ⟨0, .box x.row⟩ :: ⟨0, .box [.bptr 3 0]⟩ :: ⟨0, .box [num i]⟩ :: ⟨0, .arr 0 []⟩ :: ⟨0, .arr 0 []⟩ :: ⟨0, .box x.row⟩ :: ⟨0, .box [.bool b]⟩ :: r
abbrev eT (x : Sg) : H := [⟨0, .box x.on.cells⟩, ⟨0, .box [.fn 114 [] [.bptr 7 0, .bptr 12 0, .bptr 8 0]]⟩, ⟨0, .box [.fn 128 [] [.bptr 14 0, .bptr 15 0]]⟩]
abbrev gB (c : Ct) (l : List (Txt × Int)) (x : Sg) (i : Nat) (b : Bool) : H := hX c l (gT x i b (eT x))
theorem ev114 {c : Ct} {A : Nat} (h : Mid c A) (l : List (Txt × Int)) (x : Sg) (i : Nat) (b : Bool) (n : Int) (r : H) (hn : 0 ≤ n ∧ n < (countN c A : Nat)) (hr : ∀ b, calm (gB c l x i b ++ r)) : ev pg (.call (.fn 114 [] [.bptr 7 0, .bptr 12 0, .bptr 8 0]) [num n] (gB c l x i b ++ r)) = some { v := .tup [], st := ⟨[], gB c l x i (b || lateF c (firstN c A) i n) ++ r⟩ } := by
  have hf := ev84 h
  obtain ⟨hA, h1, h2, h3, h4⟩ := h
  obtain ⟨n, rfl⟩ : ∃ k : Nat, n = k := ⟨n.toNat, by omega⟩
  have hnc : n < 2 * A + c.inputs.length + c.signals.length := by have := hn.2; unfold countN at this; omega
  have hck : ∀ b, cutK (16 + r.length) (gB c l x i b ++ r) = gB c l x i b ++ r := fun b => by
    have := calm_cutK (hr b)
    rw [show (gB c l x i b ++ r : H).length = 16 + r.length by simp; omega] at this
    exact this
  have hlen : r.length + 1 + 1 + 1 + 1 + 1 + 1 + 1 + 1 + 1 + 1 + 1 + 1 + 1 + 1 + 1 + 1 = 16 + r.length := by omega
  have w1 := wrap_id (n := (n : Int) - (2 * (A : Int) + (c.inputs.length : Int))) (by omega) (by omega)
  have hl16 : (gB c l x i b ++ r : H).length = 16 + r.length := by simp; omega
  rw [ev_call, pg114]
  have hlen : r.length + 1 + 1 + 1 + 1 + 1 + 1 + 1 + 1 + 1 + 1 + 1 + 1 + 1 + 1 + 1 + 1 = 16 + r.length := by omega
  cases b with
  | true =>
    have hck := hck true
    simp only [Bool.true_or]
    simp [-cutK, ir114, hf, w1, hlen]
    exact hck
  | false =>
    by_cases hge : (i : Int) ≤ (n : Int) - (2 * (A : Int) + (c.inputs.length : Int))
    · obtain ⟨k, hk⟩ : ∃ k : Nat, (n : Int) - (2 * (A : Int) + (c.inputs.length : Int)) = k := ⟨((n : Int) - (2 * (A : Int) + (c.inputs.length : Int))).toNat, by omega⟩
      have hkl : k < c.signals.length := by omega
      have hik : (i : Int) ≤ (k : Int) := by omega
      have hL : lateF c (firstN c A) i n = (c.signals[k].kind == 0) := by
        unfold lateF
        rw [show (n : Int) - ((firstN c A : Nat) : Int) = k by unfold firstN; omega]
        simp only [Int.toNat_natCast, List.getElem?_eq_getElem hkl, decide_eq_true hik]
        rfl
      rw [hL, Bool.false_or]
      rw [hk] at w1
      have hck := hck (c.signals[k].kind == 0)
      simp [-cutK, ir114, hf, hk, w1, hlen, hik, hkl]
      exact hck
    · have hL : lateF c (firstN c A) i n = false := by
        unfold lateF
        rw [decide_eq_false (by unfold firstN; push_cast; omega), Bool.false_and]
      rw [hL]
      have hck := hck false
      simp [-cutK, ir114, hf, w1, hlen, hge]
      exact hck
theorem calm_gB (c : Ct) (l : List (Txt × Int)) (x : Sg) (i : Nat) (b : Bool) : calm (gB c l x i b) := by
  simp [calm, scrubO]
theorem ev113 {c : Ct} {A : Nat} (h : Mid c A) (l : List (Txt × Int)) (x : Sg) (i : Nat) (hx : x.on.nodes ≤ 256) (hv : x.on.err (countN c A : Nat) = 0) : ev pg (.call (.fn 113 [] []) [x.on.v, .fn 114 [] [.bptr 7 0, .bptr 12 0, .bptr 8 0]] (hX c l (gT x i false []))) = some { v := .tup [], st := ⟨[], hX c l (gT x i (x.on.anyV (lateF c (firstN c A) i)) [])⟩ } := by
  have hY : Eac 14 (countN c A : Nat) (lateF c (firstN c A) i) [.bptr 7 0, .bptr 12 0, .bptr 8 0] (gB c l x i) := ⟨fun b => rfl, fun b => rfl, fun b => rfl, fun b n r hn hr => ev114 h l x i b n r hn hr, rfl⟩
  have h186 := ev128 hY x.on false [] hx hv (fun b => by rw [List.append_nil]; exact calm_gB c l x i b)
  rw [List.append_nil, List.append_nil, Bool.false_or] at h186
  generalize x.on.anyV (lateF c (firstN c A) i) = B at *
  rw [ev_call, pg113]
  simp [ir113, h186]
end Go.Proofs.YtopjiafdimoeiaaGreat
/- Signals: errors, by the program. -/
namespace Go.Proofs.YtopjiafdimoeiaaGreat
open Go Go.Am Go.Proofs
set_option maxRecDepth 100000
abbrev s3 (x : Sg) : H := [⟨0, .arr 0 []⟩, ⟨0, .arr 0 []⟩, ⟨0, .box x.row⟩]
theorem calm_s3 (c : Ct) (l : List (Txt × Int)) (x : Sg) : calm (hX c l (s3 x)) := by
  simp [calm, scrubO]
def gateP (c : Ct) (F i : Nat) (x : Sg) : Int := if x.on.anyV (lateF c F i) = true then 9 else if x.off.zero = false ∨ x.init = true ∨ x.delay ≠ 0 then 3 else 0
theorem ev90 {c : Ct} {A : Nat} (h : Mid c A) (l : List (Txt × Int)) (i : Nat) (hi : i < c.signals.length) (hx : c.signals[i].on.nodes ≤ 256) (hv : c.signals[i].on.err (countN c A : Nat) = 0) : ev pg (.call (.fn 90 [.bptr 3 0] []) [num i] (hX c l (s3 c.signals[i]))) = some { v := num (gateP c (firstN c A) i c.signals[i]), st := ⟨[], hX c l (s3 c.signals[i])⟩ } := by
  have h153 := ev113 h l c.signals[i] i hx hv
  have hz := ev115 c.signals[i].off
  have hck : cutK 7 (hX c l (s3 c.signals[i])) = hX c l (s3 c.signals[i]) := calm_cutK (calm_s3 c l c.signals[i])
  unfold gateP
  generalize hG : hX c l (s3 c.signals[i]) = G at *
  rw [← hG]
  generalize c.signals[i].on.anyV (lateF c (firstN c A) i) = B at *
  generalize c.signals[i].off.zero = ze at *
  rw [ev_call, pg90]
  cases B with
  | true =>
    simp [ir90, hi, h153]
  | false =>
    cases ze with
    | false =>
      simp [ir90, hi, h153, hz]
    | true =>
      cases hin : c.signals[i].init with
      | true =>
        simp [ir90, hi, h153, hz]
        simp [hin]
      | false =>
        by_cases hd : c.signals[i].delay = 0
        · simp [ir90, hi, h153, hz]
          simp [hin, hd]
        · simp [ir90, hi, h153, hz]
          simp [hin, hd]
def memP (c : Ct) (A : Nat) (x : Sg) : Int := if x.off.check (countN c A) = 0 then (if x.delay = 0 then 0 else 3) else x.off.check (countN c A)
theorem ev91 {c : Ct} {A : Nat} (h : Mid c A) (l : List (Txt × Int)) (i : Nat) (hi : i < c.signals.length) (hx : c.signals[i].off.light = true) : ev pg (.call (.fn 91 [.bptr 3 0] []) [num i] (hX c l (s3 c.signals[i]))) = some { v := num (memP c A c.signals[i]), st := ⟨[], hX c l (s3 c.signals[i])⟩ } := by
  have h133 := ev51 h
  have h157 := ev111 c.signals[i].off (countN c A : Nat) hx
  rw [ev_call, pg91]
  unfold memP
  generalize c.signals[i].off.check (countN c A) = e at *
  simp at h157
  by_cases he : e = 0
  · by_cases hd : c.signals[i].delay = 0
    · simp [ir91, ev_draw1, exT, chkOk, hi, h133, h157, he, hd]
    · simp [ir91, ev_draw1, exT, chkOk, hi, h133, h157, he, hd]
  · simp [ir91, ev_draw1, exT, chkOk, hi, h133, h157, he]
def timP (x : Sg) : Int := if x.delay < 1 ∨ 1000000 < x.delay then 2 else if x.off.zero = false ∨ x.init = true then 3 else 0
theorem ev92 (c : Ct) (l : List (Txt × Int)) (i : Nat) (hi : i < c.signals.length) : ev pg (.call (.fn 92 [.bptr 3 0] []) [num i] (hX c l (s3 c.signals[i]))) = some { v := num (timP c.signals[i]), st := ⟨[], hX c l (s3 c.signals[i])⟩ } := by
  have hz := ev115 c.signals[i].off
  unfold timP
  generalize c.signals[i].off.zero = ze at *
  rw [ev_call, pg92]
  by_cases d1 : c.signals[i].delay < 1
  · simp [ir92, hi, d1]
  · by_cases d2 : 1000000 < c.signals[i].delay
    · simp [ir92, hi, d1, d2]
    · cases ze with
      | false => simp [ir92, hi, hz, d1, d2]
      | true =>
        cases hin : c.signals[i].init with
        | true =>
          simp [ir92, hi, hz, d1, d2]
          simp [hin]
        | false =>
          simp [ir92, hi, hz, d1, d2]
          simp [hin]
end Go.Proofs.YtopjiafdimoeiaaGreat
