/- Signals: errors, by the program. -/
import Derived.Test.YtopjiafdimoeiaaCp1
namespace Go.Proofs.Ytopjiafdimoeiaa
open Go Go.Am Go.Proofs
set_option maxRecDepth 100000
abbrev s3 (x : Sg) : H := [⟨0, .arr 0 []⟩, ⟨0, .arr 0 []⟩, ⟨0, .box x.row⟩]
theorem calm_s3 (c : Ct) (l : List (Txt × Int)) (x : Sg) : calm (hX c l (s3 x)) := by
  simp [calm, scrubO]
def gateP (c : Ct) (F i : Nat) (x : Sg) : Int := if x.on.anyV (lateF c F i) = true then 9 else if x.off.zero = false ∨ x.init = true ∨ x.delay ≠ 0 then 3 else 0
theorem ev124 {c : Ct} {A : Nat} (h : Mid c A) (l : List (Txt × Int)) (i : Nat) (hi : i < c.signals.length) (hx : c.signals[i].on.nodes ≤ 256) (hv : c.signals[i].on.err (countN c A : Nat) = 0) : ev pg (.call (.fn 124 [.bptr 3 0] []) [num i] (hX c l (s3 c.signals[i]))) = some { v := num (gateP c (firstN c A) i c.signals[i]), st := ⟨[], hX c l (s3 c.signals[i])⟩ } := by
  have h153 := ev153 h l c.signals[i] i hx hv
  have hz := ev156 c.signals[i].off
  have hck : cutK 7 (hX c l (s3 c.signals[i])) = hX c l (s3 c.signals[i]) := calm_cutK (calm_s3 c l c.signals[i])
  unfold gateP
  generalize hG : hX c l (s3 c.signals[i]) = G at *
  rw [← hG]
  generalize c.signals[i].on.anyV (lateF c (firstN c A) i) = B at *
  generalize c.signals[i].off.zero = ze at *
  rw [ev_call, pg124]
  cases B with
  | true =>
    simp [ir124, hi, h153]
  | false =>
    cases ze with
    | false =>
      simp [ir124, hi, h153, hz]
    | true =>
      cases hin : c.signals[i].init with
      | true =>
        simp [ir124, hi, h153, hz]
        simp [hin]
      | false =>
        by_cases hd : c.signals[i].delay = 0
        · simp [ir124, hi, h153, hz]
          simp [hin, hd]
        · simp [ir124, hi, h153, hz]
          simp [hin, hd]
def memP (c : Ct) (A : Nat) (x : Sg) : Int := if x.off.check (countN c A) = 0 then (if x.delay = 0 then 0 else 3) else x.off.check (countN c A)
theorem ev125 {c : Ct} {A : Nat} (h : Mid c A) (l : List (Txt × Int)) (i : Nat) (hi : i < c.signals.length) (hx : c.signals[i].off.light = true) : ev pg (.call (.fn 125 [.bptr 3 0] []) [num i] (hX c l (s3 c.signals[i]))) = some { v := num (memP c A c.signals[i]), st := ⟨[], hX c l (s3 c.signals[i])⟩ } := by
  have h133 := ev133 h
  have h157 := ev157 c.signals[i].off (countN c A : Nat) hx
  rw [ev_call, pg125]
  unfold memP
  generalize c.signals[i].off.check (countN c A) = e at *
  simp at h157
  by_cases he : e = 0
  · by_cases hd : c.signals[i].delay = 0
    · simp [ir125, ev_draw1, exT, chkOk, hi, h133, h157, he, hd]
    · simp [ir125, ev_draw1, exT, chkOk, hi, h133, h157, he, hd]
  · simp [ir125, ev_draw1, exT, chkOk, hi, h133, h157, he]
def timP (x : Sg) : Int := if x.delay < 1 ∨ 1000000 < x.delay then 2 else if x.off.zero = false ∨ x.init = true then 3 else 0
theorem ev126 (c : Ct) (l : List (Txt × Int)) (i : Nat) (hi : i < c.signals.length) : ev pg (.call (.fn 126 [.bptr 3 0] []) [num i] (hX c l (s3 c.signals[i]))) = some { v := num (timP c.signals[i]), st := ⟨[], hX c l (s3 c.signals[i])⟩ } := by
  have hz := ev156 c.signals[i].off
  unfold timP
  generalize c.signals[i].off.zero = ze at *
  rw [ev_call, pg126]
  by_cases d1 : c.signals[i].delay < 1
  · simp [ir126, hi, d1]
  · by_cases d2 : 1000000 < c.signals[i].delay
    · simp [ir126, hi, d1, d2]
    · cases ze with
      | false => simp [ir126, hi, hz, d1, d2]
      | true =>
        cases hin : c.signals[i].init with
        | true =>
          simp [ir126, hi, hz, d1, d2]
          simp [hin]
        | false =>
          simp [ir126, hi, hz, d1, d2]
          simp [hin]
end Go.Proofs.Ytopjiafdimoeiaa
