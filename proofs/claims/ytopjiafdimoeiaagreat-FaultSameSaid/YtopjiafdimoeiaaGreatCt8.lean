/- Controls: errors, by the reference. -/
import Derived.Test.YtopjiafdimoeiaaGreatCt7
namespace Go.Proofs.YtopjiafdimoeiaaGreat
open Go Go.Am Go.Proofs
set_option maxRecDepth 100000
def sigE (c : Ct) (A : Nat) (K : List Txt) (i : Nat) (x : Sg) : Int :=
  if nameE K x.name = 0 then
    if x.kind < 0 ∨ 3 ≤ x.kind then 1
    else if x.on.check (countN c A) = 0 then
      if x.kind = 1 ∧ x.off.check (countN c A) ≠ 0 then x.off.check (countN c A)
      else if x.kind = 0 ∧ lateGo x.on (firstN c A) i (c.signals.drop i) = true then 9
      else if x.kind = 2 ∧ (x.delay < 1 ∨ 1000000 < x.delay) then 2
      else if (x.kind ≠ 1 ∧ (x.off.zero = false ∨ x.init = true)) ∨ (x.kind ≠ 2 ∧ x.delay ≠ 0) then 3 else 0
    else x.on.check (countN c A)
  else nameE K x.name
theorem nameAt_sig (c : Ct) (A i : Nat) (hi : i < c.signals.length) : nameAt c A (firstN c A + i) = c.signals[i].name := by
  unfold nameAt
  rw [if_neg (by unfold firstN; omega), if_neg (by unfold firstN; omega)]
  rw [show firstN c A + i - (2 * A + c.inputs.length) = i by unfold firstN; omega, List.getElem?_eq_getElem hi]
  rfl
theorem check_light {x : Ex} {n : Int} (h : x.check n = 0) : x.light = true := by
  unfold Ex.check at h
  split at h
  · cases h
  · split at h
    · assumption
    · cases h
set_option maxHeartbeats 4000000 in
theorem ev72 {c : Ct} {A : Nat} (h : Mid c A) (i : Nat) (hi : i < c.signals.length) (hlen : c.signals[i].name.length < 2 ^ 62) : ev pg (.call (.fn 72 [] []) [c.v, num i] []) = some { v := num (sigE c A (namesTo c A (firstN c A + i)) i c.signals[i]), st := ⟨[], []⟩ } := by
  have hf := ev101 h
  have hc := ev67 h
  have hn := ev71 h (firstN c A + i) (by unfold firstN countN; omega) (by rw [nameAt_sig c A i hi]; exact hlen)
  rw [nameAt_sig c A i hi] at hn
  have hck := ev102 c.signals[i].on (countN c A : Nat)
  have hcf := ev102 c.signals[i].off (countN c A : Nat)
  have hl := ev103 h i hi
  have hz := ev104 c.signals[i].off
  obtain ⟨hA, h1, h2, h3, h4⟩ := h
  have wf := wrap_id (n := 2 * (A : Int) + (c.inputs.length : Int) + (i : Int)) (by omega) (by omega)
  unfold sigE
  generalize hK : namesTo c A (firstN c A + i) = K at *
  generalize hne : nameE K c.signals[i].name = ne at *
  generalize hoe : c.signals[i].on.check (countN c A : Nat) = oe at *
  generalize hfe : c.signals[i].off.check (countN c A : Nat) = fe at *
  generalize hle : lateGo c.signals[i].on (firstN c A) i (c.signals.drop i) = le at *
  generalize hze : c.signals[i].off.zero = ze at *
  simp at hn hck hcf
  rw [ev_call, pg72]
  by_cases e1 : ne = 0
  · rw [if_pos e1]
    by_cases e2 : c.signals[i].kind < 0
    · rw [if_pos (.inl e2)]
      simp [ev_draw1, exT, chkOk, ir72, hf, hi, wf, hn, e1, e2]
    by_cases e3 : 3 ≤ c.signals[i].kind
    · rw [if_pos (.inr e3)]
      simp [ev_draw1, exT, chkOk, ir72, hf, hi, wf, hn, e1, e2, e3]
    rw [if_neg (by omega)]
    by_cases e4 : oe = 0
    · rw [if_pos e4]
      have hl := hl (light_nodes (check_light (by rw [hoe]; exact e4))).1
      rcases (by omega : c.signals[i].kind = 0 ∨ c.signals[i].kind = 1 ∨ c.signals[i].kind = 2) with k0 | k0 | k0
      · have b0 : (c.signals[i].kind == 0) = true := by simpa using k0
        have b1 : (c.signals[i].kind == 1) = false := by simp [k0]
        have b2 : (c.signals[i].kind == 2) = false := by simp [k0]
        rw [if_neg (by omega)]
        cases le with
        | true =>
          rw [if_pos ⟨k0, rfl⟩]
          simp [ev_draw1, exT, chkOk, ir72, hf, hc, hi, wf, hn, hck, hl, e1, e2, e3, e4, b0, b1, b2]
        | false =>
          rw [if_neg (by simp), if_neg (by omega)]
          cases ze with
          | false =>
            rw [if_pos (.inl ⟨by omega, .inl rfl⟩)]
            simp [ev_draw1, exT, chkOk, ir72, hf, hc, hi, wf, hn, hck, hl, hz, e1, e2, e3, e4, b0, b1, b2]
          | true =>
            cases hin : c.signals[i].init with
            | true =>
              rw [if_pos (.inl ⟨by omega, .inr rfl⟩)]
              simp [ev_draw1, exT, chkOk, ir72, hf, hc, hi, wf, hn, hck, hl, hz, hin, e1, e2, e3, e4, b0, b1, b2]
            | false =>
              by_cases e5 : c.signals[i].delay = 0
              · rw [if_neg (by simp [e5])]
                simp [ev_draw1, exT, chkOk, ir72, hf, hc, hi, wf, hn, hck, hl, hz, hin, e1, e2, e3, e4, b0, b1, b2, e5]
              · rw [if_pos (.inr ⟨by omega, e5⟩)]
                simp [ev_draw1, exT, chkOk, ir72, hf, hc, hi, wf, hn, hck, hl, hz, hin, e1, e2, e3, e4, b0, b1, b2, e5]
      · have b0 : (c.signals[i].kind == 0) = false := by simp [k0]
        have b1 : (c.signals[i].kind == 1) = true := by simpa using k0
        have b2 : (c.signals[i].kind == 2) = false := by simp [k0]
        by_cases e6 : fe = 0
        · rw [if_neg (by omega), if_neg (by omega), if_neg (by omega)]
          by_cases e5 : c.signals[i].delay = 0
          · rw [if_neg (by simp [e5, k0])]
            simp [ev_draw1, exT, chkOk, ir72, hf, hc, hi, wf, hn, hck, hcf, e1, e2, e3, e4, b0, b1, b2, e5, e6]
          · rw [if_pos (.inr ⟨by omega, e5⟩)]
            simp [ev_draw1, exT, chkOk, ir72, hf, hc, hi, wf, hn, hck, hcf, e1, e2, e3, e4, b0, b1, b2, e5, e6]
        · rw [if_pos ⟨k0, e6⟩]
          simp [ev_draw1, exT, chkOk, ir72, hf, hc, hi, wf, hn, hck, hcf, e1, e2, e3, e4, b1, b2, e6]
      · have b0 : (c.signals[i].kind == 0) = false := by simp [k0]
        have b1 : (c.signals[i].kind == 1) = false := by simp [k0]
        have b2 : (c.signals[i].kind == 2) = true := by simpa using k0
        rw [if_neg (by omega), if_neg (by omega)]
        by_cases e7 : c.signals[i].delay < 1
        · rw [if_pos ⟨k0, .inl e7⟩]
          simp [ev_draw1, exT, chkOk, ir72, hf, hc, hi, wf, hn, hck, e1, e2, e3, e4, b0, b1, b2, e7]
        by_cases e8 : 1000000 < c.signals[i].delay
        · rw [if_pos ⟨k0, .inr e8⟩]
          simp [ev_draw1, exT, chkOk, ir72, hf, hc, hi, wf, hn, hck, e1, e2, e3, e4, b0, b1, b2, e7, e8]
        rw [if_neg (by omega)]
        cases ze with
        | false =>
          rw [if_pos (.inl ⟨by omega, .inl rfl⟩)]
          simp [ev_draw1, exT, chkOk, ir72, hf, hc, hi, wf, hn, hck, hz, e1, e2, e3, e4, b0, b1, b2, e7, e8]
        | true =>
          cases hin : c.signals[i].init with
          | true =>
            rw [if_pos (.inl ⟨by omega, .inr rfl⟩)]
            simp [ev_draw1, exT, chkOk, ir72, hf, hc, hi, wf, hn, hck, hz, hin, e1, e2, e3, e4, b0, b1, b2, e7, e8]
          | false =>
            rw [if_neg (by simp [k0])]
            simp [ev_draw1, exT, chkOk, ir72, hf, hc, hi, wf, hn, hck, hz, hin, e1, e2, e3, e4, b0, b1, b2, e7, e8]
    · rw [if_neg e4]
      simp [ev_draw1, exT, chkOk, ir72, hf, hc, hi, wf, hn, hck, e1, e2, e3, e4]
  · rw [if_neg e1]
    simp [ev_draw1, exT, chkOk, ir72, hf, hi, wf, hn, e1]
end Go.Proofs.YtopjiafdimoeiaaGreat
