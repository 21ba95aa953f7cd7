/- The laws of lists and of texts of faults hold of Am. -/
import Derived.Test.YtopjiafdimoeiaaAw4
namespace Go.Proofs.Ytopjiafdimoeiaa
open Go Go.Am Go.Proofs
set_option maxRecDepth 100000
theorem touchR_len (c : Ct) (hfew : c.small = true) (k i : Int) : (touchR c k i).length ≤ 1032 := by
  unfold touchR
  by_cases h : fltE c k i = 0
  · obtain ⟨hc, _⟩ := flt_parts h
    have hM := mid_check hc hfew
    rw [if_pos h]
    unfold touchL
    rw [List.length_append]
    have h1 := selL_len (touchF c.signals k i) (firstN c c.act.toNat) c.signals.length
    have h2 := selL_len (chgF c k i) (countN c c.act.toNat) c.act.toNat
    have h3 := hM.sig
    have h4 := hM.hi
    omega
  · rw [if_neg h]
    exact Nat.zero_le _
theorem ev3 (c : Ct) (k i : Int) : ∃ r, ev pg (.call (.fn 3 [] []) [c.v, fv k i] []) = some r ∧ r.v = .bool true := by
  refine ⟨{ v := .bool true, st := ⟨[], []⟩ }, ?_, rfl⟩
  have h13 := ev13 c
  have h14 := ev14
  by_cases hfew : c.few = true
  · rw [hfew] at h13
    have hfew := few_small hfew
    have h15 := ev15 c hfew
    have h16 := ev16 c hfew
    have h17 := ev17 c hfew k i
    have h18 := ev18 c hfew k i
    have h19 := ev19 c hfew k i
    have h20 := ev20 c hfew k i
    have h21 := ev21 (allL c) (all_len c hfew)
    have h22 := ev22 (touchR c k i) (touchR_len c hfew k i)
    generalize allL c = L at *
    generalize touchR c k i = T at *
    generalize fltE c k i = e at *
    generalize c.check = e' at *
    rw [ev_call, pg3]
    simp [ev_draw1, exT, chkOk, ir3, h13, h14, h15, h16, h17, h18, h19, h20, h21, h22]
  · have hb : c.few = false := by simpa using hfew
    rw [hb] at h13
    rw [ev_call, pg3]
    simp [ir3, h13, h14]
theorem ev4 (c : Ct) (k i : Int) (t : Txt) : ∃ r, ev pg (.call (.fn 4 [] []) [c.v, fv k i, .str t] []) = some r ∧ r.v = .bool true := by
  refine ⟨{ v := .bool true, st := ⟨[], []⟩ }, ?_, rfl⟩
  have h13 := ev13 c
  have h14 := ev14
  by_cases hfew : c.few = true
  · rw [hfew] at h13
    by_cases hl : 8192 < t.length
    · have hl' : (8192 : Int) < (t.length : Int) := by omega
      rw [ev_call, pg4]
      simp [ir4, h13, h14, hl']
    · have hl' : ¬ ((8192 : Int) < (t.length : Int)) := by omega
      have hfew := few_small hfew
      have h23 := ev23 c hfew k i
      have h24 := ev24 c hfew k i
      have h25 := ev25 c hfew t
      have h26 := ev26 c hfew t
      generalize textR c k i = T at *
      generalize fltE c k i = e at *
      generalize parseV c t = p at *
      rw [ev_call, pg4]
      simp [ir4, h13, h14, hl', h23, h24, h25, h26]
  · have hb : c.few = false := by simpa using hfew
    rw [hb] at h13
    rw [ev_call, pg4]
    simp [ir4, h13, h14]
end Go.Proofs.Ytopjiafdimoeiaa
