/- States that are carried over, by the reference. The law of states that are carried over holds of Am. -/
import Derived.Test.YtopjiafdimoeiaaGreatSa3
import Derived.Test.YtopjiafdimoeiaaGreatZ3
import Derived.Test.YtopjiafdimoeiaaGreatZ8
/- States that are carried over, by the reference. -/
namespace Go.Proofs.YtopjiafdimoeiaaGreat
open Go Go.Am Go.Proofs
set_option maxRecDepth 100000
abbrev five (s : Ste) : H := [⟨0, .arr 1 (s.ends.map nrow)⟩, ⟨0, .arr 1 (s.valves.map brow)⟩, ⟨0, .arr 1 (s.inputs.map brow)⟩, ⟨0, .arr 1 (s.values.map brow)⟩, ⟨0, .arr 1 (s.timers.map nrow)⟩]
abbrev fiveV (s : Ste) : V := .agg [.sl 0 0 1 0 s.ends.length, .sl 1 0 1 0 s.valves.length, .sl 2 0 1 0 s.inputs.length, .sl 3 0 1 0 s.values.length, .sl 4 0 1 0 s.timers.length]
theorem ev47 (s : Ste) (hs : s.small) : ev pg (.call (.fn 47 [] []) [s.v] []) = some { v := fiveV s, st := ⟨[], five s⟩ } := by
  obtain ⟨h1, h2, h3, h4, h5⟩ := hs
  have g1 : s.ends.length * 8 ≤ 140737488355328 := by omega
  have g2 : s.valves.length ≤ 140737488355328 := by omega
  have g3 : s.inputs.length ≤ 140737488355328 := by omega
  have g4 : s.values.length ≤ 140737488355328 := by omega
  have g5 : s.timers.length * 8 ≤ 140737488355328 := by omega
  rw [ev_call, pg47]
  simp [ev_draw1, exT, chkOk, ir47, g1, g2, g3, g4, g5, moveVs, moveV, moveL, move1]
/-- At most two constant gates. -/
theorem w_two (c : Ct) (k i : Int) : (faultyF c k i).w.length ≤ 2 := by
  have hs : ∀ (v : Int) (x : Fs), (stepV c k i c.act.toNat v x).w.length ≤ x.w.length + 1 := by
    intro v x
    unfold stepV
    split <;> simp
  unfold faultyF
  have h1 := hs 1 (stepV c k i c.act.toNat 0 (startF c k i c.act.toNat))
  have h2 := hs 0 (startF c k i c.act.toNat)
  have h3 : (startF c k i c.act.toNat).w.length = 0 := rfl
  omega
abbrev o0 : Ob := ⟨0, .arr 0 []⟩
abbrev nil5 (b : Nat) : List V := [.sl b 0 0 0 0, .sl (b + 1) 0 0 0 0, .sl (b + 2) 0 0 0 0, .sl (b + 3) 0 0 0 0, .sl (b + 4) 0 0 0 0]
abbrev bx24 (s : Ste) (j : Nat) : List V := [.sl 19 0 1 0 s.ends.length, .sl 20 0 1 0 s.valves.length, .sl 21 0 1 0 s.inputs.length, .sl 22 j 1 0 (s.values.length + j), .sl 23 j 1 0 (s.timers.length + j)]
abbrev h15 (c : Ct) (k i : Int) (s : Ste) (D F : Ct) (w : List Bool) (j : Nat) : H := [⟨0, .box c.cells⟩, ⟨0, .box [num k, num i]⟩, ⟨0, .box s.cells⟩, o0, o0, o0, o0, o0, ⟨0, .box (nil5 3)⟩, o0, o0, o0, o0, ⟨0, .box D.cells⟩, o0, o0, o0, o0, ⟨0, .box F.cells⟩,
  ⟨0, .arr 1 (s.ends.map nrow)⟩, ⟨0, .arr 1 (s.valves.map brow)⟩, ⟨0, .arr 1 (s.inputs.map brow)⟩, ⟨j, .arr 1 ((s.values ++ w.take j).map brow)⟩, ⟨j, .arr 1 ((s.timers ++ List.replicate j 0).map nrow)⟩, o0, o0, o0, o0, o0, ⟨0, .box (bx24 s j)⟩]
def T15 (w : List Bool) (j : Nat) : Tm := List.replicate 6 none ++ [some (.bptr 8 0)] ++ List.replicate 6 none ++ [some (bools w), some (.bptr 29 0), some (num j)] ++ List.replicate 53 none
theorem lp15 (c : Ct) (k i : Int) (s : Ste) (hs : s.small) (D F : Ct) (w : List Bool) (hw : w.length ≤ 2) {st : St} (h0 : At (T15 w 0) (h15 c k i s D F w 0) st) : ∃ r, ev pg (.code (.going 30 L15_0) st) = some r ∧ EndsAs (.exit 0) (T15 w w.length) (h15 c k i s D F w w.length) r := by
  obtain ⟨g1, g2, g3, g4, g5⟩ := hs
  refine loop_pic w.length (T15 w) (h15 c k i s D F w) _ ?_ ?_ h0
  · intro j f hf hk
    have hk' : (j : Int) < w.length := by omega
    have wk := wrap_id (n := (j : Int) + 1) (by omega) (by omega)
    have ht : w.take (j + 1) = w.take j ++ [w[j]] := List.take_succ_eq_append_getElem hk
    have hr : List.replicate (j + 1) (0 : Int) = List.replicate j 0 ++ [0] := by rw [List.replicate_succ']
    have hl1 : (s.values ++ w.take j).length = s.values.length + j := by rw [List.length_append, List.length_take]; omega
    have hl2 : (s.timers ++ List.replicate j (0 : Int)).length = s.timers.length + j := by simp
    have q1 : s.values.length + j + 1 ≤ 140737488355328 := by omega
    have q2 : (s.timers.length + j + 1) * 8 ≤ 140737488355328 := by omega
    unfold h15
    rw [ht, hr, ← List.append_assoc, ← List.append_assoc]
    generalize s.values ++ w.take j = A at *
    generalize s.timers ++ List.replicate j (0 : Int) = B at *
    have a1 : A.length + 1 ≤ 140737488355328 := by omega
    simp [T15, L15_0, hk, hk', wk, hl1, hl2, q1, q2, hf.ne]
    omega
  · intro f hf
    unfold h15
    rw [List.take_length]
    generalize s.values ++ w = A at *
    generalize s.timers ++ List.replicate w.length (0 : Int) = B at *
    simp [T15, L15_0, hf.ne]
def carS (c : Ct) (k i : Int) (s : Ste) : Ste := ⟨s.ends, s.valves, s.inputs, s.values ++ (faultyF c k i).w, s.timers ++ List.replicate (faultyF c k i).w.length 0⟩
def carE (c : Ct) (k i : Int) (s : Ste) : Int := if fltE c k i = 0 then (if stE c s = 0 then injE c k i else stE c s) else fltE c k i
def carD (c : Ct) (k i : Int) (s : Ste) : Ste := if carE c k i s = 0 then carS c k i s else zeroS
theorem ev15 (c : Ct) (hfew : c.small = true) (s : Ste) (hs : s.small) (k i : Int) : ev pg (.call (.fn 15 [] []) [c.v, fv k i, s.v] []) = some { v := .tup [(carD c k i s).v, num (carE c k i s)], st := ⟨[], []⟩ } := by
  have h31 := ev31 c hfew k i
  have h18 := ev18 c s hfew hs
  have h9 := ev9 c hfew k i
  have h32 := ev32 c hfew k i
  have h47 := ev47 s hs
  have hloop := fun D F => @lp15 c k i s hs D F _ (w_two c k i)
  have hw := w_two c k i
  rw [ev_call, pg15]
  unfold carD carE
  by_cases e1 : fltE c k i = 0
  · rw [if_pos e1]
    rw [e1] at h31
    have h32' := h32 e1
    by_cases e2 : stE c s = 0
    · rw [if_pos e2]
      rw [show (if c.check = 0 then fitE c s else c.check) = 0 from e2] at h18
      unfold carS
      generalize injD c k i = D at *
      generalize injE c k i = e at *
      generalize (faultyF c k i).d = F at *
      generalize (faultyF c k i).w = w at *
      by_cases e3 : e = 0
      · rw [if_pos e3]
        subst e3
        simp [ir15, ev_loop, h31, h18, h9, h32', h47]
        generalize hr : ev pg (.code (.going _ L15_0) _) = o
        obtain ⟨r, rfl, f, hf, rfl⟩ : ∃ r, o = some r ∧ _ := by rw [← hr]; exact hloop D F (by simp [T15])
        clear hr
        have hl1 : (s.values ++ w).length = s.values.length + w.length := List.length_append ..
        have hl2 : (s.timers ++ List.replicate w.length (0 : Int)).length = s.timers.length + w.length := by simp
        unfold h15
        rw [List.take_length]
        generalize s.values ++ w = A at *
        generalize s.timers ++ List.replicate w.length (0 : Int) = B at *
        simp [T15, hl1, hl2]
      · rw [if_neg e3]
        simp [ir15, h31, h18, h9, e3, zeroS]
    · rw [if_neg e2, if_neg e2]
      have h18' : ev pg (.call (.fn 18 [] []) [c.v, s.v] []) = some { v := num (stE c s), st := ⟨[], []⟩ } := h18
      generalize stE c s = e at *
      simp [ir15, h31, h18', e2, zeroS]
  · rw [if_neg e1, if_neg e1]
    generalize fltE c k i = e at *
    simp [ir15, h31, e1, zeroS]
theorem ev14 (c : Ct) (hfew : c.small = true) (s : Ste) (hs : s.small) (k i : Int) : ev pg (.call (.fn 14 [] []) [c.v, fv k i, s.v] []) = some { v := .tup [(carD c k i s).v, num (carE c k i s)], st := ⟨[], []⟩ } := by
  have h28 := ev28 c hfew k i
  have h41 := ev41 c s hfew hs
  have h8 := ev8 c hfew k i
  have h29 := ev29 c hfew k i
  have hw := w_two c k i
  rw [ev_call, pg14]
  unfold carD carE
  by_cases e1 : fltE c k i = 0
  · rw [if_pos e1]
    rw [e1] at h28
    have h29' := h29 e1
    by_cases e2 : stE c s = 0
    · rw [if_pos e2]
      rw [e2] at h41
      unfold carS
      generalize injD c k i = D at *
      generalize injE c k i = e at *
      generalize (faultyF c k i).d = F at *
      generalize (faultyF c k i).w = w at *
      by_cases e3 : e = 0
      · rw [if_pos e3]
        subst e3
        obtain ⟨g1, g2, g3, g4, g5⟩ := hs
        have c1 := ev42 s.ends g1
        have c2 := ev43 s.valves g2
        have c3 := ev43 s.inputs g3
        have c4 := ev44c [s.values, w] (by simp) (by simp) (by simp; omega)
        have c5 := ev45c [s.timers, List.replicate w.length 0] (by simp) (by simp) (by simp; omega)
        have c6 : ev pg (.call (.fn 46 [] []) [.imm [[.int .i64 0]], num w.length] []) = some { v := ints (List.replicate w.length 0), st := ⟨[], []⟩ } := ev46 w.length hw
        simp [llsB, llsI] at c4 c5
        simp [ev_draw1, exT, chkOk, ir14, h28, h41, h8, h29', c1, c2, c3, c4, c5, c6]
      · rw [if_neg e3]
        simp [ir14, h28, h41, h8, e3, zeroS]
    · rw [if_neg e2, if_neg e2]
      generalize stE c s = e at *
      simp [ir14, h28, h41, e2, zeroS]
  · rw [if_neg e1, if_neg e1]
    generalize fltE c k i = e at *
    simp [ir14, h28, e1, zeroS]
end Go.Proofs.YtopjiafdimoeiaaGreat
/- The law of states that are carried over holds of Am. -/
namespace Go.Proofs.YtopjiafdimoeiaaGreat
open Go Go.Am Go.Proofs
set_option maxRecDepth 100000
theorem carD_small {c : Ct} {s : Ste} (h : s.few = true) (k i : Int) : (carD c k i s).small := by
  obtain ⟨h1, h2, h3, h4, h5⟩ := fewS_parts h
  have hw := w_two c k i
  unfold carD
  split
  · unfold carS
    exact ⟨by simp only; omega, by simp only; omega, by simp only; omega, by simp only [List.length_append]; omega, by simp only [List.length_append, List.length_replicate]; omega⟩
  · exact ⟨by simp [zeroS], by simp [zeroS], by simp [zeroS], by simp [zeroS], by simp [zeroS]⟩
theorem ev4 (c : Ct) (k i : Int) (s : Ste) : ∃ r, ev pg (.call (.fn 4 [] []) [c.v, fv k i, s.v] []) = some r ∧ r.v = .bool true := by
  refine ⟨{ v := .bool true, st := ⟨[], []⟩ }, ?_, rfl⟩
  have h13 := ev13 c s
  have h7 := ev7
  rw [ev_call, pg4]
  by_cases hfew : (c.few && s.few) = true
  · rw [hfew] at h13
    simp only [Bool.and_eq_true] at hfew
    have hs := few_small hfew.1
    have h14 := ev14 c hs s (few_smallS hfew.2) k i
    have h15 := ev15 c hs s (few_smallS hfew.2) k i
    have h16 := ev16 (carD c k i s) (carD c k i s) (carD_small hfew.2 k i)
    have hsame : sameT (carD c k i s) (carD c k i s) = true := sameT_iff.2 rfl
    rw [hsame] at h16
    generalize carD c k i s = D at *
    generalize carE c k i s = e at *
    simp [ir4, h13, h7, h14, h15, h16]
  · have hb : (c.few && s.few) = false := by simpa using hfew
    rw [hb] at h13
    simp [ir4, h13, h7]
end Go.Proofs.YtopjiafdimoeiaaGreat
