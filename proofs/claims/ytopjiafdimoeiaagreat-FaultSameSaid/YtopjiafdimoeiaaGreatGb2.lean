/- A line that is stuck where it is: controls and states. -/
import Derived.Test.YtopjiafdimoeiaaGreatCa2
namespace Go.Proofs.YtopjiafdimoeiaaGreat
open Go Go.Am Go.Proofs
set_option maxRecDepth 100000
theorem sig_zero {c : Ct} (h : c.check = 0) : ∀ i x, c.signals[i]? = some x → sigE c c.act.toNat (namesTo c c.act.toNat (firstN c c.act.toNat + i)) i x = 0 := by
  have h2 : ctE c c.act.toNat = 0 := by
    unfold Ct.check at h
    split at h
    · cases h
    · split at h
      · cases h
      · exact h
  unfold ctE at h2
  split at h2
  · split at h2
    · rename_i hs
      intro i x hx
      have hil : i < c.signals.length := by
        rcases Nat.lt_or_ge i c.signals.length with h | h
        · exact h
        · rw [List.getElem?_eq_none h] at hx; cases hx
      have h3 := goE_zero hs i (by omega) (by omega)
      unfold sigF at h3
      rw [hx] at h3
      exact h3
    · rename_i h4; exact absurd h2 h4
  · rename_i h4; exact absurd h2 h4
theorem gatesIn_of {c : Ct} (h : c.check = 0) (hfew : c.small = true) : GatesIn c (firstN c c.act.toNat) (countN c c.act.toNat) := by
  have hR := rgt_check h hfew
  intro i x hx
  have hmem : x ∈ c.signals := List.mem_of_getElem? hx
  refine ⟨hR.on x hmem, fun h0 j y hij hy hk => ?_⟩
  have hs := sig_zero h i x hx
  cases hocc : x.on.occ (firstN c c.act.toNat + j : Nat) with
  | false => rfl
  | true =>
    exfalso
    have hl : lateGo x.on (firstN c c.act.toNat) i (c.signals.drop i) = true := by
      rw [lateGo_iff]
      refine ⟨j - i, y, ?_, hk, ?_⟩
      · rw [List.getElem?_drop, show i + (j - i) = j by omega]; exact hy
      · rw [show i + (j - i) = j by omega]; exact hocc
    unfold sigE at hs
    split at hs
    · split at hs
      · cases hs
      · split at hs
        · split at hs
          · rename_i h4; exact h4.2 hs
          · rw [if_pos ⟨h0, hl⟩] at hs
            cases hs
        · rename_i h4; exact h4 hs
    · rename_i h4; exact h4 hs
theorem shp_first {c : Ct} {s : Ste} (hS : Shp c s) : firstS s = firstN c c.act.toNat := by
  have h1 := hS.e
  have h2 := hS.i
  unfold firstS firstN
  omega
theorem shp_lines {c : Ct} {s : Ste} (hS : Shp c s) : (linesV s).length = countN c c.act.toNat := by
  have h1 := hS.e
  have h2 := hS.i
  have h3 := hS.v
  rw [linesV_len]
  unfold countN
  omega
/-- Behind the computing of gates a right state is right. -/
theorem gated_right {c : Ct} {s : Ste} (h : stE c s = 0) : stE c (gated c s) = 0 := by
  obtain ⟨hc, hS⟩ := stE_zero h
  have hlen := gated_len (c := c) s
  have hS' : Shp c (gated c s) := ⟨hS.e, hS.w, hS.i, by rw [hlen]; exact hS.v, hS.t⟩
  unfold stE at h ⊢
  rw [if_pos hc] at h ⊢
  unfold fitE at h ⊢
  rw [if_pos hS] at h
  rw [if_pos hS']
  have e1 : (gated c s).ends = s.ends := rfl
  have e2 : (gated c s).timers = s.timers := rfl
  rw [e1, e2]
  by_cases hb : s.ends.any (badL 4) = true ∨ s.timers.any (badL 3) = true
  · rw [if_pos hb] at h; cases h
  · rw [if_neg hb] at h ⊢
    by_cases ha : anyF (tmF c s) s.timers.length = true
    · rw [if_pos ha] at h; cases h
    · have hno : ∀ k, k < s.timers.length → tmF c s k = false := fun k hk => by
        cases hq : tmF c s k with
        | false => rfl
        | true => exact absurd (anyF_of hk hq) ha
      rw [if_neg]
      rw [anyF_not fun k hk => ?_]
      · simp
      · have hq := hno k hk
        unfold tmF at hq ⊢
        rw [e2]
        have hkc : k < c.signals.length := by have := hS.t; omega
        rw [List.getElem?_eq_getElem hkc] at hq ⊢
        simp only [Option.map_some, Option.getD_some] at hq ⊢
        by_cases hk2 : c.signals[k].kind = 2
        · have hv : (gated c s).values[k]? = s.values[k]? := by
            unfold gated
            simp only
            rw [List.getElem?_drop, gatesL]
            have := gatesTo_keep (c := c) (F := firstS s) (v := firstS s + k) (k := 0) (L := linesV s) (fun j _ => by
              by_cases hjk : j = k
              · refine .inr fun x hx => ?_
                rw [hjk, List.getElem?_eq_getElem hkc] at hx
                cases hx
                omega
              · exact .inl (by omega)) c.signals.length
            rw [Nat.zero_add] at this
            rw [this, gatesTo, ← List.getElem?_drop, linesV_drop]
          rw [hv]
          exact hq
        · unfold tmB at hq ⊢
          simp [hk2] at hq ⊢
          exact hq
/-! ### the faulty control -/
theorem step_grow (c : Ct) (k i : Int) (A : Nat) (v : Int) (s : Fs) : ∃ (e : List Sg) (u : List Bool), (stepV c k i A v s).d.signals = s.d.signals ++ e ∧ (stepV c k i A v s).w = s.w ++ u ∧ e.length = u.length ∧ ∀ x ∈ e, x.kind = 0 := by
  unfold stepV
  by_cases h : needV c k i v A = true
  · simp only [if_pos h]
    exact ⟨[gateOf (freshT s.K (stuckT v)) v], [v == 1], rfl, rfl, rfl, fun x hx => by simp at hx; rw [hx]⟩
  · simp only [if_neg h]
    exact ⟨[], [], by simp, by simp, rfl, fun x hx => by simp at hx⟩
theorem faulty_grow (c : Ct) (k i : Int) : ∃ e : List Sg, (faultyF c k i).d.signals = c.signals.map (replS (lineI k i) (lineV k)) ++ e ∧ e.length = (faultyF c k i).w.length ∧ ∀ x ∈ e, x.kind = 0 := by
  obtain ⟨e1, u1, a1, b1, l1, k1⟩ := step_grow c k i c.act.toNat 0 (startF c k i c.act.toNat)
  obtain ⟨e2, u2, a2, b2, l2, k2⟩ := step_grow c k i c.act.toNat 1 (stepV c k i c.act.toNat 0 (startF c k i c.act.toNat))
  refine ⟨e1 ++ e2, ?_, ?_, ?_⟩
  · unfold faultyF
    rw [a2, a1, List.append_assoc]
    rfl
  · unfold faultyF
    rw [b2, b1]
    have : (startF c k i c.act.toNat).w = [] := rfl
    rw [this]
    simp [l1, l2]
  · intro x hx
    rcases List.mem_append.1 hx with h | h
    · exact k1 x h
    · exact k2 x h
theorem stE_of {c : Ct} {s : Ste} (hc : c.check = 0) (hS : Shp c s) (h1 : s.ends.any (badL 4) = false) (h2 : s.timers.any (badL 3) = false) (h3 : ∀ k, k < s.timers.length → tmF c s k = false) : stE c s = 0 := by
  unfold stE fitE
  rw [if_pos hc, if_pos hS, h1, h2, anyF_not h3]
  simp
theorem stE_parts {c : Ct} {s : Ste} (h : stE c s = 0) : s.ends.any (badL 4) = false ∧ s.timers.any (badL 3) = false ∧ ∀ k, k < s.timers.length → tmF c s k = false := by
  obtain ⟨hc, hS⟩ := stE_zero h
  unfold stE fitE at h
  rw [if_pos hc, if_pos hS] at h
  by_cases hb : s.ends.any (badL 4) = true ∨ s.timers.any (badL 3) = true
  · rw [if_pos hb] at h; cases h
  · rw [if_neg hb] at h
    refine ⟨by simpa using fun e => hb (.inl e), by simpa using fun e => hb (.inr e), fun k hk => ?_⟩
    cases hq : tmF c s k with
    | false => rfl
    | true => rw [if_pos (anyF_of hk hq)] at h; cases h
/-- A right state that is carried over is right. -/
theorem carried_right {c : Ct} {k i : Int} {s : Ste} (h : stE c s = 0) (hd : (faultyF c k i).d.check = 0) : stE (faultyF c k i).d (carS c k i s) = 0 := by
  obtain ⟨hc, hS⟩ := stE_zero h
  obtain ⟨p1, p2, p3⟩ := stE_parts h
  obtain ⟨e, he, hel, hek⟩ := faulty_grow c k i
  have hlen : (faultyF c k i).d.signals.length = c.signals.length + (faultyF c k i).w.length := by rw [he, List.length_append, List.length_map, hel]
  refine stE_of hd ⟨hS.e, hS.w, hS.i, ?_, ?_⟩ p1 ?_ fun j hj => ?_
  · unfold carS
    simp only [List.length_append]
    rw [hlen, hS.v]
  · unfold carS
    simp only [List.length_append, List.length_replicate]
    rw [hlen, hS.t]
  · unfold carS
    simp only [List.any_append, p2, Bool.false_or]
    rw [List.any_eq_false]
    intro x hx
    rw [List.mem_replicate] at hx
    rw [hx.2]
    decide
  · unfold carS at hj ⊢
    simp only [List.length_append, List.length_replicate] at hj
    unfold tmF
    simp only
    have hv := hS.v
    have ht := hS.t
    by_cases hjn : j < s.timers.length
    · have hq := p3 j hjn
      unfold tmF at hq
      have hjc : j < c.signals.length := by omega
      rw [List.getElem?_eq_getElem hjc] at hq
      rw [he, List.getElem?_append_left (by rw [List.length_map]; exact hjc), List.getElem?_map, List.getElem?_eq_getElem hjc, List.getElem?_append_left (by omega), List.getElem?_append_left hjn]
      exact hq
    · rw [he, List.getElem?_append_right (by rw [List.length_map]; omega), List.length_map]
      have hje : j - c.signals.length < e.length := by omega
      rw [List.getElem?_eq_getElem hje]
      have hk0 := hek _ (List.getElem_mem hje)
      rw [show (s.timers ++ List.replicate (faultyF c k i).w.length (0 : Int))[j]? = (List.replicate (faultyF c k i).w.length (0 : Int))[j - s.timers.length]? from List.getElem?_append_right (by omega)]
      have hjr : j - s.timers.length < (List.replicate (faultyF c k i).w.length (0 : Int)).length := by rw [List.length_replicate]; omega
      rw [List.getElem?_eq_getElem hjr, List.getElem_replicate]
      simp [tmB, hk0]
/-- The values of the gates stay. -/
theorem stuck_same {c : Ct} (hfew : c.small = true) {k : Int} {line : Nat} {s : Ste} (h : stE c s = 0) (hd : (faultyF c k line).d.check = 0) (hk : k = 2 ∨ k = 3) (hon : ((linesV (gated c s))[line]?) = some (k == 2)) :
    (gated (faultyF c k line).d (carS c k line (gated c s))).values.take (gated c s).values.length = (gated c s).values := by
  obtain ⟨hc, hS⟩ := stE_zero h
  have hg := gatesIn_of hc hfew
  have hF := shp_first hS
  have hN := shp_lines hS
  have hlen := gated_len (c := c) s
  have hsv := hS.v
  obtain ⟨e, he, hel, hek⟩ := faulty_grow c k line
  have hLlen : (gatesL c s).length = firstS s + c.signals.length := by
    rw [gatesL, gatesTo_len, hN, hF]
  have hx : linesV (carS c k line (gated c s)) = gatesL c s ++ (faultyF c k line).w := by
    rw [← gated_lines]
    unfold linesV carS
    simp only [List.append_assoc]
  have hFx : firstS (carS c k line (gated c s)) = firstS s := rfl
  rw [gated_lines] at hon
  have hline : lineI k line = line := by
    unfold lineI
    rw [if_pos hk]
  have hlv : (lineV k == 1) = (k == 2) := by
    unfold lineV
    rcases hk with rfl | rfl <;> rfl
  have hfix := gates_same (c := c) (d := (faultyF c k line).d) (F := firstS s) (L := gatesL c s) (w := (faultyF c k line).w) hLlen (fun j y hj hy h0 M hM => by
    rw [faulty_at c k line j hj] at hy
    cases hy
    have hcj := List.getElem?_eq_getElem hj
    have h0' : c.signals[j].kind = 0 := h0
    have herr := (hg j _ hcj).1
    have hgf := gates_fix (L := linesV s) (F := firstS s) (by rw [hF]; exact hg) hcj h0' (by rw [hN, hF]; unfold firstN countN; omega)
    show (gatesL c s)[firstS s + j]? = some ((c.signals[j].on.repl (lineI k line) (lineV k)).holds M)
    rw [hline, repl_holds (N := countN c c.act.toNat) (b := k == 2) (by
      have := congrArg (fun l => l[line]?) hM
      rw [List.getElem?_take] at this
      by_cases hl : line < (gatesL c s).length
      · rw [if_pos hl] at this; rw [this]; exact hon
      · rw [List.getElem?_eq_none (by omega)] at hon; cases hon) hlv _ herr, holds_take herr]
    rw [gatesL, gatesTo_len, hN] at hM
    rw [hM]
    exact hgf) (faultyF c k line).d.signals.length
  rw [← hx] at hfix
  unfold gated at hlen ⊢
  simp only at hlen ⊢
  rw [hlen]
  have hT : gatesL (faultyF c k line).d (carS c k line (gated c s)) = gatesTo (faultyF c k line).d (firstS s) (faultyF c k line).d.signals.length (linesV (carS c k line (gated c s))) := rfl
  have hG : (⟨s.ends, s.valves, s.inputs, (gatesL c s).drop (firstS s), s.timers⟩ : Ste) = gated c s := rfl
  rw [hG, hFx, hT]
  generalize gatesTo (faultyF c k line).d (firstS s) (faultyF c k line).d.signals.length (linesV (carS c k line (gated c s))) = Z at *
  rw [← hfix, List.drop_take, hLlen]
  rw [show firstS s + c.signals.length - firstS s = s.values.length by omega]
end Go.Proofs.YtopjiafdimoeiaaGreat
