/- The faulty control, by the reference: signals and pilots. -/
import Derived.Test.YtopjiafdimoeiaaGreatZ3
namespace Go.Proofs.YtopjiafdimoeiaaGreat
open Go Go.Am Go.Proofs
set_option maxRecDepth 100000
theorem off_zero {c : Ct} (hc : c.check = 0) (hfew : c.small = true) {x : Sg} (hx : x ∈ c.signals) (hk : x.kind ≠ 1) : x.off.zero = true := by
  have hM := mid_check hc hfew
  generalize hA : c.act.toNat = A at *
  have h2 : ctE c A = 0 := by
    unfold Ct.check at hc
    split at hc
    · cases hc
    · split at hc
      · cases hc
      · rw [hA] at hc; exact hc
  unfold ctE at h2
  split at h2
  · split at h2
    · rename_i hs
      obtain ⟨i, hi, rfl⟩ := List.mem_iff_getElem.1 hx
      have h3 := goE_zero hs i (by omega) (by omega)
      unfold sigF at h3
      rw [List.getElem?_eq_getElem hi] at h3
      simp only at h3
      unfold sigE at h3
      split at h3
      · split at h3
        · cases h3
        · split at h3
          · split at h3
            · rename_i h4; exact absurd h4.1 hk
            · split at h3
              · cases h3
              · split at h3
                · cases h3
                · split at h3
                  · cases h3
                  · rename_i h6
                    cases hz : c.signals[i].off.zero with
                    | true => rfl
                    | false => exact absurd (.inl ⟨hk, .inl hz⟩) h6
          · rename_i h4; exact absurd h3 h4
      · rename_i h4; exact absurd h3 h4
    · rename_i h4; exact absurd h2 h4
  · rename_i h4; exact absurd h2 h4
theorem zero_repl {x : Ex} (h : x.zero = true) (n v : Int) : x.repl n v = x := by
  rw [repl_same, had_eq]
  simp only [Ex.zero, Bool.and_eq_true, decide_eq_true_eq] at h
  obtain ⟨⟨h1, h2⟩, h3⟩ := h
  rw [if_neg (fun e => by omega)]
  have ha : x.args = [] := by simpa using h3
  rw [ha, hadL]
theorem zero_err {x : Ex} (h : x.zero = true) (n : Int) : x.err n = 0 := by
  simp only [Ex.zero, Bool.and_eq_true, decide_eq_true_eq] at h
  obtain ⟨⟨h1, h2⟩, h3⟩ := h
  have ha : x.args = [] := by simpa using h3
  rw [err_eq, ha, h1, h2]
  simp [nodeE, errL]
theorem had_neg (n : Int) : ∀ x : Ex, x.err n = 0 → x.had (-1) = false := by
  intro x hx
  rw [had_occ _ _ x hx]
  revert hx
  revert x
  refine Ex.ind fun x ih hx => ?_
  obtain ⟨h1, h2⟩ := err_zero hx
  rw [occ_eq]
  split
  · rename_i ho
    have := node_var h1 ho
    rw [beq_eq_false_iff_ne]
    omega
  · have : ∀ l : List Ex, (∀ y ∈ l, y.occ (-1) = false) → occL (-1) l = false := by
      intro l
      induction l with
      | nil => intro _; rfl
      | cons y l ihl => intro h; rw [occL, h y (by simp), ihl fun z hz => h z (by simp [hz])]; rfl
    exact this _ fun y hy => ih y hy (h2 y hy)
/-- What a signal is, that the reference may have to do with. -/
structure SgOk (N : Nat) (x : Sg) : Prop where
  on : x.on.err N = 0
  off : x.off.err N = 0
  non : x.on.nodes ≤ 256
  noff : x.off.nodes ≤ 256
  zero : x.kind ≠ 1 → x.off.zero = true
theorem sg_ok {c : Ct} (hc : c.check = 0) (hfew : c.small = true) {x : Sg} (hx : x ∈ c.signals) : SgOk (countN c c.act.toNat) x := by
  have hR := rgt_check hc hfew
  obtain ⟨_, g1, g2⟩ := (few_parts hfew).2.2.2.2.2 x hx
  refine ⟨hR.on x hx, ?_, (light_nodes g1).1, (light_nodes g2).1, fun hk => off_zero hc hfew hx hk⟩
  rcases hR.off x hx with h | h
  · exact h
  · exact zero_err h _
abbrev h32 (c : Ct) (k i : Int) (B : List V) (P M S : Ob) (t : H) : H := ⟨0, .box c.cells⟩ :: ⟨0, .box [num k, num i]⟩ :: ⟨0, .arr 0 []⟩ :: ⟨0, .arr 0 []⟩ :: ⟨0, .arr 0 []⟩ :: ⟨0, .arr 0 []⟩ :: ⟨0, .box [num 0, .sl 2 0 0 0 0, .sl 3 0 0 0 0, .sl 4 0 0 0 0, .sl 5 0 0 0 0]⟩ :: ⟨0, .arr 0 []⟩ :: ⟨0, .arr 0 []⟩ :: ⟨0, .arr 0 []⟩ :: ⟨0, .arr 0 []⟩ :: ⟨0, .box B⟩ :: ⟨0, .arr 1 (c.inputs.map srow)⟩ :: P :: M :: S :: ⟨0, .arr 0 []⟩ :: ⟨0, .arr 0 []⟩ :: ⟨0, .arr 0 []⟩ :: ⟨0, .arr 0 []⟩ :: t
abbrev b32 (c : Ct) (gs ms ns : Nat) : List V := [num c.act, .sl 12 0 1 0 c.inputs.length, .sl 15 gs ms 0 ns, .sl 13 0 1 0 c.plus.length, .sl 14 0 1 0 c.minus.length]
structure Keep32 (st : List V) : Prop where
  nn : noNil st
  len : st.length = 138
  t2 : getS st 2 = .bptr 0 0
  t3 : getS st 3 = .bptr 1 0
  t4 : getS st 4 = .bptr 6 0
  t5 : getS st 5 = .sl 16 0 0 0 0
  t6 : getS st 6 = .bptr 11 0
def I32a (c : Ct) (k i li v : Int) (n : Nat) (st : St) : Prop := ∃ g m, st.h = h32 c k i (b32 c g m n) ⟨0, .arr 1 (c.plus.map nrow)⟩ ⟨0, .arr 1 (c.minus.map nrow)⟩ ⟨g, .arr m (((c.signals.take n).map (replS li v)).map Sg.row)⟩ [] ∧ (m = 10 ∨ m = 0) ∧ Keep32 st.s ∧ getS st.s 7 = num n
def Q32a (c : Ct) (k i li v : Int) (r : Am.R) : Prop := r.x = .exit 0 ∧ ∃ g m, r.st.h = h32 c k i (b32 c g m c.signals.length) ⟨0, .arr 1 (c.plus.map nrow)⟩ ⟨0, .arr 1 (c.minus.map nrow)⟩ ⟨g, .arr m ((c.signals.map (replS li v)).map Sg.row)⟩ [] ∧ (m = 10 ∨ m = 0) ∧ Keep32 r.st.s
set_option maxHeartbeats 4000000 in
theorem loop32a {c : Ct} (hc : c.check = 0) (hfew : c.small = true) {k i : Int} (hf : fltE c k i = 0) (st : St) (h0 : I32a c k i (lineI k i) (lineV k) 0 st) : ∃ r, ev pg (.code (.going 20 L32_0) st) = some r ∧ Q32a c k i (lineI k i) (lineV k) r := by
  obtain ⟨f1, f2, f3, f4, f5, f6⟩ := few_parts hfew
  obtain ⟨_, hk, hi0, hiN, hiA⟩ := flt_parts hf
  have hM := mid_check hc hfew
  have h67 := ev67 hM
  have h65 := ev65 k
  have hcN : countN c c.act.toNat ≤ 172 := by
    obtain ⟨_, g1, g2, g3, g4⟩ := hM
    unfold countN
    omega
  refine loop_from (I32a c k i (lineI k i) (lineV k)) c.signals.length (Q32a c k i (lineI k i) (lineV k)) h0 ?_ ?_
  · rintro n ⟨s, hh⟩ hn ⟨g, m, rfl, hm, ⟨hnn, hl, e2, e3, e4, e5, e6⟩, e7⟩
    simp only at hl e2 e3 e4 e5 e6 e7
    have hnl : ∀ j, getS s j ≠ .nils := noNil_get hnn
    have wn := wrap_id (n := (n : Int) + 1) (by omega) (by omega)
    have hok := sg_ok hc hfew (List.getElem_mem hn)
    have hsn : ((c.signals.take (n + 1)).map (replS (lineI k i) (lineV k))).map Sg.row = ((c.signals.take n).map (replS (lineI k i) (lineV k))).map Sg.row ++ [(replS (lineI k i) (lineV k) c.signals[n]).row] := by
      rw [List.take_succ_eq_append_getElem hn, List.map_append, List.map_append]; rfl
    have hln : (((c.signals.take n).map (replS (lineI k i) (lineV k))).map Sg.row).length = n := by
      rw [List.length_map, List.length_map, List.length_take]; omega
    have hget : c.signals[n]? = some c.signals[n] := List.getElem?_eq_getElem hn
    have hb : (n + 1) * 120 ≤ 140737488355328 := by omega
    have hn' : (n : Int) < (c.signals.length : Int) := by omega
    unfold I32a
    rw [hsn]
    generalize ((c.signals.take n).map (replS (lineI k i) (lineV k))).map Sg.row = W at *
    by_cases hl2 : k = 2 ∨ k = 3
    · have hlin : lineI k i = i := by unfold lineI; rw [if_pos hl2]
      rw [hlin]
      rw [decide_eq_true hl2] at h65
      obtain ⟨line, rfl⟩ : ∃ line : Nat, i = line := ⟨i.toNat, by omega⟩
      have hline := hiN hl2
      have h66a := ev66 c.signals[n].on line (countN c c.act.toNat) (by omega) (by omega) (k == 2) hok.non hok.on
      have h66b := ev66 c.signals[n].off line (countN c c.act.toNat) (by omega) (by omega) (k == 2) hok.noff hok.off
      have hkv : (if (k == 2) = true then (1 : Int) else 0) = lineV k := by unfold lineV; simp
      rw [hkv] at h66a h66b
      generalize countN c c.act.toNat = N at *
      generalize lineV k = lv at *
      rw [getS_expand hl]
      by_cases hk1 : c.signals[n].kind = 1
      · have hkb : (c.signals[n].kind == 1) = true := by simpa using hk1
        rcases hm with rfl | rfl
        · simp [ev_draw1, exT, chkOk, L32_0, List.range, List.range.loop, e2, e3, e4, e5, e6, e7, h65, h66a, h66b, h67, hn, hn', hln, hb, wn, hkb]
          exact ⟨_, _, ⟨rfl, rfl⟩, .inl rfl, ⟨by simp [noNil, hnl], rfl, rfl, rfl, rfl, rfl, rfl⟩⟩
        · simp [ev_draw1, exT, chkOk, L32_0, List.range, List.range.loop, e2, e3, e4, e5, e6, e7, h65, h66a, h66b, h67, hn, hn', hln, hb, wn, hkb]
          exact ⟨_, _, ⟨rfl, rfl⟩, .inl rfl, ⟨by simp [noNil, hnl], rfl, rfl, rfl, rfl, rfl, rfl⟩⟩
      · have hkb : (c.signals[n].kind == 1) = false := by simpa using hk1
        have hz := zero_repl (hok.zero hk1) line lv
        rw [show replS (line : Int) lv c.signals[n] = ⟨c.signals[n].name, c.signals[n].kind, c.signals[n].on.repl line lv, c.signals[n].off, c.signals[n].delay, c.signals[n].init⟩ by unfold replS; rw [hz]]
        rcases hm with rfl | rfl
        · simp [ev_draw1, exT, chkOk, L32_0, List.range, List.range.loop, e2, e3, e4, e5, e6, e7, h65, h66a, h67, hn, hn', hln, hb, wn, hkb]
          exact ⟨_, _, ⟨rfl, rfl⟩, .inl rfl, ⟨by simp [noNil, hnl], rfl, rfl, rfl, rfl, rfl, rfl⟩⟩
        · simp [ev_draw1, exT, chkOk, L32_0, List.range, List.range.loop, e2, e3, e4, e5, e6, e7, h65, h66a, h67, hn, hn', hln, hb, wn, hkb]
          exact ⟨_, _, ⟨rfl, rfl⟩, .inl rfl, ⟨by simp [noNil, hnl], rfl, rfl, rfl, rfl, rfl, rfl⟩⟩
    · have hlin : lineI k i = -1 := by unfold lineI; rw [if_neg hl2]
      rw [hlin]
      rw [decide_eq_false hl2] at h65
      have hr1 := (repl_same (-1) (lineV k) c.signals[n].on).2 (had_neg _ _ hok.on)
      have hr2 := (repl_same (-1) (lineV k) c.signals[n].off).2 (had_neg _ _ hok.off)
      rw [show replS (-1) (lineV k) c.signals[n] = c.signals[n] by unfold replS; rw [hr1, hr2]]
      generalize lineV k = lv at *
      rw [getS_expand hl]
      rcases hm with rfl | rfl
      · simp [L32_0, List.range, List.range.loop, e2, e3, e4, e5, e6, e7, h65, hn, hn', hln, hb, wn]
        exact ⟨_, _, ⟨rfl, rfl⟩, .inl rfl, ⟨by simp [noNil, hnl], rfl, rfl, rfl, rfl, rfl, rfl⟩⟩
      · simp [L32_0, List.range, List.range.loop, e2, e3, e4, e5, e6, e7, h65, hn, hn', hln, hb, wn]
        exact ⟨_, _, ⟨rfl, rfl⟩, .inl rfl, ⟨by simp [noNil, hnl], rfl, rfl, rfl, rfl, rfl, rfl⟩⟩
  · rintro ⟨s, hh⟩ ⟨g, m, rfl, hm, ⟨hnn, hl, e2, e3, e4, e5, e6⟩, e7⟩
    simp only at hl e2 e3 e4 e5 e6 e7
    have hnl : ∀ j, getS s j ≠ .nils := noNil_get hnn
    rw [List.take_length]
    unfold Q32a
    generalize (c.signals.map (replS (lineI k i) (lineV k))).map Sg.row = W at *
    rw [getS_expand hl]
    simp [L32_0, List.range, List.range.loop, e2, e3, e4, e5, e6, e7]
    exact ⟨_, _, ⟨rfl, rfl⟩, hm, ⟨by simp [noNil, hnl], rfl, rfl, rfl, rfl, rfl, rfl⟩⟩
end Go.Proofs.YtopjiafdimoeiaaGreat
