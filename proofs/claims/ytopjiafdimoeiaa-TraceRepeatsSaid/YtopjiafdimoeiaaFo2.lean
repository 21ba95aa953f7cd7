/- The normal form, by the reference. -/
import Derived.Test.YtopjiafdimoeiaaFo1
namespace Go.Proofs.Ytopjiafdimoeiaa
open Go Go.Am Go.Proofs
set_option maxRecDepth 100000
theorem ev145 (s0 : Sq) (hs : okSteps s0) (w : List Sk) (hw : w.length < 2 ^ 40) (q : Nat) (hq : q < w.length) {a b : Place} (ha : walkN s0 w q = some a) (hb : walkN s0 w (q + 1) = some b) : ev pg (.call (.fn 145 [] []) [s0.v, words w, num q] []) = some { v := .bool (decide (a.1 = b.1 ∧ a.2.1 = b.2.1)), st := ⟨[], []⟩ } := by
  have h1 := ev106 s0 hs w q (by omega) hw
  have h2 := ev106 s0 hs w (q + 1) hq hw
  have wk := wrap_id (n := (q : Int) + 1) (by omega) (by omega)
  rw [ha] at h1
  rw [hb] at h2
  simp only [folV] at h1 h2
  have hcast : num ((q + 1 : Nat) : Int) = .int .i64 ((q : Int) + 1) := rfl
  rw [hcast] at h2
  rw [ev_call, pg145]
  by_cases e1 : a.1 = b.1
  · by_cases e2 : a.2.1 = b.2.1
    · simp [ev_draw1, exT, chkOk, ir145, h1, h2, wk, e1, e2]
    · have e2' : ((a.2.1 : Int) == (b.2.1 : Int)) = false := by simp; omega
      simp [ev_draw1, exT, chkOk, ir145, h1, h2, wk, e1, e2, e2']
  · have e1' : ((a.1 : Int) == (b.1 : Int)) = false := by simp; omega
    simp [ev_draw1, exT, chkOk, ir145, h1, h2, wk, e1, e1']
structure Keep108 (w : List Sk) (i : Nat) (st : List V) : Prop where
  nn : noNil st
  len : st.length = 60
  t1 : getS st 1 = words w
  t2 : getS st 2 = .bptr 0 0
  t5 : getS st 5 = .sl 1 0 2 0 w.length
  t6 : getS st 6 = num i
abbrev hO (s0 : Sq) (l : List Sk) : H := [⟨0, .box s0.cells⟩, ⟨0, .arr 2 (l.map Sk.row)⟩, ⟨0, .arr 0 []⟩, ⟨0, .arr 0 []⟩]
def I108a (s0 : Sq) (w pre p : List Sk) (x : Sk) (rest : List Sk) (k : Nat) (st : St) : Prop := ∃ j, j + k = p.length ∧ st.h = hO s0 (pre ++ mid p x rest j) ∧ (∀ y ∈ p.drop j, x.act < y.act) ∧ Keep108 w (pre.length + p.length) st.s ∧ getS st.s 7 = num (pre.length + j : Nat)
def Q108a (s0 : Sq) (w pre p : List Sk) (x : Sk) (rest : List Sk) (r : R) : Prop := r.x = .exit 2 ∧ ∃ q : List Sk, q.Perm (p ++ [x]) ∧ asc q ∧ r.st.h = hO s0 (pre ++ (q ++ rest)) ∧ Keep108 w (pre.length + p.length) r.st.s
theorem loop108a (s0 : Sq) (w pre p : List Sk) (x : Sk) (rest : List Sk) (hw : w.length < 2 ^ 40) (hp : asc p) (hlen : pre.length + (p.length + 1 + rest.length) = w.length) (hpx : ∀ y ∈ p, x.act ≠ y.act)
    (hs1 : ∀ m, m < p.length → ev pg (.call (.fn 145 [] []) [s0.v, words w, num (pre.length + m : Nat)] []) = some { v := .bool true, st := ⟨[], []⟩ })
    (hs0 : ∀ m, pre.length = m + 1 → ev pg (.call (.fn 145 [] []) [s0.v, words w, num m] []) = some { v := .bool false, st := ⟨[], []⟩ })
    (st : St) (h0 : I108a s0 w pre p x rest 0 st) : ∃ r, ev pg (.code (.going 4 L108_0) st) = some r ∧ Q108a s0 w pre p x rest r := by
  refine loop_from (I108a s0 w pre p x rest) p.length (Q108a s0 w pre p x rest) h0 ?_ ?_
  · rintro k ⟨s, hh⟩ hk ⟨j, hj, rfl, hhi, ⟨hnn, hl, e1, e2, e5, e6⟩, e7⟩
    simp only at hl e1 e2 e5 e6 e7
    have hn : ∀ j, getS s j ≠ .nils := noNil_get hnn
    obtain ⟨m, rfl⟩ : ∃ m, j = m + 1 := ⟨j - 1, by omega⟩
    have hm : m < p.length := by omega
    have hmn : pre.length + m < w.length := by omega
    have hmn1 : pre.length + (m + 1) < w.length := by omega
    have wm := wrap_id (n := (pre.length : Int) + (m : Int)) (by omega) (by omega)
    have hy := hpx p[m] (List.getElem_mem hm)
    have hc := hs1 m hm
    have hm1 : (pre ++ mid p x rest (m + 1))[pre.length + (m + 1)]? = some x := by
      rw [List.getElem?_append_right (by omega), Nat.add_sub_cancel_left]
      exact mid_at hm
    have hm2 : (pre ++ mid p x rest (m + 1))[pre.length + m]? = some p[m] := by
      rw [List.getElem?_append_right (by omega), Nat.add_sub_cancel_left]
      exact mid_prev hm
    have hms : ((pre ++ mid p x rest (m + 1)).set (pre.length + (m + 1)) p[m]).set (pre.length + m) x = pre ++ mid p x rest m := by
      rw [List.set_append_right _ _ (by omega), List.set_append_right _ _ (by omega), Nat.add_sub_cancel_left, Nat.add_sub_cancel_left, mid_swap hm]
    generalize hL : pre ++ mid p x rest (m + 1) = L at *
    have hset : ∀ v, ((L.map Sk.row).set (pre.length + (m + 1)) v)[pre.length + m]? = some p[m].row := fun v => by
      rw [List.getElem?_set_ne (by omega), List.getElem?_map, hm2]; rfl
    have hpos : (0 : Int) < (pre.length : Int) + ((m : Int) + 1) := by omega
    have hpos' : (0 : Int) ≤ (pre.length : Int) + ((m : Int) + 1) := by omega
    have hpos2 : (0 : Int) ≤ (pre.length : Int) + (m : Int) := by omega
    have hcast : ((pre.length : Int) + ((m : Int) + 1)).toNat = pre.length + (m + 1) := by omega
    have hcast2 : ((pre.length : Int) + (m : Int)).toNat = pre.length + m := by omega
    have hsub : (pre.length : Int) + ((m : Int) + 1) - 1 = (pre.length : Int) + (m : Int) := by omega
    simp at hc
    rw [getS_expand hl]
    by_cases hlt : x.act < p[m].act
    · simp [L108_0, List.range, List.range.loop, e1, e2, e5, e6, e7, hpos, hpos', hpos2, hcast, hcast2, hsub, hm1, hm2, hmn, hmn1, wm, hc, hlt, hset]
      refine ⟨m, by omega, ?_, fun y hy => ?_, ⟨by simp [noNil, hn], rfl, rfl, rfl, rfl, rfl⟩, rfl⟩
      · have e : ((L.map Sk.row).set (pre.length + (m + 1)) p[m].row).set (pre.length + m) x.row = (pre ++ mid p x rest m).map Sk.row := by rw [← hms, List.map_set, List.map_set]
        exact congrArg (fun R => ([⟨0, .box s0.cells⟩, ⟨0, .arr 2 R⟩, ⟨0, .arr 0 []⟩, ⟨0, .arr 0 []⟩] : H)) e
      · rw [List.drop_eq_getElem_cons hm] at hy
        rcases List.mem_cons.1 hy with rfl | hy
        · exact hlt
        · exact hhi y hy
    · simp [L108_0, List.range, List.range.loop, e1, e2, e5, e6, e7, hpos, hpos', hpos2, hcast, hcast2, hsub, hm1, hm2, hmn, hmn1, wm, hc, hlt, hset]
      subst hL
      exact ⟨rfl, p.take (m + 1) ++ x :: p.drop (m + 1), ins_perm (m + 1), ins_asc hp hhi (.inr ⟨m, p[m], rfl, List.getElem?_eq_getElem hm, by omega⟩), by simp [mid], ⟨by simp [noNil, hn], rfl, rfl, rfl, rfl, rfl⟩⟩
  · rintro ⟨s, hh⟩ ⟨j, hj, rfl, hhi, ⟨hnn, hl, e1, e2, e5, e6⟩, e7⟩
    simp only at hl e1 e2 e5 e6 e7
    have hn : ∀ j, getS s j ≠ .nils := noNil_get hnn
    obtain rfl : j = 0 := by omega
    have hfin : ∀ r : Am.R, r.x = .exit 2 → r.st.h = hO s0 (pre ++ mid p x rest 0) → Keep108 w (pre.length + p.length) r.st.s → Q108a s0 w pre p x rest r := by
      intro r hx hh hK
      refine ⟨hx, mid p x [] 0, ?_, ?_, by rw [hh]; simp [mid], hK⟩
      · have := ins_perm (p := p) (x := x) 0
        simpa [mid] using this
      · have := ins_asc (x := x) hp hhi (.inl rfl)
        simpa [mid] using this
    rw [getS_expand hl]
    by_cases hpre : pre.length = 0
    · obtain rfl : pre = [] := List.length_eq_zero_iff.1 hpre
      simp [L108_0, List.range, List.range.loop, e1, e2, e5, e6, e7]
      exact hfin _ rfl rfl ⟨by simp [noNil, hn], rfl, rfl, rfl, rfl, by simp⟩
    · obtain ⟨m, hm⟩ : ∃ m, pre.length = m + 1 := ⟨pre.length - 1, by omega⟩
      have hc := hs0 m hm
      have hmp : m < pre.length := by omega
      have hx1 : (pre ++ mid p x rest 0)[m + 1]? = some x := by
        rw [List.getElem?_append_right (by omega), hm, Nat.sub_self]
        exact mid_at (Nat.zero_le _)
      have hx2 : (pre ++ mid p x rest 0)[m]? = some pre[m] := by
        rw [List.getElem?_append_left hmp, List.getElem?_eq_getElem hmp]
      have wm := wrap_id (n := (m : Int)) (by omega) (by omega)
      have hmn : m < w.length := by omega
      have hmn1 : m + 1 < w.length := by omega
      have hpos : (0 : Int) < (m : Int) + 1 := by omega
      have hpos' : (0 : Int) ≤ (m : Int) + 1 := by omega
      have hcast : ((m : Int) + 1).toNat = m + 1 := by omega
      rw [hm] at e6 e7
      generalize hL : pre ++ mid p x rest 0 = L at *
      by_cases hlt : x.act < pre[m].act
      · simp [L108_0, List.range, List.range.loop, e1, e2, e5, e6, e7, hpos, hpos', hcast, hx1, hx2, hmn, hmn1, wm, hc, hlt]
        exact hfin _ rfl (by rw [← hL]) ⟨by simp [noNil, hn], rfl, rfl, rfl, rfl, by rw [hm]; rfl⟩
      · simp [L108_0, List.range, List.range.loop, e1, e2, e5, e6, e7, hpos, hpos', hcast, hx1, hx2, hmn, hmn1, wm, hlt]
        exact hfin _ rfl (by rw [← hL]) ⟨by simp [noNil, hn], rfl, rfl, rfl, rfl, by rw [hm]; rfl⟩
def I108 (s0 : Sq) (w : List Sk) (B : List (List Sk)) (k : Nat) (st : St) : Prop := ∃ b o, ∃ hb : b < B.length, o ≤ B[b].length ∧ k + 1 = startB B b + o ∧ st.h = hO s0 (normW (B.take b) ++ srt (B[b].take o) ++ w.drop (k + 1)) ∧ Keep108 w (k + 1) st.s
def Q108 (s0 : Sq) (w : List Sk) (B : List (List Sk)) (r : R) : Prop := r.x = .exit 0 ∧ r.st.h = hO s0 (normW B) ∧ r.st.s.length = 60 ∧ getS r.st.s 5 = .sl 1 0 2 0 w.length
theorem norm_end {w : List Sk} {B : List (List Sk)} (hB : B.flatten = w) {b o : Nat} (hb : b < B.length) (ho : o ≤ B[b].length) (he : w.length = startB B b + o) : normW (B.take b) ++ srt (B[b].take o) = normW B := by
  have h1 := flat_at hb
  have h2 := congrArg List.length h1
  rw [hB, List.length_append, List.length_append] at h2
  have h3 : startB B b = (B.take b).flatten.length := rfl
  have hoe : o = B[b].length := by omega
  have h4 : (normW (B.drop (b + 1))).length = 0 := by rw [normW_length]; omega
  rw [hoe, List.take_length, ← normW_take hb]
  conv => rhs; rw [← List.take_append_drop (b + 1) B]
  unfold normW at h4 ⊢
  rw [List.flatMap_append, List.length_eq_zero_iff.1 h4, List.append_nil]
theorem same_in {s0 : Sq} (hs : okSq s0) {w : List Sk} (hw : w.length < 2 ^ 40) {full : List (List Sk)} {done left : List Sk} (h : isWalk s0 w w.length full done left) {b o : Nat} (hb : b < (blocks full done).length) (ho : o < (blocks full done)[b].length) :
    (∀ m, m < o → ev pg (.call (.fn 145 [] []) [s0.v, words w, num (startB (blocks full done) b + m : Nat)] []) = some { v := .bool true, st := ⟨[], []⟩ }) ∧
    (∀ m, startB (blocks full done) b = m + 1 → ev pg (.call (.fn 145 [] []) [s0.v, words w, num m] []) = some { v := .bool false, st := ⟨[], []⟩ }) := by
  constructor
  · intro m hm
    obtain ⟨k1, l1, e1⟩ := place_at hs h hb (o := m) (by omega) (fun _ => by omega)
    obtain ⟨k2, l2, e2⟩ := place_at hs h hb (o := m + 1) (by omega) (fun _ => by omega)
    have := ev145 s0 hs.st w hw (startB (blocks full done) b + m) (by omega) e1 (by rw [Nat.add_assoc]; exact e2)
    simpa using this
  · intro m hm
    obtain ⟨k2, l2, e2⟩ := place_at hs h hb (o := 0) (by omega) (fun _ => by omega)
    rw [Nat.add_zero, hm] at e2 k2
    match b, hb with
    | 0, _ => simp [startB] at hm
    | b1 + 1, hb =>
      have hb1 : b1 < (blocks full done).length := by omega
      have hbf : b1 < full.length := by
        simp only [blocks, List.length_append, List.length_singleton] at hb
        omega
      have hpos := blk_ne hs h hb1 hbf
      have hst := startB_succ hb1
      obtain ⟨k1, l1, e1⟩ := place_at hs h hb1 (o := (blocks full done)[b1].length - 1) (by omega) (fun _ => by omega)
      have hme : startB (blocks full done) b1 + ((blocks full done)[b1].length - 1) = m := by omega
      rw [hme] at e1
      have := ev145 s0 hs.st w hw m (by omega) e1 e2
      rw [this]
      have hne : ¬ (b1 / s0.steps.length = (b1 + 1) / s0.steps.length ∧ b1 % s0.steps.length = (b1 + 1) % s0.steps.length) := by
        rintro ⟨h1, h2⟩
        have a1 := Nat.div_add_mod b1 s0.steps.length
        have a2 := Nat.div_add_mod (b1 + 1) s0.steps.length
        rw [← h1, ← h2] at a2
        omega
      rw [decide_eq_false hne]
theorem loop108 (s0 : Sq) (hs : okSq s0) (w : List Sk) (hw : w.length < 2 ^ 40) (full : List (List Sk)) (done left : List Sk) (hW : isWalk s0 w w.length full done left) (hw0 : w ≠ []) (st : St) (h0 : I108 s0 w (blocks full done) 0 st) : ∃ r, ev pg (.code (.going 4 L108_1) st) = some r ∧ Q108 s0 w (blocks full done) r := by
  have hflat : (blocks full done).flatten = w := by rw [blocks_flat, hW.flat, List.take_length]
  have hgood := hW.good hs
  refine loop_from (I108 s0 w (blocks full done)) (w.length - 1) (Q108 s0 w (blocks full done)) h0 ?_ ?_
  · rintro k ⟨s, hh⟩ hk ⟨b0, o0, hb0, ho0, hi0, rfl, ⟨hnn, hl, e1, e2, e5, e6⟩⟩
    simp only at hl e1 e2 e5 e6
    have hn : ∀ j, getS s j ≠ .nils := noNil_get hnn
    have hk1 : k + 1 < w.length := by omega
    have hk' : (k : Int) + 1 < w.length := by omega
    have wk := wrap_id (n := (k : Int) + 1 + 1) (by omega) (by omega)
    obtain ⟨b, o, hb, ho, hi, hout, hget⟩ := next_in hs hW hb0 ho0 hi0 hk1
    rw [hout]
    have hgb := hgood _ (List.getElem_mem hb)
    have hx : w[k + 1]? = some (blocks full done)[b][o] := by rw [hget, List.getElem?_eq_getElem ho]
    obtain ⟨_, hxe⟩ := List.getElem?_eq_some_iff.1 hx
    have hdrop : w.drop (k + 1) = (blocks full done)[b][o] :: w.drop (k + 2) := by rw [List.drop_eq_getElem_cons hk1, hxe]
    have hpl : (srt ((blocks full done)[b].take o)).length = o := by rw [srt_length, List.length_take]; omega
    have hprel : (normW ((blocks full done).take b)).length = startB (blocks full done) b := normW_length _
    have hdt : diff ((blocks full done)[b].take o ++ [(blocks full done)[b][o]]) := by
      rw [← List.take_succ_eq_append_getElem ho]
      exact List.Pairwise.sublist (List.take_sublist _ _) hgb.diff
    have hdt0 : diff ((blocks full done)[b].take o) := (List.pairwise_append.1 hdt).1
    obtain ⟨hs1, hs0⟩ := same_in hs hw hW hb ho
    have hrl : (w.drop (k + 2)).length = w.length - (k + 2) := List.length_drop
    rw [getS_expand hl]
    simp [L108_1, List.range, List.range.loop, e1, e2, e5, e6, hk', ev_loop, hn]
    generalize hr : ev pg (.code (.going 4 L108_0) _) = oo
    obtain ⟨r, rfl, hx, q, hqm, hqa, hh, ⟨hnn', gl, g1, g2, g5, g6⟩⟩ : ∃ r, oo = some r ∧ Q108a s0 w (normW ((blocks full done).take b)) (srt ((blocks full done)[b].take o)) (blocks full done)[b][o] (w.drop (k + 2)) r := by
      rw [← hr]
      refine loop108a s0 w _ _ _ _ hw (srt_asc hdt0) (by rw [hprel, hpl, hrl]; omega) (fun y hy => ?_) (fun m hm => ?_) (fun m hm => ?_) _ ⟨o, by rw [hpl]; omega, ?_, ?_, ⟨?_, ?_, ?_, ?_, ?_, by rw [hprel, hpl, ← hi]; simp⟩, by rw [hprel, ← hi]; simp⟩
      · have := (List.pairwise_append.1 hdt).2.2 y ((srt_perm _).mem_iff.1 hy) (blocks full done)[b][o] (by simp)
        exact fun e => this e.symm
      · rw [hprel]
        exact hs1 m (by omega)
      · exact hs0 m (by rw [← hprel]; exact hm)
      · rw [hdrop]
        simp [mid, List.take_of_length_le, List.drop_eq_nil_of_le, hpl]
      · rw [List.drop_eq_nil_of_le (by omega)]
        intro y hy
        cases hy
      all_goals simp [noNil, hn]
    have hq : q = srt ((blocks full done)[b].take (o + 1)) := by
      refine srt_unique ?_ hqa ?_
      · rw [List.take_succ_eq_append_getElem ho]
        exact hqm.trans ((srt_perm _).append_right _)
      · rw [List.take_succ_eq_append_getElem ho]
        exact hdt
    rw [hq] at hh
    rw [hprel, hpl, ← hi] at g6
    simp at g6
    simp [hx, hh, gl, g1, g2, g5, g6, wk]
    refine ⟨b, o + 1, hb, ho, by omega, by simp [List.map_drop], ⟨?_, ?_, ?_, ?_, ?_, ?_⟩⟩
    · apply noNil_scrub
      repeat (first | with_reducible exact hnn' | with_reducible refine noNil_set ?_ (by simp))
    all_goals simp [gl, g1, g2, g5]
  · rintro ⟨s, hh⟩ ⟨b, o, hb, ho, hi, rfl, ⟨hnn, hl, e1, e2, e5, e6⟩⟩
    simp only at hl e1 e2 e5 e6
    have hwl := List.length_pos_iff.2 hw0
    have hle : w.length ≤ w.length - 1 + 1 := by omega
    have hge : ¬ (((w.length - 1 : Nat) : Int) + 1 < (w.length : Int)) := by omega
    have hend := norm_end hflat hb ho (by omega)
    rw [List.drop_eq_nil_of_le hle, List.append_nil, hend]
    rw [getS_expand hl]
    simp [L108_1, Q108, List.range, List.range.loop, e1, e2, e5, e6, hge]
theorem ev108 (s0 : Sq) (hs : okSq s0) (w : List Sk) (hw : w.length < 2 ^ 40) (full : List (List Sk)) (done left : List Sk) (hW : isWalk s0 w w.length full done left) : ev pg (.call (.fn 108 [] []) [s0.v, words w] []) = some { v := words (normW (blocks full done)), st := ⟨[], []⟩ } := by
  have hflat : (blocks full done).flatten = w := by rw [blocks_flat, hW.flat, List.take_length]
  have hnl : (normW (blocks full done)).length = w.length := by rw [normW_length, hflat]
  have h47 : w.length * 16 ≤ 140737488355328 := by omega
  have w1 := wrap_id (n := 1) (by omega) (by omega)
  generalize hnf : normW (blocks full done) = nf at hnl ⊢
  rw [ev_call, pg108]
  by_cases hw0 : w = []
  · have hz : nf = [] := List.length_eq_zero_iff.1 (by rw [hnl, hw0]; rfl)
    rw [hz]
    subst hw0
    simp [ir108, ev_loop, ev_going, L108_1]
  · simp [ir108, h47, ev_loop]
    generalize hr : ev pg (.code (.going 4 L108_1) _) = oo
    obtain ⟨r, rfl, hx, hh, hl, h5⟩ : ∃ r, oo = some r ∧ Q108 s0 w (blocks full done) r := by
      rw [← hr]
      have hwl := List.length_pos_iff.2 hw0
      obtain ⟨b, o, hb, ho, hi, hout, hget⟩ := next_in hs hW (b := 0) (o := 0) (i := 0) (by simp [blocks]) (Nat.zero_le _) (by simp [startB]) hwl
      have hgb := hW.good hs _ (List.getElem_mem hb)
      have hx : w[0]? = some (blocks full done)[b][o] := by rw [hget, List.getElem?_eq_getElem ho]
      have ho0 : o = 0 := by omega
      subst ho0
      have hnb : normW ((blocks full done).take b) = [] := by
        refine List.length_eq_zero_iff.1 ?_
        rw [normW_length]
        have : startB (blocks full done) b = ((blocks full done).take b).flatten.length := rfl
        omega
      refine loop108 s0 hs w hw full done left hW hw0 _ ⟨b, 1, hb, ho, by omega, ?_, ⟨?_, ?_, ?_, ?_, ?_, ?_⟩⟩
      · rw [hnb, List.take_succ_eq_append_getElem ho]
        have hd : w = (blocks full done)[b][0] :: w.drop 1 := by
          obtain ⟨hlt, he⟩ := List.getElem?_eq_some_iff.1 hx
          conv => lhs; rw [← List.drop_zero (l := w), List.drop_eq_getElem_cons hlt, he]
        conv => lhs; rw [hd]
        simp [srt, insS]
      all_goals simp [noNil]
    rw [hnf] at hh
    simp [hx, hh, hl, h5, hnl]
end Go.Proofs.Ytopjiafdimoeiaa
