/- The faulty control, by the reference: constants. -/
import Derived.Test.YtopjiafdimoeiaaGreatZ4
namespace Go.Proofs.YtopjiafdimoeiaaGreat
open Go Go.Am Go.Proofs
set_option maxRecDepth 100000
theorem nameAt_eq (c : Ct) (A k : Nat) : nameAt c A k = if k < 2 * A then [UInt8.ofNat (97 + k / 2), UInt8.ofNat (48 + k % 2)] else if k < 2 * A + c.inputs.length then (c.inputs[k - 2 * A]?).getD [] else ((c.signals.map Sg.name)[k - (2 * A + c.inputs.length)]?).getD [] := by
  unfold nameAt
  rw [List.getElem?_map]
theorem names_congr {a b : Ct} (A : Nat) (hi : a.inputs = b.inputs) (hs : a.signals.map Sg.name = b.signals.map Sg.name) : namesTo a A (countN a A) = namesTo b A (countN b A) := by
  have hl := congrArg List.length hs
  rw [List.length_map, List.length_map] at hl
  have hN : countN a A = countN b A := by unfold countN; rw [hi, hl]
  rw [hN]
  unfold namesTo
  refine List.map_congr_left fun k _ => ?_
  rw [nameAt_eq, nameAt_eq, hi, hs]
theorem names_snoc (a : Ct) (A : Nat) (g : Sg) (p m : List Int) : namesTo ⟨a.act, a.inputs, a.signals ++ [g], p, m⟩ A (countN ⟨a.act, a.inputs, a.signals ++ [g], p, m⟩ A) = namesTo a A (countN a A) ++ [g.name] := by
  have hN : countN ⟨a.act, a.inputs, a.signals ++ [g], p, m⟩ A = countN a A + 1 := by
    unfold countN
    simp only [List.length_append, List.length_singleton]
    omega
  rw [hN, names_succ]
  congr 1
  · unfold namesTo
    refine List.map_congr_left fun k hk => ?_
    have hk := List.mem_range.1 hk
    unfold countN at hk
    rw [nameAt_eq, nameAt_eq]
    simp only [List.map_append]
    by_cases h1 : k < 2 * A
    · rw [if_pos h1, if_pos h1]
    · rw [if_neg h1, if_neg h1]
      by_cases h2 : k < 2 * A + a.inputs.length
      · rw [if_pos h2, if_pos h2]
      · rw [if_neg h2, if_neg h2, List.getElem?_append_left (by rw [List.length_map]; omega)]
  · rw [nameAt_eq, if_neg (by unfold countN; omega), if_neg (by unfold countN; simp only; omega)]
    simp only [List.map_append]
    rw [List.getElem?_append_right (by rw [List.length_map]; unfold countN; omega), List.length_map, show countN a A - (2 * A + a.inputs.length) - a.signals.length = 0 by unfold countN; omega]
    rfl
theorem names_start (c : Ct) (k i : Int) (A : Nat) : namesTo (startF c k i A).d A (countN (startF c k i A).d A) = (startF c k i A).K := by
  have := names_congr (a := (startF c k i A).d) (b := c) A rfl (by unfold startF; simp only; rw [List.map_map]; rfl)
  rw [this]
  rfl
theorem names_step {c : Ct} {k i : Int} {A : Nat} {v : Int} {s : Fs} (h : namesTo s.d A (countN s.d A) = s.K) : namesTo (stepV c k i A v s).d A (countN (stepV c k i A v s).d A) = (stepV c k i A v s).K := by
  cases hn : needV c k i v A with
  | true =>
    rw [stepV_yes hn]
    simp only
    rw [names_snoc s.d A _ _ _, h]
  | false =>
    rw [stepV_no hn]
    simp only
    rw [← h]
    exact names_congr A rfl rfl
structure Keep32v (P : List (Int × Int)) (v : Int) (gv mv nv : Nat) (st : List V) : Prop where
  keep : Keep32 st
  t9 : getS st 9 = .sl 20 gv mv 0 nv
  t10 : getS st 10 = faults P
  t11 : getS st 11 = num v
abbrev tl32 (gv mv : Nat) (w : List Bool) : H := [⟨gv, .arr mv (w.map brow)⟩]
def I32c (c : Ct) (k i v : Int) (A : Nat) (next : Int) (B : List V) (S : Ob) (gv mv : Nat) (w : List Bool) (ps ms : List Int) (n : Nat) (st : St) : Prop := st.h = h32 c k i B ⟨0, .arr 1 ((putTo (selP c k i v) next n ps).map nrow)⟩ ⟨0, .arr 1 ((putTo (selM c k i v) next n ms).map nrow)⟩ S (tl32 gv mv w) ∧ Keep32v (pilL c k i A) v gv mv w.length st.s ∧ getS st.s 12 = .bool (needV c k i v n) ∧ getS st.s 13 = num next ∧ getS st.s 14 = num n
def Q32c (c : Ct) (k i v : Int) (A : Nat) (next : Int) (B : List V) (S : Ob) (gv mv : Nat) (w : List Bool) (ps ms : List Int) (r : Am.R) : Prop := r.x = .exit 4 ∧ r.st.h = h32 c k i B ⟨0, .arr 1 ((putTo (selP c k i v) next A ps).map nrow)⟩ ⟨0, .arr 1 ((putTo (selM c k i v) next A ms).map nrow)⟩ S (tl32 gv mv w) ∧ Keep32v (pilL c k i A) v gv mv w.length r.st.s ∧ getS r.st.s 12 = .bool (needV c k i v A)
set_option maxHeartbeats 4000000 in
theorem loop32c {c : Ct} {A : Nat} (hA6 : A ≤ 6) (k i v : Int) (next : Int) (gs ms' ns : Nat) (W : List (List V)) (gv mv : Nat) (w : List Bool) (ps ms : List Int) (hp : ps.length = A) (hm : ms.length = A) (hcp : c.plus.length = A) (hcm : c.minus.length = A) (st : St) (h0 : I32c c k i v A next (b32 c gs ms' ns) ⟨gs, .arr ms' W⟩ gv mv w ps ms 0 st) : ∃ r, ev pg (.code (.going 21 L32_1) st) = some r ∧ Q32c c k i v A next (b32 c gs ms' ns) ⟨gs, .arr ms' W⟩ gv mv w ps ms r := by
  refine loop_from (I32c c k i v A next (b32 c gs ms' ns) ⟨gs, .arr ms' W⟩ gv mv w ps ms) A (Q32c c k i v A next (b32 c gs ms' ns) ⟨gs, .arr ms' W⟩ gv mv w ps ms) h0 ?_ ?_
  · rintro n ⟨s, hh⟩ hn ⟨rfl, ⟨⟨hnn, hl, e2, e3, e4, e5, e6⟩, e9, e10, e11⟩, e12, e13, e14⟩
    simp only at hl e2 e3 e4 e5 e6 e9 e10 e11 e12 e13 e14
    have hnl : ∀ j, getS s j ≠ .nils := noNil_get hnn
    have wn := wrap_id (n := (n : Int) + 1) (by omega) (by omega)
    have hn' : (n : Int) < (A : Nat) := by omega
    have hpl := pilL_len c k i A
    have hgp : ((putTo (selP c k i v) next n ps).map nrow)[n]? = some (nrow ps[n]) := by rw [List.getElem?_map, putTo_get (Nat.le_refl _), List.getElem?_eq_getElem (by omega)]; rfl
    have hgm : ((putTo (selM c k i v) next n ms).map nrow)[n]? = some (nrow ms[n]) := by rw [List.getElem?_map, putTo_get (Nat.le_refl _), List.getElem?_eq_getElem (by omega)]; rfl
    have hgl : ∀ h : n < (pilL c k i A).length, (pilL c k i A)[n]'h = pil c k i n := fun h => by
      simp only [pilL, List.getElem_map, List.getElem_range]
    have hnp : n < c.plus.length := by omega
    have hnm : n < c.minus.length := by omega
    have hneed : needV c k i v (n + 1) = (needV c k i v n || (selP c k i v n || selM c k i v n)) := rfl
    unfold I32c
    rw [putTo_row, putTo_row, hneed]
    generalize ps[n] = x at *
    generalize ms[n] = y at *
    have hs1 : selP c k i v n = ((pil c k i n).1 == v) := rfl
    have hs2 : selM c k i v n = ((pil c k i n).2 == v) := rfl
    rw [hs1, hs2]
    generalize pil c k i n = p at *
    obtain ⟨p1, p2⟩ := p
    generalize pilL c k i A = G at *
    generalize (putTo (selP c k i v) next n ps).map nrow = X at *
    generalize (putTo (selM c k i v) next n ms).map nrow = Y at *
    generalize needV c k i v n = B at *
    rw [getS_expand hl]
    simp only
    by_cases hv1 : p1 = v
    · by_cases hv2 : p2 = v
      · simp [L32_1, List.range, List.range.loop, e2, e3, e4, e5, e6, e9, e10, e11, e12, e13, e14, hn, hn', hpl, wn, hgp, hgm, hgl, hv1, hv2, hnp, hnm]
        exact ⟨⟨by simp [noNil, hnl], rfl, rfl, rfl, rfl, rfl, rfl⟩, rfl, rfl, rfl⟩
      · have n2 : (p2 == v) = false := by simpa using hv2
        simp [L32_1, List.range, List.range.loop, e2, e3, e4, e5, e6, e9, e10, e11, e12, e13, e14, hn, hn', hpl, wn, hgp, hgl, hv1, n2, hnp]
        exact ⟨⟨by simp [noNil, hnl], rfl, rfl, rfl, rfl, rfl, rfl⟩, rfl, rfl, rfl⟩
    · have n1 : (p1 == v) = false := by simpa using hv1
      by_cases hv2 : p2 = v
      · simp [L32_1, List.range, List.range.loop, e2, e3, e4, e5, e6, e9, e10, e11, e12, e13, e14, hn, hn', hpl, wn, hgm, hgl, n1, hv2, hnm]
        exact ⟨⟨by simp [noNil, hnl], rfl, rfl, rfl, rfl, rfl, rfl⟩, rfl, rfl, rfl⟩
      · have n2 : (p2 == v) = false := by simpa using hv2
        simp [L32_1, List.range, List.range.loop, e2, e3, e4, e5, e6, e9, e10, e11, e12, e13, e14, hn, hn', hpl, wn, hgl, n1, n2]
        exact ⟨⟨by simp [noNil, hnl], rfl, rfl, rfl, rfl, rfl, rfl⟩, rfl, rfl, rfl⟩
  · rintro ⟨s, hh⟩ ⟨rfl, ⟨⟨hnn, hl, e2, e3, e4, e5, e6⟩, e9, e10, e11⟩, e12, e13, e14⟩
    simp only at hl e2 e3 e4 e5 e6 e9 e10 e11 e12 e13 e14
    have hnl : ∀ j, getS s j ≠ .nils := noNil_get hnn
    have hpl := pilL_len c k i A
    unfold Q32c
    generalize putTo (selP c k i v) next A ps = X at *
    generalize putTo (selM c k i v) next A ms = Y at *
    generalize needV c k i v A = B at *
    generalize pilL c k i A = G at *
    rw [getS_expand hl]
    simp [L32_1, List.range, List.range.loop, e2, e3, e4, e5, e6, e9, e10, e11, e12, e13, e14, hpl]
    exact ⟨⟨by simp [noNil, hnl], rfl, rfl, rfl, rfl, rfl, rfl⟩, rfl, rfl, rfl⟩
end Go.Proofs.YtopjiafdimoeiaaGreat
