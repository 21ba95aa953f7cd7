/- All faults, by the program. Pilots, by the reference. -/
import Derived.Test.YtopjiafdimoeiaaGreatAl1
/- All faults, by the program. -/
namespace Go.Proofs.YtopjiafdimoeiaaGreat
open Go Go.Am Go.Proofs
set_option maxRecDepth 100000
abbrev hK (c : Ct) (g m : Nat) (l : List (Int × Int)) (t : H) : H := ⟨0, .box c.cells⟩ :: ⟨0, .box (kC 1)⟩ :: kTa (⟨0, .arr 0 []⟩ :: ⟨g, .arr m (l.map frow)⟩ :: t)
structure Keep15 (k : Nat) (st : List V) : Prop where
  nn : noNil st
  len : st.length = 34
  t1 : getS st 1 = .bptr 0 0
  t14 : getS st 14 = .agg (kC 1)
  t15 : getS st 15 = num k
def I15a (c : Ct) (o : Ob) (k M : Nat) (l : List (Int × Int)) (n : Nat) (st : St) : Prop := ∃ g m, st.h = hK c g m (l ++ fkind k n) [o] ∧ (m = 2 ∨ m = 0) ∧ Keep15 k st.s ∧ getS st.s 5 = .sl 11 g m 0 (l ++ fkind k n).length ∧ getS st.s 6 = num k ∧ getS st.s 21 = num M ∧ getS st.s 22 = num n
def Q15a (c : Ct) (o : Ob) (k M : Nat) (l : List (Int × Int)) (r : R) : Prop := r.x = .exit 2 ∧ ∃ g m, r.st.h = hK c g m (l ++ fkind k M) [o] ∧ (m = 2 ∨ m = 0) ∧ Keep15 k r.st.s ∧ getS r.st.s 5 = .sl 11 g m 0 (l ++ fkind k M).length
theorem loop15a (c : Ct) (cells : List V) (hc13 : lowL 13 cells = true) (hs13 : cells.map (scrub1 13) = cells) (k M : Nat) (l : List (Int × Int)) (hM : M ≤ 172) (hl2 : l.length ≤ 1100) (st : St) (h0 : I15a c ⟨0, .box cells⟩ k M l 0 st) : ∃ r, ev pg (.code (.going 13 L24_0) st) = some r ∧ Q15a c ⟨0, .box cells⟩ k M l r := by
  refine loop_from (I15a c ⟨0, .box cells⟩ k M l) M (Q15a c ⟨0, .box cells⟩ k M l) h0 ?_ ?_
  · rintro n ⟨s, hh⟩ hn ⟨g, m, rfl, hm, ⟨hnn, hl, e1, e14, e15⟩, e5, e6, e21, e22⟩
    simp only at hl e1 e5 e6 e14 e15 e21 e22
    have hnl : ∀ j, getS s j ≠ .nils := noNil_get hnn
    have wn := wrap_id (n := (n : Int) + 1) (by omega) (by omega)
    have hn' : (n : Int) < (M : Int) := by omega
    have hfn := fkind_len k n
    have happ : l ++ fkind k (n + 1) = (l ++ fkind k n) ++ [((k : Int), (n : Int))] := by rw [fkind_succ, List.append_assoc]
    have hlen : (l ++ fkind k n).length ≤ 2000 := by rw [List.length_append]; omega
    unfold I15a
    rw [happ]
    generalize l ++ fkind k n = l1 at *
    have h47 : (l1.length + 1) * 16 ≤ 140737488355328 := by omega
    rw [getS_expand hl]
    simp [L24_0, List.range, List.range.loop, e1, e5, e6, e14, e15, e21, e22, hn', wn, hm, h47, hc13, hs13]
    exact ⟨_, _, ⟨rfl, rfl⟩, .inl rfl, ⟨by simp [noNil, hnl], rfl, rfl, rfl, rfl⟩, rfl, rfl⟩
  · rintro ⟨s, hh⟩ ⟨g, m, rfl, hm, ⟨hnn, hl, e1, e14, e15⟩, e5, e6, e21, e22⟩
    simp only at hl e1 e5 e6 e14 e15 e21 e22
    have hnl : ∀ j, getS s j ≠ .nils := noNil_get hnn
    unfold Q15a
    generalize l ++ fkind k M = l1 at *
    rw [getS_expand hl]
    simp [L24_0, List.range, List.range.loop, e1, e5, e6, e14, e15, e21, e22]
    exact ⟨_, _, ⟨rfl, rfl⟩, hm, ⟨by simp [noNil, hnl], rfl, rfl, rfl, rfl⟩, rfl, rfl⟩
def I15 (c : Ct) (A : Nat) (k : Nat) (st : St) : Prop := ∃ g m, st.h = hK c g m (fupto c A k) [] ∧ (m = 2 ∨ m = 0) ∧ Keep15 k st.s ∧ getS st.s 5 = .sl 11 g m 0 (fupto c A k).length
def Q15 (c : Ct) (A : Nat) (r : R) : Prop := r.x = .exit 0 ∧ ∃ g m, r.st.h = hK c g m (fupto c A 6) [] ∧ r.st.s.length = 34 ∧ getS r.st.s 5 = .sl 11 g m 0 (fupto c A 6).length
def kindW (w : V) : Prop := w = .nilfn ∨ ∃ p, p < 9 ∧ w = .fn 86 [] [.bptr (p + 1) 0, .bptr (p + 2) 0]
theorem calm_hK (c : Ct) (g m : Nat) (l : List (Int × Int)) (t : Txt) (b : Bool) (n : Int) (w : V) (hw : kindW w) : calm (hK c g m l [⟨0, .box [.str t, .bool b, num n, w]⟩]) := by
  rcases hw with rfl | ⟨p, hp, rfl⟩
  · simp [calm, scrubO]
  · have h1 : p + 1 < 13 := by omega
    have h2 : p + 2 < 13 := by omega
    simp [calm, scrubO, h1, h2]
theorem loop15 {c : Ct} {A : Nat} (h : Mid c A) (st : St) (h0 : I15 c A 0 st) : ∃ r, ev pg (.code (.going 12 L24_1) st) = some r ∧ Q15 c A r := by
  refine loop_from (I15 c A) 6 (Q15 c A) h0 ?_ ?_
  · rintro k ⟨s, hh⟩ hk ⟨g, m, rfl, hm, ⟨hnn, hl, e1, e14, e15⟩, e5⟩
    simp only at hl e1 e5 e14 e15
    have hnl : ∀ j, getS s j ≠ .nils := noNil_get hnn
    have wk := wrap_id (n := (k : Int) + 1) (by omega) (by omega)
    have hk' : (k : Int) < 6 := by omega
    obtain ⟨t, b, n, w, hkc, hbk, hw⟩ : ∃ t b n w, ((kC 1).drop (k * 4)).take 4 = [.str t, .bool b, num n, w] ∧ b = decide (k = 2 ∨ k = 3) ∧ kindW w := by
      rcases (by omega : k = 0 ∨ k = 1 ∨ k = 2 ∨ k = 3 ∨ k = 4 ∨ k = 5) with rfl | rfl | rfl | rfl | rfl | rfl
      · exact ⟨_, _, _, _, rfl, rfl, .inr ⟨1, by omega, rfl⟩⟩
      · exact ⟨_, _, _, _, rfl, rfl, .inr ⟨3, by omega, rfl⟩⟩
      · exact ⟨_, _, _, _, rfl, rfl, .inl rfl⟩
      · exact ⟨_, _, _, _, rfl, rfl, .inl rfl⟩
      · exact ⟨_, _, _, _, rfl, rfl, .inr ⟨5, by omega, rfl⟩⟩
      · exact ⟨_, _, _, _, rfl, rfl, .inr ⟨7, by omega, rfl⟩⟩
    have hk4 : 4 ≤ 24 - k * 4 := by omega
    have hb : ∀ h, bindN h [w] = ([w], h) := fun h => by
      rcases hw with rfl | ⟨p, hp, rfl⟩ <;> rfl
    have hlow : w.low 13 = true := by
      rcases hw with rfl | ⟨p, hp, rfl⟩
      · rfl
      · have h1 : p + 1 < 13 := by omega
        have h2 : p + 2 < 13 := by omega
        simp [h1, h2]
    have hscr : scrub1 13 w = w := by
      unfold scrub1
      rw [if_pos hlow]
    have h68a := ev56 h (calm_hK c g m (fupto c A k) t b n w hw) t b n w hb
    have h68b := ev56 h (h := []) rfl t b n w hb
    have hmost : (if b = true then (countN c A : Int) else c.act) = (mostN c A k : Nat) := by
      rw [← most_eq h k, hbk]
      by_cases h23 : k = 2 ∨ k = 3
      · rw [if_pos (by simpa using h23), if_pos (by omega)]
      · rw [if_neg (by simpa using h23), if_neg (by omega)]
    rw [hmost] at h68a h68b
    have hM172 := mostN_le h k
    have hfl := fupto_len h k
    have hsucc := fupto_succ c A k
    have hloop := loop15a c [.str t, .bool b, num n, w] (by simp [hlow]) (by simp only [List.map_cons, List.map_nil, hscr]; rfl) k (mostN c A k) (fupto c A k) hM172 (by omega)
    have hI : ∀ st : St, (st.h = hK c g m (fupto c A k) [⟨0, .box [.str t, .bool b, num n, w]⟩] ∧ Keep15 k st.s ∧ getS st.s 5 = .sl 11 g m 0 (fupto c A k).length ∧ getS st.s 6 = num k ∧ getS st.s 21 = num (mostN c A k : Nat) ∧ getS st.s 22 = num 0) → I15a c ⟨0, .box [.str t, .bool b, num n, w]⟩ k (mostN c A k) (fupto c A k) 0 st := fun st hst => by
      refine ⟨g, m, ?_, hm, hst.2.1, ?_, hst.2.2.2.1, hst.2.2.2.2.1, hst.2.2.2.2.2⟩
      · rw [hst.1]; simp [fkind]
      · rw [hst.2.2.1]; simp [fkind]
    unfold Q15a at hloop
    rw [← hsucc] at hloop
    unfold I15
    generalize fupto c A k = l at *
    generalize fupto c A (k + 1) = l' at *
    generalize mostN c A k = M at *
    rw [getS_expand hl]
    rcases hw with rfl | ⟨p, hp, rfl⟩
    · simp [L24_1, List.range, List.range.loop, e1, e5, e14, e15, hk, hk', hk4, hkc, h68b, ev_loop, hnl]
      generalize hr : ev pg (.code (.going 13 L24_0) _) = o
      obtain ⟨r, rfl, hx, g', m', hrh, hm', ⟨hrn, hrl, r1, r14, r15⟩, r5⟩ : ∃ r, o = some r ∧ _ := by
        rw [← hr]
        exact hloop _ (hI _ ⟨rfl, ⟨by simp [noNil, hnl], rfl, rfl, rfl, rfl⟩, rfl, rfl, rfl, rfl⟩)
      simp [hx, hrh, hrl, r15, wk]
      refine ⟨g', m', ⟨rfl, rfl⟩, hm', ⟨?_, ?_, ?_, ?_, ?_⟩, ?_⟩
      · apply noNil_scrub
        repeat (first | with_reducible exact hrn | with_reducible refine noNil_set ?_ (by simp))
      · simp [hrl]
      · simp [r1]
      · simp [r14]
      · simp [hrl]
      · simp [r5]
    · simp [L24_1, List.range, List.range.loop, e1, e5, e14, e15, hk, hk', hk4, hkc, h68a, ev_loop, hnl]
      generalize hr : ev pg (.code (.going 13 L24_0) _) = o
      obtain ⟨r, rfl, hx, g', m', hrh, hm', ⟨hrn, hrl, r1, r14, r15⟩, r5⟩ : ∃ r, o = some r ∧ _ := by
        rw [← hr]
        exact hloop _ (hI _ ⟨rfl, ⟨by simp [noNil, hnl], rfl, rfl, rfl, rfl⟩, rfl, rfl, rfl, rfl⟩)
      simp [hx, hrh, hrl, r15, wk]
      refine ⟨g', m', ⟨rfl, rfl⟩, hm', ⟨?_, ?_, ?_, ?_, ?_⟩, ?_⟩
      · apply noNil_scrub
        repeat (first | with_reducible exact hrn | with_reducible refine noNil_set ?_ (by simp))
      · simp [hrl]
      · simp [r1]
      · simp [r14]
      · simp [hrl]
      · simp [r5]
  · rintro ⟨s, hh⟩ ⟨g, m, rfl, hm, ⟨hnn, hl, e1, e14, e15⟩, e5⟩
    simp only at hl e1 e5 e14 e15
    unfold Q15
    generalize fupto c A 6 = l at *
    rw [getS_expand hl]
    simp [L24_1, List.range, List.range.loop, e1, e5, e14, e15]
theorem ev24 (c : Ct) (hfew : c.small = true) : ev pg (.call (.fn 24 [] []) [c.v] []) = some { v := .tup [faults (allL c), num c.check], st := ⟨[], []⟩ } := by
  have h29 := ev30 c hfew
  have hM := fun h : c.check = 0 => mid_check h hfew
  have h67 := ev55 [⟨0, .box c.cells⟩]
  unfold allL
  generalize c.check = e at *
  rw [ev_call, pg24]
  by_cases he : e = 0
  · have hloop := loop15 (hM he)
    have hI : ∀ st : St, (st.h = hK c 0 0 [] [] ∧ Keep15 0 st.s ∧ getS st.s 5 = .sl 11 0 0 0 0) → I15 c c.act.toNat 0 st := fun st hst => by
      refine ⟨0, 0, ?_, .inr rfl, hst.2.1, ?_⟩
      · rw [hst.1]; rfl
      · rw [hst.2.2]; rfl
    unfold Q15 at hloop
    generalize fupto c c.act.toNat 6 = l at *
    rw [if_pos he]
    simp [ir24, h29, h67, he, ev_loop]
    generalize hr : ev pg (.code (.going 12 L24_1) _) = o
    obtain ⟨r, rfl, hx, g, m, hh, hl, h5⟩ : ∃ r, o = some r ∧ _ := by
      rw [← hr]
      exact hloop _ (hI _ ⟨by simp, ⟨by simp [noNil], by simp, by simp, by simp, by simp⟩, by simp⟩)
    simp [hx, hh, hl, h5]
  · simp [ir24, h29, he]
end Go.Proofs.YtopjiafdimoeiaaGreat
/- Pilots, by the reference. -/
namespace Go.Proofs.YtopjiafdimoeiaaGreat
open Go Go.Am Go.Proofs
set_option maxRecDepth 100000
def lineV (k : Int) : Int := if k = 2 then 1 else 0
def pil (c : Ct) (k i : Int) (j : Nat) : Int × Int :=
  if k = 2 ∨ k = 3 then (if c.plus.getD j 0 = i then lineV k else -1, if c.minus.getD j 0 = i then lineV k else -1)
  else if (j : Int) = i then (if k = 0 then (0, -1) else if k = 1 then (-1, 0) else if k = 4 then (1, 0) else (0, 1)) else (-1, -1)
def pilL (c : Ct) (k i : Int) (n : Nat) : List (Int × Int) := (List.range n).map (pil c k i)
theorem pilL_succ (c : Ct) (k i : Int) (n : Nat) : pilL c k i (n + 1) = pilL c k i n ++ [pil c k i n] := by
  unfold pilL
  rw [List.range_succ, List.map_append]
  rfl
theorem pilL_len (c : Ct) (k i : Int) (n : Nat) : (pilL c k i n).length = n := by simp [pilL]
end Go.Proofs.YtopjiafdimoeiaaGreat
