/- All faults, by the reference. -/
import Derived.Test.YtopjiafdimoeiaaKd1
namespace Go.Proofs.Ytopjiafdimoeiaa
open Go Go.Am Go.Proofs
set_option maxRecDepth 100000
def mostN (c : Ct) (A k : Nat) : Nat := if k = 2 ∨ k = 3 then countN c A else A
def fkind (k n : Nat) : List (Int × Int) := (List.range n).map fun (i : Nat) => ((k : Int), (i : Int))
def fupto (c : Ct) (A k : Nat) : List (Int × Int) := (List.range k).flatMap fun j => fkind j (mostN c A j)
abbrev frow (p : Int × Int) : List V := [num p.1, num p.2]
theorem fkind_succ (k n : Nat) : fkind k (n + 1) = fkind k n ++ [((k : Int), (n : Int))] := by
  unfold fkind
  rw [List.range_succ, List.map_append]
  rfl
theorem fkind_len (k n : Nat) : (fkind k n).length = n := by simp [fkind]
theorem fupto_succ (c : Ct) (A k : Nat) : fupto c A (k + 1) = fupto c A k ++ fkind k (mostN c A k) := by
  unfold fupto
  rw [List.range_succ, List.flatMap_append]
  simp
theorem mostN_le {c : Ct} {A : Nat} (h : Mid c A) (k : Nat) : mostN c A k ≤ 172 := by
  obtain ⟨_, h1, h2, h3, h4⟩ := h
  unfold mostN countN
  split <;> omega
theorem fupto_len {c : Ct} {A : Nat} (h : Mid c A) : ∀ k, (fupto c A k).length ≤ 172 * k
  | 0 => by simp [fupto]
  | k + 1 => by
    rw [fupto_succ, List.length_append, fkind_len]
    have h1 := fupto_len h k
    have h2 := mostN_le h k
    omega
theorem most_eq {c : Ct} {A : Nat} (h : Mid c A) (k : Nat) : (if (k : Int) = 2 ∨ (k : Int) = 3 then (countN c A : Int) else c.act) = (mostN c A k : Nat) := by
  have hA := h.act
  unfold mostN
  by_cases hk : k = 2 ∨ k = 3
  · rw [if_pos (by omega), if_pos hk]
  · rw [if_neg (by omega), if_neg hk, hA]
structure Keep70 (k : Nat) (st : List V) : Prop where
  nn : noNil st
  len : st.length = 24
  t1 : getS st 1 = .bptr 0 0
  t4 : getS st 4 = num k
abbrev h70 (c : Ct) (g m : Nat) (l : List (Int × Int)) : H := [⟨0, .box c.cells⟩, ⟨0, .arr 0 []⟩, ⟨g, .arr m (l.map frow)⟩]
def I70a (c : Ct) (A k : Nat) (n : Nat) (st : St) : Prop := ∃ g m, st.h = h70 c g m (fupto c A k ++ fkind k n) ∧ (m = 2 ∨ m = 0) ∧ Keep70 k st.s ∧ getS st.s 3 = .sl 2 g m 0 (fupto c A k ++ fkind k n).length ∧ getS st.s 5 = num n
def Q70a (c : Ct) (A k : Nat) (r : R) : Prop := r.x = .exit 2 ∧ ∃ g m, r.st.h = h70 c g m (fupto c A (k + 1)) ∧ (m = 2 ∨ m = 0) ∧ Keep70 k r.st.s ∧ getS r.st.s 3 = .sl 2 g m 0 (fupto c A (k + 1)).length
theorem loop70a {c : Ct} {A : Nat} (h : Mid c A) (k : Nat) (hk : k < 6) (st : St) (h0 : I70a c A k 0 st) : ∃ r, ev pg (.code (.going 3 L70_0) st) = some r ∧ Q70a c A k r := by
  have h117 := ev117 h k
  rw [most_eq h k] at h117
  have hm172 := mostN_le h k
  have hfl := fupto_len h k
  have hsucc := fupto_succ c A k
  refine loop_from (I70a c A k) (mostN c A k) (Q70a c A k) h0 ?_ ?_
  · rintro n ⟨s, hh⟩ hn ⟨g, m, rfl, hm, ⟨hnn, hl, e1, e4⟩, e3, e5⟩
    simp only at hl e1 e3 e4 e5
    have hnl : ∀ j, getS s j ≠ .nils := noNil_get hnn
    have wn := wrap_id (n := (n : Int) + 1) (by omega) (by omega)
    have hsn := fkind_succ k n
    have hfn := fkind_len k n
    have happ : fupto c A k ++ fkind k (n + 1) = (fupto c A k ++ fkind k n) ++ [((k : Int), (n : Int))] := by rw [hsn, List.append_assoc]
    have hlen : (fupto c A k ++ fkind k n).length ≤ 2000 := by rw [List.length_append]; omega
    unfold I70a
    rw [happ]
    generalize fupto c A k ++ fkind k n = l at *
    have hn' : (n : Int) < (mostN c A k : Nat) := by omega
    have h47 : (l.length + 1) * 16 ≤ 140737488355328 := by omega
    generalize mostN c A k = M at *
    rw [getS_expand hl]
    simp [L70_0, List.range, List.range.loop, e1, e3, e4, e5, h117, hn', wn, hm, h47]
    exact ⟨_, _, ⟨rfl, rfl⟩, .inl rfl, ⟨by simp [noNil, hnl], rfl, rfl, rfl⟩, rfl, rfl⟩
  · rintro ⟨s, hh⟩ ⟨g, m, rfl, hm, ⟨hnn, hl, e1, e4⟩, e3, e5⟩
    simp only at hl e1 e3 e4 e5
    have hnl : ∀ j, getS s j ≠ .nils := noNil_get hnn
    unfold Q70a
    rw [hsucc]
    generalize fupto c A k ++ fkind k (mostN c A k) = l at *
    generalize mostN c A k = M at *
    rw [getS_expand hl]
    simp [L70_0, List.range, List.range.loop, e1, e3, e4, e5, h117]
    exact ⟨_, _, ⟨rfl, rfl⟩, hm, ⟨by simp [noNil, hnl], rfl, rfl, rfl⟩, rfl, rfl⟩
def I70 (c : Ct) (A : Nat) (k : Nat) (st : St) : Prop := ∃ g m, st.h = h70 c g m (fupto c A k) ∧ (m = 2 ∨ m = 0) ∧ Keep70 k st.s ∧ getS st.s 3 = .sl 2 g m 0 (fupto c A k).length
def Q70 (c : Ct) (A : Nat) (r : R) : Prop := r.x = .exit 0 ∧ ∃ g m, r.st.h = h70 c g m (fupto c A 6) ∧ r.st.s.length = 24 ∧ getS r.st.s 3 = .sl 2 g m 0 (fupto c A 6).length
theorem loop70 {c : Ct} {A : Nat} (h : Mid c A) (st : St) (h0 : I70 c A 0 st) : ∃ r, ev pg (.code (.going 3 L70_1) st) = some r ∧ Q70 c A r := by
  refine loop_from (I70 c A) 6 (Q70 c A) h0 ?_ ?_
  · rintro k ⟨s, hh⟩ hk ⟨g, m, rfl, hm, ⟨hnn, hl, e1, e4⟩, e3⟩
    simp only at hl e1 e3 e4
    have hnl : ∀ j, getS s j ≠ .nils := noNil_get hnn
    have wk := wrap_id (n := (k : Int) + 1) (by omega) (by omega)
    have hk' : (k : Int) < 6 := by omega
    have hk7 : ¬ ((6 : Int) ≤ (k : Int)) := by omega
    have hloop := loop70a h k hk
    have hI : ∀ st : St, (st.h = h70 c g m (fupto c A k) ∧ Keep70 k st.s ∧ getS st.s 3 = .sl 2 g m 0 (fupto c A k).length ∧ getS st.s 5 = num 0) → I70a c A k 0 st := fun st hst => by
      refine ⟨g, m, ?_, hm, hst.2.1, ?_, hst.2.2.2⟩
      · rw [hst.1]; simp [fkind]
      · rw [hst.2.2.1]; simp [fkind]
    unfold Q70a at hloop
    unfold I70
    generalize fupto c A k = l at *
    generalize fupto c A (k + 1) = l' at *
    rw [getS_expand hl]
    simp [L70_1, List.range, List.range.loop, e1, e3, e4, hk', ev_loop, hnl]
    generalize hr : ev pg (.code (.going 3 L70_0) _) = o
    obtain ⟨r, rfl, hx, g', m', hrh, hm', ⟨hrn, hrl, r1, r4⟩, r3⟩ : ∃ r, o = some r ∧ _ := by
      rw [← hr]
      exact hloop _ (hI _ ⟨rfl, ⟨by simp [noNil, hnl], rfl, rfl, rfl⟩, rfl, rfl⟩)
    have hns := noNil_get hrn
    simp [hx, hrh, hrl, r4, wk]
    refine ⟨g', m', ⟨rfl, rfl⟩, hm', ⟨?_, ?_, ?_, ?_⟩, ?_⟩
    · apply noNil_scrub
      repeat (first | with_reducible exact hrn | with_reducible refine noNil_set ?_ (by simp))
    · simp [hrl]
    · simp [r1]
    · simp [hrl]
    · simp [r3]
  · rintro ⟨s, hh⟩ ⟨g, m, rfl, hm, ⟨hnn, hl, e1, e4⟩, e3⟩
    simp only at hl e1 e3 e4
    unfold Q70
    generalize fupto c A 6 = l at *
    rw [getS_expand hl]
    simp [L70_1, List.range, List.range.loop, e1, e3, e4]
abbrev faults (l : List (Int × Int)) : V := .imm (l.map frow)
theorem ev70 {c : Ct} {A : Nat} (h : Mid c A) : ev pg (.call (.fn 70 [] []) [c.v] []) = some { v := faults (fupto c A 6), st := ⟨[], []⟩ } := by
  have hloop := loop70 h
  have hI : ∀ st : St, (st.h = h70 c 0 0 [] ∧ Keep70 0 st.s ∧ getS st.s 3 = .sl 2 0 0 0 0) → I70 c A 0 st := fun st hst => by
    refine ⟨0, 0, ?_, .inr rfl, hst.2.1, ?_⟩
    · rw [hst.1]; rfl
    · rw [hst.2.2]; rfl
  unfold Q70 at hloop
  generalize fupto c A 6 = l at *
  rw [ev_call, pg70]
  simp [ir70, ev_loop]
  generalize hr : ev pg (.code (.going 3 L70_1) _) = o
  obtain ⟨r, rfl, hx, g, m, hh, hl, h3⟩ : ∃ r, o = some r ∧ _ := by
    rw [← hr]
    exact hloop _ (hI _ ⟨by simp, ⟨by simp [noNil], by simp, by simp, by simp⟩, by simp⟩)
  simp [hx, hh, hl, h3]
def allL (c : Ct) : List (Int × Int) := if c.check = 0 then fupto c c.act.toNat 6 else []
theorem ev16 (c : Ct) (hfew : c.small = true) : ev pg (.call (.fn 16 [] []) [c.v] []) = some { v := .tup [faults (allL c), num c.check], st := ⟨[], []⟩ } := by
  have h69 := ev69 c hfew
  have hM := fun h : c.check = 0 => mid_check h hfew
  unfold allL
  generalize c.check = e at *
  rw [ev_call, pg16]
  by_cases he : e = 0
  · have h70 := ev70 (hM he)
    generalize fupto c c.act.toNat 6 = l at *
    simp [ir16, h69, h70, he]
  · simp [ir16, h69, he]
end Go.Proofs.Ytopjiafdimoeiaa
