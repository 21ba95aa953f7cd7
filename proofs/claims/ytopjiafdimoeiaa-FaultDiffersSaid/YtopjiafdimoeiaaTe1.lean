/- Texts of faults. -/
import Derived.Test.YtopjiafdimoeiaaTo3
namespace Go.Proofs.Ytopjiafdimoeiaa
open Go Go.Am Go.Proofs
set_option maxRecDepth 100000
abbrev linet : Txt := [108, 105, 110, 101, 32]
def sufT (k : Int) : Txt := if k = 0 then t0t else if k = 1 then t1t else if k = 4 then t4t else t5t
def writ (c : Ct) (A : Nat) (k i : Int) : Txt := if k = 2 ∨ k = 3 then linet ++ nameAt c A i.toNat ++ (if k = 2 then t2t else t3t) else [UInt8.ofNat (65 + i.toNat)] ++ sufT k
theorem lit_A {q : Nat} (h : q < 6) : List.take 1 (List.drop q ([65, 66, 67, 68, 69, 70] : List UInt8)) = [UInt8.ofNat (65 + q)] := by
  rcases (by omega : q = 0 ∨ q = 1 ∨ q = 2 ∨ q = 3 ∨ q = 4 ∨ q = 5) with rfl | rfl | rfl | rfl | rfl | rfl <;> rfl
theorem nameAt_len {c : Ct} {A : Nat} (h : c.small = true) (k : Nat) : (nameAt c A k).length ≤ 200 := by
  obtain ⟨_, _, _, _, h5, h6⟩ := few_parts h
  unfold nameAt
  split
  · simp
  · split
    · cases hg : c.inputs[k - 2 * A]? with
      | none => simp
      | some s =>
        have := h5 s (List.mem_of_getElem? hg)
        simp only [Option.getD_some]
        omega
    · cases hg : c.signals[k - (2 * A + c.inputs.length)]? with
      | none => simp
      | some x =>
        have := (h6 x (List.mem_of_getElem? hg)).1
        simp only [Option.map_some, Option.getD_some]
        omega
theorem ev120 (c : Ct) (hfew : c.small = true) (hc : c.check = 0) (i : Nat) (hi : i < countN c c.act.toNat) : ev pg (.call (.fn 120 [] []) [c.v, num i] []) = some { v := .tup [.str (nameAt c c.act.toNat i), num 0], st := ⟨[], []⟩ } := by
  have hR := rgt_check hc hfew
  have h29 := ev29 c hfew
  have h133 := ev133 hR.mid
  have h127 := ev127 hR.mid i hi
  rw [hc] at h29
  have hlt : ¬ ((countN c c.act.toNat : Int) ≤ (i : Int)) := by omega
  have h0 : ¬ ((i : Int) < 0) := by omega
  generalize countN c c.act.toNat = N at *
  rw [ev_call, pg120]
  simp [ir120, h29, h133, h127, h0, hlt]
theorem ev82 (c : Ct) (hfew : c.small = true) (k i : Int) (hf : fltE c k i = 0) : ev pg (.call (.fn 82 [] []) [c.v, fv k i] []) = some { v := .str (writ c c.act.toNat k i), st := ⟨[], []⟩ } := by
  obtain ⟨hc, hk, hi0, hiN, hiA⟩ := flt_parts hf
  have hR := rgt_check hc hfew
  have h74 := ev74 k
  obtain ⟨n, rfl⟩ : ∃ n : Nat, i = n := ⟨i.toNat, by omega⟩
  have hlen := nameAt_len (A := c.act.toNat) hfew n
  have hA6 := hR.mid.hi
  have hA := hR.mid.act
  unfold writ
  rw [Int.toNat_natCast]
  rw [ev_call, pg82]
  by_cases hlin : k = 2 ∨ k = 3
  · have h121 := ev121 hR.mid n (by have := hiN hlin; omega)
    rw [decide_eq_true hlin] at h74
    rw [if_pos hlin]
    generalize nameAt c c.act.toNat n = s at *
    have b1 : 5 + s.length ≤ 140737488355328 := by omega
    have b2 : s.length + 1 + 1 + 1 + 1 + 1 + 5 ≤ 140737488355328 := by omega
    have b3 : s.length + 1 + 1 + 1 + 1 + 1 + 6 ≤ 140737488355328 := by omega
    rcases hlin with rfl | rfl
    · simp [ir82, h74, h121, b1, b2]
    · simp [ir82, h74, h121, b1, b3]
  · have hn6 : n < 6 := by have := hiA hlin; omega
    rw [decide_eq_false hlin] at h74
    rw [if_neg hlin]
    have l1 := lit_A hn6
    have w1 := wrap_id (n := (n : Int) + 1) (by omega) (by omega)
    have p1 : (0 : Int) ≤ (n : Int) + 1 := by omega
    have n1 : ((n : Int) + 1).toNat = n + 1 := by omega
    have b1 : n + 1 ≤ 6 := by omega
    rcases (by omega : k = 0 ∨ k = 1 ∨ k = 4 ∨ k = 5) with rfl | rfl | rfl | rfl
    · simp [ir82, h74, l1, w1, p1, n1, b1, sufT]
    · simp [ir82, h74, l1, w1, p1, n1, b1, sufT]
    · simp [ir82, h74, l1, w1, p1, n1, b1, sufT]
    · simp [ir82, h74, l1, w1, p1, n1, b1, sufT]
theorem ev81 (c : Ct) (hfew : c.small = true) (k i : Int) (hf : fltE c k i = 0) : ev pg (.call (.fn 81 [] []) [c.v, fv k i] []) = some { v := .str (writ c c.act.toNat k i), st := ⟨[], []⟩ } := by
  obtain ⟨hc, hk, hi0, hiN, hiA⟩ := flt_parts hf
  have hR := rgt_check hc hfew
  have h67 := ev67 [⟨0, .box c.cells⟩, ⟨0, .box [num k, num i]⟩, ⟨0, .box [.str [], .bool false, .int .i64 0, .nilfn]⟩]
  obtain ⟨n, rfl⟩ : ∃ n : Nat, i = n := ⟨i.toNat, by omega⟩
  have hlen := nameAt_len (A := c.act.toNat) hfew n
  have hA6 := hR.mid.hi
  have hA := hR.mid.act
  unfold writ
  rw [Int.toNat_natCast]
  rw [ev_call, pg81]
  by_cases hlin : k = 2 ∨ k = 3
  · have h120 := ev120 c hfew hc n (by have := hiN hlin; omega)
    rw [if_pos hlin]
    generalize nameAt c c.act.toNat n = s at *
    have b1 : 5 + s.length ≤ 140737488355328 := by omega
    have b2 : s.length + 1 + 1 + 1 + 1 + 1 + 5 ≤ 140737488355328 := by omega
    have b3 : s.length + 1 + 1 + 1 + 1 + 1 + 6 ≤ 140737488355328 := by omega
    rcases hlin with rfl | rfl
    · simp [ev_draw1, exT, chkOk, ir81, h67, h120, b1, b2]
    · simp [ev_draw1, exT, chkOk, ir81, h67, h120, b1, b3]
  · have hn6 : n < 6 := by have := hiA hlin; omega
    rw [if_neg hlin]
    have l1 := lit_A hn6
    have w1 := wrap_id (n := (n : Int) + 1) (by omega) (by omega)
    have p1 : (0 : Int) ≤ (n : Int) + 1 := by omega
    have n1 : ((n : Int) + 1).toNat = n + 1 := by omega
    have b1 : n + 1 ≤ 6 := by omega
    rcases (by omega : k = 0 ∨ k = 1 ∨ k = 4 ∨ k = 5) with rfl | rfl | rfl | rfl
    · simp [ev_draw1, exT, chkOk, ir81, h67, l1, w1, p1, n1, b1, sufT]
    · simp [ev_draw1, exT, chkOk, ir81, h67, l1, w1, p1, n1, b1, sufT]
    · simp [ev_draw1, exT, chkOk, ir81, h67, l1, w1, p1, n1, b1, sufT]
    · simp [ev_draw1, exT, chkOk, ir81, h67, l1, w1, p1, n1, b1, sufT]
def textR (c : Ct) (k i : Int) : Txt := if fltE c k i = 0 then writ c c.act.toNat k i else []
theorem ev23 (c : Ct) (hfew : c.small = true) (k i : Int) : ev pg (.call (.fn 23 [] []) [c.v, fv k i] []) = some { v := .tup [.str (textR c k i), num (fltE c k i)], st := ⟨[], []⟩ } := by
  have h19 := ev19 c hfew k i
  unfold textR
  by_cases he : fltE c k i = 0
  · have h81 := ev81 c hfew k i he
    rw [if_pos he]
    rw [he] at h19 ⊢
    generalize writ c c.act.toNat k i = s at *
    rw [ev_call, pg23]
    simp [ir23, h19, h81]
  · rw [if_neg he]
    generalize fltE c k i = e at *
    rw [ev_call, pg23]
    simp [ir23, h19, he]
theorem ev24 (c : Ct) (hfew : c.small = true) (k i : Int) : ev pg (.call (.fn 24 [] []) [c.v, fv k i] []) = some { v := .tup [.str (textR c k i), num (fltE c k i)], st := ⟨[], []⟩ } := by
  have h20 := ev20 c hfew k i
  unfold textR
  by_cases he : fltE c k i = 0
  · have h82 := ev82 c hfew k i he
    rw [if_pos he]
    rw [he] at h20 ⊢
    generalize writ c c.act.toNat k i = s at *
    rw [ev_call, pg24]
    simp [ir24, h20, h82]
  · rw [if_neg he]
    generalize fltE c k i = e at *
    rw [ev_call, pg24]
    simp [ir24, h20, he]
end Go.Proofs.Ytopjiafdimoeiaa
