/- Kinds of faults, by the program and by the reference. All faults, by the reference. -/
import Derived.Test.YtopjiafdimoeiaaGreatCq3
/- Kinds of faults, by the program and by the reference. -/
namespace Go.Proofs.YtopjiafdimoeiaaGreat
open Go Go.Am Go.Proofs
set_option maxRecDepth 100000
theorem ev85 (a b : Int) (h : H) : ev pg (.call (.fn 85 [] []) [num a, num b] h) = some { v := .fn 86 [] [.bptr h.length 0, .bptr (h.length + 1) 0], st := ⟨[], h ++ [⟨0, .box [num a]⟩, ⟨0, .box [num b]⟩]⟩ } := by
  rw [ev_call, pg85]
  simp [ir85]
abbrev kTa (t : H) : H := ⟨0, .box [num 0]⟩ :: ⟨0, .box [num (-1)]⟩ :: ⟨0, .box [num (-1)]⟩ :: ⟨0, .box [num 0]⟩ :: ⟨0, .box [num 1]⟩ :: ⟨0, .box [num 0]⟩ :: ⟨0, .box [num 0]⟩ :: ⟨0, .box [num 1]⟩ :: t
abbrev t0t : Txt := [32, 115, 116, 117, 99, 107, 32, 105, 110]
abbrev t1t : Txt := [32, 115, 116, 117, 99, 107, 32, 111, 117, 116]
abbrev t2t : Txt := [32, 116, 114, 117, 101]
abbrev t3t : Txt := [32, 102, 97, 108, 115, 101]
abbrev t4t : Txt := [32, 118, 97, 108, 118, 101, 32, 116, 114, 117, 101]
abbrev t5t : Txt := [32, 118, 97, 108, 118, 101, 32, 102, 97, 108, 115, 101]
abbrev kC (n : Nat) : List V := [.str t0t, .bool false, num 0, .fn 86 [] [.bptr (n + 1) 0, .bptr (n + 2) 0], .str t1t, .bool false, num 0, .fn 86 [] [.bptr (n + 3) 0, .bptr (n + 4) 0], .str t2t, .bool true, num 1, .nilfn, .str t3t, .bool true, num 0, .nilfn, .str t4t, .bool false, num 0, .fn 86 [] [.bptr (n + 5) 0, .bptr (n + 6) 0], .str t5t, .bool false, num 0, .fn 86 [] [.bptr (n + 7) 0, .bptr (n + 8) 0]]
theorem ev55 (h : H) : ev pg (.call (.fn 55 [] []) [] h) = some { v := .agg (kC h.length), st := ⟨[], h ++ (⟨0, .box (kC h.length)⟩ :: kTa [])⟩ } := by
  have h112 := ev85
  rw [ev_call, pg55]
  simp [ir55, h112]
theorem ev56 {c : Ct} {A : Nat} (hM : Mid c A) {h : H} (hcl : calm h) (t : Txt) (b : Bool) (n : Int) (w : V) (hw : ∀ h, bindN h [w] = ([w], h)) : ev pg (.call (.fn 56 [] []) [c.v, .agg [.str t, .bool b, num n, w]] h) = some { v := num (if b = true then (countN c A : Int) else c.act), st := ⟨[], h⟩ } := by
  have h73 := ev59 hM
  have hck := cutK_app hcl [⟨0, .box c.cells⟩, ⟨0, .box [.str t, .bool b, num n, w]⟩]
  generalize hn : h.length = N at *
  rw [ev_call, pg56]
  cases b with
  | true =>
    simp [-cutK, ir56, hn, hw, h73, hck]
  | false =>
    simp [-cutK, ir56, hn, hw, hck]
abbrev fv (k i : Int) : V := .agg [num k, num i]
def rightE (c : Ct) (A : Nat) (k i : Int) : Int := if k < 0 ∨ 6 ≤ k then 1 else if i < 0 ∨ (if k = 2 ∨ k = 3 then (countN c A : Int) else c.act) ≤ i then 2 else 0
theorem ev34 {c : Ct} {A : Nat} (hM : Mid c A) (k i : Int) : ev pg (.call (.fn 34 [] []) [c.v, fv k i] []) = some { v := num (rightE c A k i), st := ⟨[], []⟩ } := by
  have h67 := ev55 [⟨0, .box c.cells⟩, ⟨0, .box [num k, num i]⟩]
  rw [ev_call, pg34]
  unfold rightE
  by_cases h1 : k < 0
  · simp [ir34, h67, h1]
  by_cases h2 : 6 ≤ k
  · simp [ir34, h67, h1, h2]
  rw [if_neg (by omega)]
  by_cases h3 : i < 0
  · simp [ev_draw1, exT, chkOk, ir34, h67, h1, h2, h3]
  have hcl : ∀ k i : Int, calm (⟨0, .box c.cells⟩ :: ⟨0, .box [num k, num i]⟩ :: ⟨0, .box (kC 2)⟩ :: kTa [⟨0, .box (kC 2)⟩]) := fun k i => by simp [calm, scrubO]
  have hb : ∀ (w : V), w = .nilfn ∨ (∃ caps, w = .fn 86 [] caps) → ∀ h, bindN h [w] = ([w], h) := fun w hw h => by
    rcases hw with rfl | ⟨caps, rfl⟩ <;> rfl
  have h68 := fun (k : Int) t b n w hw => ev56 hM (hcl k i) t b n w (hb w hw)
  have h68n := fun t b n => ev56 hM (h := []) rfl t b n .nilfn (hb .nilfn (.inl rfl))
  generalize countN c A = N at *
  rcases (by omega : k = 0 ∨ k = 1 ∨ k = 2 ∨ k = 3 ∨ k = 4 ∨ k = 5) with rfl | rfl | rfl | rfl | rfl | rfl
  · have h68 := h68 0 t0t false 0 (.fn 86 [] [.bptr 3 0, .bptr 4 0]) (.inr ⟨_, rfl⟩)
    by_cases hi : c.act ≤ i
    · simp [ev_draw1, exT, chkOk, ir34, h67, h3, h68, hi]
    · simp [ev_draw1, exT, chkOk, ir34, h67, h3, h68, hi]
  · have h68 := h68 1 t1t false 0 (.fn 86 [] [.bptr 5 0, .bptr 6 0]) (.inr ⟨_, rfl⟩)
    by_cases hi : c.act ≤ i
    · simp [ev_draw1, exT, chkOk, ir34, h67, h3, h68, hi]
    · simp [ev_draw1, exT, chkOk, ir34, h67, h3, h68, hi]
  · have h68 := h68n t2t true 1
    by_cases hi : (N : Int) ≤ i
    · simp [ev_draw1, exT, chkOk, ir34, h67, h3, h68, hi]
    · simp [ev_draw1, exT, chkOk, ir34, h67, h3, h68, hi]
  · have h68 := h68n t3t true 0
    by_cases hi : (N : Int) ≤ i
    · simp [ev_draw1, exT, chkOk, ir34, h67, h3, h68, hi]
    · simp [ev_draw1, exT, chkOk, ir34, h67, h3, h68, hi]
  · have h68 := h68 4 t4t false 0 (.fn 86 [] [.bptr 7 0, .bptr 8 0]) (.inr ⟨_, rfl⟩)
    by_cases hi : c.act ≤ i
    · simp [ev_draw1, exT, chkOk, ir34, h67, h3, h68, hi]
    · simp [ev_draw1, exT, chkOk, ir34, h67, h3, h68, hi]
  · have h68 := h68 5 t5t false 0 (.fn 86 [] [.bptr 9 0, .bptr 10 0]) (.inr ⟨_, rfl⟩)
    by_cases hi : c.act ≤ i
    · simp [ev_draw1, exT, chkOk, ir34, h67, h3, h68, hi]
    · simp [ev_draw1, exT, chkOk, ir34, h67, h3, h68, hi]
theorem ev65 (k : Int) : ev pg (.call (.fn 65 [] []) [num k] []) = some { v := .bool (decide (k = 2 ∨ k = 3)), st := ⟨[], []⟩ } := by
  rw [ev_call, pg65]
  by_cases h2 : k = 2
  · simp [ir65, h2]
  · have h2b : (k == 2) = false := by simpa using h2
    by_cases h3 : k = 3
    · simp [ir65, h3]
    · have h3b : (k == 3) = false := by simpa using h3
      simp [ir65, h2, h2b, h3, h3b]
theorem ev77 {c : Ct} {A : Nat} (hM : Mid c A) (k : Int) : ev pg (.call (.fn 77 [] []) [c.v, num k] []) = some { v := num (if k = 2 ∨ k = 3 then (countN c A : Int) else c.act), st := ⟨[], []⟩ } := by
  have h37 := ev67 hM
  have h74 := ev65 k
  generalize countN c A = N at *
  rw [ev_call, pg77]
  by_cases h : k = 2 ∨ k = 3
  · simp only [decide_eq_true h] at h74
    rw [if_pos h]
    simp [ir77, h74, h37]
  · simp only [decide_eq_false h] at h74
    rw [if_neg h]
    simp [ir77, h74]
theorem ev36 {c : Ct} {A : Nat} (hM : Mid c A) (k i : Int) : ev pg (.call (.fn 36 [] []) [c.v, fv k i] []) = some { v := num (rightE c A k i), st := ⟨[], []⟩ } := by
  have h117 := ev77 hM k
  unfold rightE
  generalize (if k = 2 ∨ k = 3 then (countN c A : Int) else c.act) = m at *
  rw [ev_call, pg36]
  by_cases h1 : k < 0
  · simp [ir36, h1]
  by_cases h2 : 6 ≤ k
  · simp [ir36, h1, h2]
  rw [if_neg (by omega)]
  by_cases h3 : i < 0
  · simp [ev_draw1, exT, chkOk, ir36, h1, h2, h3]
  by_cases h4 : m ≤ i
  · simp [ev_draw1, exT, chkOk, ir36, h117, h1, h2, h3, h4]
  · simp [ev_draw1, exT, chkOk, ir36, h117, h1, h2, h3, h4]
def fltE (c : Ct) (k i : Int) : Int := if c.check = 0 then rightE c c.act.toNat k i else c.check
theorem mid_check {c : Ct} (h : c.check = 0) (hfew : c.small = true) : Mid c c.act.toNat := by
  obtain ⟨f1, f2, _⟩ := few_parts hfew
  unfold Ct.check at h
  split at h
  · cases h
  · exact ⟨by omega, by omega, by omega, f1, f2⟩
theorem ev28 (c : Ct) (hfew : c.small = true) (k i : Int) : ev pg (.call (.fn 28 [] []) [c.v, fv k i] []) = some { v := num (fltE c k i), st := ⟨[], []⟩ } := by
  have h29 := ev30 c hfew
  have hM := fun h : c.check = 0 => mid_check h hfew
  unfold fltE
  generalize c.check = e at *
  rw [ev_call, pg28]
  by_cases he : e = 0
  · have h79 := ev34 (hM he) k i
    generalize rightE c c.act.toNat k i = e2 at *
    simp [ir28, h29, h79, he]
  · simp [ir28, h29, he]
theorem ev31 (c : Ct) (hfew : c.small = true) (k i : Int) : ev pg (.call (.fn 31 [] []) [c.v, fv k i] []) = some { v := num (fltE c k i), st := ⟨[], []⟩ } := by
  have h69 := ev33 c hfew
  have hM := fun h : c.check = 0 => mid_check h hfew
  unfold fltE
  generalize c.check = e at *
  rw [ev_call, pg31]
  by_cases he : e = 0
  · have h80 := ev36 (hM he) k i
    generalize rightE c c.act.toNat k i = e2 at *
    simp [ir31, h69, h80, he]
  · simp [ir31, h69, he]
end Go.Proofs.YtopjiafdimoeiaaGreat
/- All faults, by the reference. -/
namespace Go.Proofs.YtopjiafdimoeiaaGreat
open Go Go.Am Go.Proofs
set_option maxRecDepth 100000
def mostN (c : Ct) (A k : Nat) : Nat := if k = 2 ∨ k = 3 then countN c A else A
def fkind (k n : Nat) : List (Int × Int) := (List.range n).map fun (i : Nat) => ((k : Int), (i : Int))
def fupto (c : Ct) (A k : Nat) : List (Int × Int) := (List.range k).flatMap fun j => fkind j (mostN c A j)
abbrev frow (p : Int × Int) : List V := [num p.1, num p.2]
theorem fkind_succ (k n : Nat) : fkind k (n + 1) = fkind k n ++ [((k : Int), (n : Int))] := by
  unfold fkind
  rw [List.range_succ, List.map_append]
  rfl
theorem fkind_len (k n : Nat) : (fkind k n).length = n := by simp [fkind]
theorem fupto_succ (c : Ct) (A k : Nat) : fupto c A (k + 1) = fupto c A k ++ fkind k (mostN c A k) := by
  unfold fupto
  rw [List.range_succ, List.flatMap_append]
  simp
theorem mostN_le {c : Ct} {A : Nat} (h : Mid c A) (k : Nat) : mostN c A k ≤ 172 := by
  obtain ⟨_, h1, h2, h3, h4⟩ := h
  unfold mostN countN
  split <;> omega
theorem fupto_len {c : Ct} {A : Nat} (h : Mid c A) : ∀ k, (fupto c A k).length ≤ 172 * k
  | 0 => by simp [fupto]
  | k + 1 => by
    rw [fupto_succ, List.length_append, fkind_len]
    have h1 := fupto_len h k
    have h2 := mostN_le h k
    omega
theorem most_eq {c : Ct} {A : Nat} (h : Mid c A) (k : Nat) : (if (k : Int) = 2 ∨ (k : Int) = 3 then (countN c A : Int) else c.act) = (mostN c A k : Nat) := by
  have hA := h.act
  unfold mostN
  by_cases hk : k = 2 ∨ k = 3
  · rw [if_pos (by omega), if_pos hk]
  · rw [if_neg (by omega), if_neg hk, hA]
abbrev faults (l : List (Int × Int)) : V := .imm (l.map frow)
def allL (c : Ct) : List (Int × Int) := if c.check = 0 then fupto c c.act.toNat 6 else []
end Go.Proofs.YtopjiafdimoeiaaGreat
