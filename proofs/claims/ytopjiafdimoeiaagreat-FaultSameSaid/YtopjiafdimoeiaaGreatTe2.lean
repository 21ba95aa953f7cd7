/- Texts of faults. Faults out of texts. -/
import Derived.Test.YtopjiafdimoeiaaGreatTo3
/- Texts of faults. -/
namespace Go.Proofs.YtopjiafdimoeiaaGreat
open Go Go.Am Go.Proofs
set_option maxRecDepth 100000
abbrev linet : Txt := [108, 105, 110, 101, 32]
def sufT (k : Int) : Txt := if k = 0 then t0t else if k = 1 then t1t else if k = 4 then t4t else t5t
def writ (c : Ct) (A : Nat) (k i : Int) : Txt := if k = 2 ∨ k = 3 then linet ++ nameAt c A i.toNat ++ (if k = 2 then t2t else t3t) else [UInt8.ofNat (65 + i.toNat)] ++ sufT k
theorem lit_A {q : Nat} (h : q < 6) : List.take 1 (List.drop q ([65, 66, 67, 68, 69, 70] : List UInt8)) = [UInt8.ofNat (65 + q)] := by
  rcases (by omega : q = 0 ∨ q = 1 ∨ q = 2 ∨ q = 3 ∨ q = 4 ∨ q = 5) with rfl | rfl | rfl | rfl | rfl | rfl <;> rfl
theorem nameAt_len {c : Ct} {A : Nat} (h : c.small = true) (k : Nat) : (nameAt c A k).length ≤ 200 := by
  obtain ⟨_, _, _, _, h5, h6⟩ := few_parts h
  unfold nameAt
  split
  · simp
  · split
    · cases hg : c.inputs[k - 2 * A]? with
      | none => simp
      | some s =>
        have := h5 s (List.mem_of_getElem? hg)
        simp only [Option.getD_some]
        omega
    · cases hg : c.signals[k - (2 * A + c.inputs.length)]? with
      | none => simp
      | some x =>
        have := (h6 x (List.mem_of_getElem? hg)).1
        simp only [Option.map_some, Option.getD_some]
        omega
theorem ev62 (c : Ct) (hfew : c.small = true) (hc : c.check = 0) (i : Nat) (hi : i < countN c c.act.toNat) : ev pg (.call (.fn 62 [] []) [c.v, num i] []) = some { v := .tup [.str (nameAt c c.act.toNat i), num 0], st := ⟨[], []⟩ } := by
  have hR := rgt_check hc hfew
  have h29 := ev30 c hfew
  have h133 := ev51 hR.mid
  have h127 := ev88 hR.mid i hi
  rw [hc] at h29
  have hlt : ¬ ((countN c c.act.toNat : Int) ≤ (i : Int)) := by omega
  have h0 : ¬ ((i : Int) < 0) := by omega
  generalize countN c c.act.toNat = N at *
  rw [ev_call, pg62]
  simp [ir62, h29, h133, h127, h0, hlt]
theorem ev60 (c : Ct) (hfew : c.small = true) (k i : Int) (hf : fltE c k i = 0) : ev pg (.call (.fn 60 [] []) [c.v, fv k i] []) = some { v := .str (writ c c.act.toNat k i), st := ⟨[], []⟩ } := by
  obtain ⟨hc, hk, hi0, hiN, hiA⟩ := flt_parts hf
  have hR := rgt_check hc hfew
  have h67 := ev55 [⟨0, .box c.cells⟩, ⟨0, .box [num k, num i]⟩, ⟨0, .box [.str [], .bool false, .int .i64 0, .nilfn]⟩]
  obtain ⟨n, rfl⟩ : ∃ n : Nat, i = n := ⟨i.toNat, by omega⟩
  have hlen := nameAt_len (A := c.act.toNat) hfew n
  have hA6 := hR.mid.hi
  have hA := hR.mid.act
  unfold writ
  rw [Int.toNat_natCast]
  rw [ev_call, pg60]
  by_cases hlin : k = 2 ∨ k = 3
  · have h120 := ev62 c hfew hc n (by have := hiN hlin; omega)
    rw [if_pos hlin]
    generalize nameAt c c.act.toNat n = s at *
    have b1 : 5 + s.length ≤ 140737488355328 := by omega
    have b2 : s.length + 1 + 1 + 1 + 1 + 1 + 5 ≤ 140737488355328 := by omega
    have b3 : s.length + 1 + 1 + 1 + 1 + 1 + 6 ≤ 140737488355328 := by omega
    rcases hlin with rfl | rfl
    · simp [ev_draw1, exT, chkOk, ir60, h67, h120, b1, b2]
    · simp [ev_draw1, exT, chkOk, ir60, h67, h120, b1, b3]
  · have hn6 : n < 6 := by have := hiA hlin; omega
    rw [if_neg hlin]
    have l1 := lit_A hn6
    have w1 := wrap_id (n := (n : Int) + 1) (by omega) (by omega)
    have p1 : (0 : Int) ≤ (n : Int) + 1 := by omega
    have n1 : ((n : Int) + 1).toNat = n + 1 := by omega
    have b1 : n + 1 ≤ 6 := by omega
    rcases (by omega : k = 0 ∨ k = 1 ∨ k = 4 ∨ k = 5) with rfl | rfl | rfl | rfl
    · simp [ev_draw1, exT, chkOk, ir60, h67, l1, w1, p1, n1, b1, sufT]
    · simp [ev_draw1, exT, chkOk, ir60, h67, l1, w1, p1, n1, b1, sufT]
    · simp [ev_draw1, exT, chkOk, ir60, h67, l1, w1, p1, n1, b1, sufT]
    · simp [ev_draw1, exT, chkOk, ir60, h67, l1, w1, p1, n1, b1, sufT]
end Go.Proofs.YtopjiafdimoeiaaGreat
/- Faults out of texts. -/
namespace Go.Proofs.YtopjiafdimoeiaaGreat
open Go Go.Am Go.Proofs
set_option maxRecDepth 100000
def isT (c : Ct) (t : Txt) (p : Int × Int) : Bool := writ c c.act.toNat p.1 p.2 == t
def parseV (c : Ct) (t : Txt) : (Int × Int) × Int := if c.check = 0 then (if 4096 < t.length then ((0, 0), 17) else match (allL c).find? (isT c t) with
  | some p => (p, 0)
  | none => ((0, 0), 4)) else ((0, 0), c.check)
theorem find_at {α : Type} {f : α → Bool} {l : List α} {k : Nat} (hk : k < l.length) : (l.drop k).find? f = if f l[k] = true then some l[k] else (l.drop (k + 1)).find? f := by
  rw [List.drop_eq_getElem_cons hk, List.find?_cons]
  cases f l[k] <;> rfl
theorem fupto_mem {c : Ct} {A : Nat} : ∀ {n : Nat} {p : Int × Int}, p ∈ fupto c A n → ∃ k i : Nat, k < n ∧ i < mostN c A k ∧ p = ((k : Int), (i : Int))
  | n, p, h => by
    unfold fupto fkind at h
    simp only [List.mem_flatMap, List.mem_range, List.mem_map] at h
    obtain ⟨k, hk, i, hi, rfl⟩ := h
    exact ⟨k, i, hk, hi, rfl⟩
theorem all_right {c : Ct} (hfew : c.small = true) {p : Int × Int} (hp : p ∈ allL c) : fltE c p.1 p.2 = 0 := by
  unfold allL at hp
  by_cases hc : c.check = 0
  · rw [if_pos hc] at hp
    obtain ⟨k, i, hk, hi, rfl⟩ := fupto_mem hp
    have hA := (mid_check hc hfew).act
    unfold fltE rightE
    rw [if_pos hc, if_neg (by omega), if_neg]
    unfold mostN at hi
    by_cases h23 : k = 2 ∨ k = 3
    · rw [if_pos h23] at hi
      have h23' : (k : Int) = 2 ∨ (k : Int) = 3 := by omega
      simp only [h23', if_true]
      omega
    · rw [if_neg h23] at hi
      have h23' : ¬ ((k : Int) = 2 ∨ (k : Int) = 3) := by omega
      simp only [h23', if_false]
      omega
  · rw [if_neg hc] at hp
    cases hp
theorem all_len (c : Ct) (hfew : c.small = true) : (allL c).length ≤ 1032 := by
  unfold allL
  by_cases hc : c.check = 0
  · rw [if_pos hc]
    exact fupto_len (mid_check hc hfew) 6
  · rw [if_neg hc]
    exact Nat.zero_le _
/-! ### by the reference -/
abbrev h26 (c : Ct) (p : Int × Int) : H := [⟨0, .box c.cells⟩, ⟨0, .box [num p.1, num p.2]⟩]
/-! ### by the program -/
structure Keep25 (l : List (Int × Int)) (t : Txt) (k : Nat) (st : List V) : Prop where
  len : st.length = 39
  t1 : getS st 1 = .str t
  t2 : getS st 2 = .bptr 0 0
  t4 : getS st 4 = .bptr 1 0
  t25 : getS st 25 = faults l
  t26 : getS st 26 = num l.length
  t27 : getS st 27 = num k
def I25 (c : Ct) (t : Txt) (l : List (Int × Int)) (k : Nat) (st : St) : Prop := st.h = h26 c (0, 0) ∧ Keep25 l t k st.s ∧ l.find? (isT c t) = (l.drop k).find? (isT c t)
def Q25 (c : Ct) (t : Txt) (l : List (Int × Int)) (r : R) : Prop := r.st.s.length = 39 ∧ getS r.st.s 4 = .bptr 1 0 ∧ ((r.x = .exit 1 ∧ r.st.h = h26 c (0, 0) ∧ l.find? (isT c t) = none) ∨ (r.x = .ret ∧ ∃ p z, r.st.h = h26 c p ++ z ∧ getS r.st.s 5 = num 0 ∧ l.find? (isT c t) = some p))
theorem loop25 (c : Ct) (hfew : c.small = true) (t : Txt) (l : List (Int × Int)) (hl9 : l.length ≤ 1032) (hall : ∀ p ∈ l, fltE c p.1 p.2 = 0) (st : St) (h0 : I25 c t l 0 st) : ∃ r, ev pg (.code (.going 2 L26_0) st) = some r ∧ Q25 c t l r := by
  refine loop_from (I25 c t l) l.length (Q25 c t l) h0 ?_ ?_
  · rintro k ⟨s, hh⟩ hk ⟨rfl, ⟨hl, e1, e2, e4, e25, e26, e27⟩, he⟩
    simp only at hl e1 e2 e4 e25 e26 e27
    have hk' : (k : Int) < l.length := by omega
    have wk := wrap_id (n := (k : Int) + 1) (by omega) (by omega)
    have h81 := ev60 c hfew _ _ (hall _ (List.getElem_mem hk))
    have hget := List.getElem?_eq_getElem hk
    rw [find_at hk] at he
    have hT : isT c t l[k] = (writ c c.act.toNat l[k].1 l[k].2 == t) := rfl
    rw [hT] at he
    generalize writ c c.act.toNat l[k].1 l[k].2 = w at *
    generalize l[k] = p at *
    rw [getS_expand hl]
    by_cases hw : w = t
    · have hwb : (w == t) = true := by simpa using hw
      rw [hwb, if_pos rfl] at he
      simp [L26_0, List.range, List.range.loop, e1, e2, e4, e25, e26, e27, hk', hget, h81, hwb]
      exact ⟨rfl, rfl, .inr ⟨rfl, p, _, rfl, rfl, he⟩⟩
    · have hwb : (w == t) = false := by simpa using hw
      rw [hwb, if_neg (by simp)] at he
      simp [L26_0, List.range, List.range.loop, e1, e2, e4, e25, e26, e27, hk', hget, h81, hwb, wk]
      exact ⟨rfl, ⟨rfl, rfl, rfl, rfl, rfl, rfl, rfl⟩, he⟩
  · rintro ⟨s, hh⟩ ⟨rfl, ⟨hl, e1, e2, e4, e25, e26, e27⟩, he⟩
    simp only [List.drop_length] at hl e1 e2 e4 e25 e26 e27 he
    have he' : l.find? (isT c t) = none := he
    unfold Q25
    generalize l.find? (isT c t) = o at *
    rw [getS_expand hl]
    simp [L26_0, List.range, List.range.loop, e1, e2, e4, e25, e26, e27]
    exact he'
theorem ev26 (c : Ct) (hfew : c.small = true) (t : Txt) : ev pg (.call (.fn 26 [] []) [c.v, .str t] []) = some { v := .tup [fv (parseV c t).1.1 (parseV c t).1.2, num (parseV c t).2], st := ⟨[], []⟩ } := by
  have h15 := ev24 c hfew
  have hloop := loop25 c hfew t (allL c) (all_len c hfew) (fun p hp => all_right hfew hp)
  unfold parseV
  by_cases he : c.check = 0
  · rw [if_pos he]
    rw [he] at h15
    by_cases hl : 4096 < t.length
    · have hl' : (4096 : Int) < (t.length : Int) := by omega
      rw [if_pos hl]
      generalize allL c = L at *
      rw [ev_call, pg26]
      simp [ir26, h15, hl']
    · have hl' : ¬ ((4096 : Int) < (t.length : Int)) := by omega
      rw [if_neg hl]
      have hI : ∀ st : St, (st.h = h26 c (0, 0) ∧ Keep25 (allL c) t 0 st.s) → I25 c t (allL c) 0 st := fun st h => ⟨h.1, h.2, rfl⟩
      unfold Q25 at hloop
      generalize (allL c).find? (isT c t) = o at *
      generalize allL c = L at *
      rw [ev_call, pg26]
      simp [ir26, h15, hl', ev_loop]
      generalize hr : ev pg (.code (.going 2 L26_0) _) = o'
      obtain ⟨r, rfl, hrl, r4, hQ⟩ : ∃ r, o' = some r ∧ _ := by
        rw [← hr]
        exact hloop _ (hI _ ⟨by simp, ⟨by simp, by simp, by simp, by simp, by simp, by simp, by simp⟩⟩)
      rcases hQ with ⟨hx, hh, rfl⟩ | ⟨hx, p, z, hh, r5, rfl⟩
      · simp [hx, hh, hrl, r4]
      · simp [hx, hh, r4, r5]
  · rw [if_neg he]
    generalize c.check = e at *
    generalize allL c = L at *
    rw [ev_call, pg26]
    simp [ir26, h15, he]
/-! ### the same -/
end Go.Proofs.YtopjiafdimoeiaaGreat
