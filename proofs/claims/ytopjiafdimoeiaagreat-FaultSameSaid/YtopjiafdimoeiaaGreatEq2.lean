/- Clones; is a text in a list? Are lists equal? Are expressions and controls equal? -/
import Derived.Test.YtopjiafdimoeiaaGreatFy1
/- Clones; is a text in a list? -/
namespace Go.Proofs.YtopjiafdimoeiaaGreat
open Go Go.Am Go.Proofs
set_option maxRecDepth 100000
theorem ev61 (l : List Txt) (hl : l.length ≤ 4096) : ev pg (.call (.fn 61 [] []) [.imm (l.map srow)] []) = some { v := .sl 0 0 1 0 l.length, st := ⟨[], [⟨0, .arr 1 (l.map srow)⟩]⟩ } := by
  rw [ev_call, pg61]
  cases l with
  | nil => simp [ir61, moveVs, moveV, move1]
  | cons x l =>
    have h47 : (l.length + 1) * 16 ≤ 140737488355328 := by
      simp only [List.length_cons] at hl
      omega
    simp [ir61, h47, moveVs, moveV, move1]
theorem ev42 (l : List Int) (hl : l.length ≤ 4096) : ev pg (.call (.fn 42 [] []) [ints l] []) = some { v := .sl 0 0 1 0 l.length, st := ⟨[], [⟨0, .arr 1 (l.map nrow)⟩]⟩ } := by
  rw [ev_call, pg42]
  cases l with
  | nil => simp [ir42, moveVs, moveV, move1]
  | cons x l =>
    have h47 : (l.length + 1) * 8 ≤ 140737488355328 := by
      simp only [List.length_cons] at hl
      omega
    simp [ir42, h47, moveVs, moveV, move1]
def isS (s x : Txt) : Bool := s == x
def I152 (K : List Txt) (t : Txt) (k : Nat) (st : St) : Prop := st.h = [] ∧ st.s.length = 19 ∧ getS st.s 0 = .imm (K.map srow) ∧ getS st.s 1 = .str t ∧ getS st.s 7 = num K.length ∧ getS st.s 8 = num k ∧ K.any (isS t) = (K.drop k).any (isS t)
def Q152 (K : List Txt) (t : Txt) (r : R) : Prop := r.st.s.length = 19 ∧ ((r.x = .exit 0 ∧ r.st.h = [] ∧ K.any (isS t) = false) ∨ (r.x = .ret ∧ r.st.h = [] ∧ (∃ k : Nat, getS r.st.s 4 = num k) ∧ K.any (isS t) = true))
theorem loop152 (K : List Txt) (t : Txt) (hK : K.length ≤ 4096) (st : St) (h0 : I152 K t 0 st) : ∃ r, ev pg (.code (.going 0 L89_0) st) = some r ∧ Q152 K t r := by
  refine loop_from (I152 K t) K.length (Q152 K t) h0 ?_ ?_
  · rintro k ⟨s, hh⟩ hk ⟨rfl, hl, e0, e1, e7, e8, he⟩
    simp only at hl e0 e1 e7 e8
    have hk' : (k : Int) < K.length := by omega
    have wk := wrap_id (n := (k : Int) + 1) (by omega) (by omega)
    rw [any_at hk] at he
    rw [getS_expand hl]
    by_cases hb : t = K[k]
    · have hb2 : isS t K[k] = true := by simpa [isS] using hb
      rw [hb2] at he
      have hb3 : (t == K[k]) = true := by simpa using hb
      simp [L89_0, Q152, List.range, List.range.loop, e0, e1, e7, e8, hk, hk', hb3]
      exact ⟨⟨k, rfl⟩, by simpa using he⟩
    · have hb2 : isS t K[k] = false := by simpa [isS] using hb
      rw [hb2] at he
      have hb3 : (t == K[k]) = false := by simpa using hb
      simp [L89_0, I152, List.range, List.range.loop, e0, e1, e7, e8, hk, hk', hb3, wk]
      simpa using he
  · rintro ⟨s, hh⟩ ⟨rfl, hl, e0, e1, e7, e8, he⟩
    simp only [List.drop_length] at hl e0 e1 e7 e8 he
    have he' : K.any (isS t) = false := he
    rw [getS_expand hl]
    simp [L89_0, Q152, List.range, List.range.loop, e0, e1, e7, e8]
    simpa using he'
theorem ev63 (K : List Txt) (t : Txt) (hK : K.length ≤ 4096) : ev pg (.call (.fn 63 [] []) [.imm (K.map srow), .str t] []) = some { v := .bool (K.any (isS t)), st := ⟨[], []⟩ } := by
  have hloop := loop152 K t hK
  have h152 : ∃ r : Int, ev pg (.call (.fn 89 [] []) [.imm (K.map srow), .str t] []) = some { v := num r, st := ⟨[], []⟩ } ∧ decide (0 ≤ r) = K.any (isS t) := by
    unfold Q152 at hloop
    have hI : ∀ st : St, I152 K t 0 st ↔ (st.h = [] ∧ st.s.length = 19 ∧ getS st.s 0 = .imm (K.map srow) ∧ getS st.s 1 = .str t ∧ getS st.s 7 = num K.length ∧ getS st.s 8 = num 0) := fun st => by
      unfold I152
      exact ⟨fun h => ⟨h.1, h.2.1, h.2.2.1, h.2.2.2.1, h.2.2.2.2.1, h.2.2.2.2.2.1⟩, fun h => ⟨h.1, h.2.1, h.2.2.1, h.2.2.2.1, h.2.2.2.2.1, h.2.2.2.2.2, rfl⟩⟩
    generalize K.any (isS t) = B at *
    rw [ev_call, pg89]
    simp [ir89, ev_loop]
    generalize hr : ev pg (.code (.going _ L89_0) _) = o
    obtain ⟨r, rfl, hl, hQ⟩ : ∃ r, o = some r ∧ _ := by
      rw [← hr]
      exact hloop _ ((hI _).2 ⟨by simp, by simp, by simp, by simp, by simp, by simp⟩)
    rcases hQ with ⟨hx, hh, rfl⟩ | ⟨hx, hh, ⟨k, h4⟩, rfl⟩
    · simp [hx, hh, hl]
    · simp [hx, h4]
  obtain ⟨r, h152, hr⟩ := h152
  rw [ev_call, pg63, ← hr]
  simp [ir63, h152]
theorem any_mem (K : List Txt) (t : Txt) : K.any (isS t) = decide (t ∈ K) := by
  rw [Bool.eq_iff_iff, List.any_eq_true, decide_eq_true_eq]
  constructor
  · rintro ⟨x, hx, e⟩
    unfold isS at e
    rw [beq_iff_eq] at e
    rw [e]; exact hx
  · intro h
    exact ⟨t, h, by simp [isS]⟩
end Go.Proofs.YtopjiafdimoeiaaGreat
/- Are lists equal? -/
namespace Go.Proofs.YtopjiafdimoeiaaGreat
open Go Go.Am Go.Proofs
set_option maxRecDepth 100000
def I38 (a b : List Int) (k : Nat) (st : St) : Prop := st.h = [] ∧ st.s.length = 26 ∧ getS st.s 0 = .imm (a.map nrow) ∧ getS st.s 1 = .imm (b.map nrow) ∧ getS st.s 12 = num a.length ∧ getS st.s 13 = num k ∧ decide (a = b) = decide (a.drop k = b.drop k)
def Q38 (a b : List Int) (r : R) : Prop := r.st.s.length = 26 ∧ r.st.h = [] ∧ ((r.x = .exit 0 ∧ decide (a = b) = true) ∨ (r.x = .ret ∧ getS r.st.s 4 = .bool false ∧ decide (a = b) = false))
theorem loop38 (a b : List Int) (hab : b.length = a.length) (ha : a.length ≤ 4096) (st : St) (h0 : I38 a b 0 st) : ∃ r, ev pg (.code (.going 0 L27_0) st) = some r ∧ Q38 a b r := by
  refine loop_from (I38 a b) a.length (Q38 a b) h0 ?_ ?_
  · rintro k ⟨s, hh⟩ hk ⟨rfl, hl, e0, e1, e12, e13, he⟩
    simp only at hl e0 e1 e12 e13
    have hk' : (k : Int) < a.length := by omega
    have hkb : k < b.length := by omega
    have wk := wrap_id (n := (k : Int) + 1) (by omega) (by omega)
    rw [List.drop_eq_getElem_cons hk, List.drop_eq_getElem_cons hkb] at he
    rw [getS_expand hl]
    by_cases hb : a[k] = b[k]
    · have he' : decide (a = b) = decide (a.drop (k + 1) = b.drop (k + 1)) := by rw [he]; simp only [List.cons.injEq, hb, true_and]
      simp [L27_0, I38, List.range, List.range.loop, e0, e1, e12, e13, hk, hk', hkb, hb, wk]
      simpa using he'
    · have he' : decide (a = b) = false := by rw [he]; simp only [List.cons.injEq, hb, false_and, decide_false]
      simp [L27_0, Q38, List.range, List.range.loop, e0, e1, e12, e13, hk, hk', hkb, hb]
      simpa using he'
  · rintro ⟨s, hh⟩ ⟨rfl, hl, e0, e1, e12, e13, he⟩
    simp only [List.drop_length] at hl e0 e1 e12 e13 he
    rw [show List.drop a.length b = [] by rw [← hab]; exact List.drop_length] at he
    have he' : decide (a = b) = true := by rw [he]; rfl
    rw [getS_expand hl]
    simp [L27_0, Q38, List.range, List.range.loop, e0, e1, e12, e13]
    simpa using he'
theorem ev27 (a b : List Int) (ha : a.length ≤ 4096) : ev pg (.call (.fn 27 [] []) [.imm (a.map nrow), .imm (b.map nrow)] []) = some { v := .bool (decide (a = b)), st := ⟨[], []⟩ } := by
  by_cases hab : b.length = a.length
  · have hloop := loop38 a b hab ha
    have hab' : (b.length : Int) = a.length := by omega
    unfold Q38 at hloop
    have hI : ∀ st : St, I38 a b 0 st ↔ (st.h = [] ∧ st.s.length = 26 ∧ getS st.s 0 = .imm (a.map nrow) ∧ getS st.s 1 = .imm (b.map nrow) ∧ getS st.s 12 = num a.length ∧ getS st.s 13 = num 0) := fun st => by
      unfold I38
      exact ⟨fun h => ⟨h.1, h.2.1, h.2.2.1, h.2.2.2.1, h.2.2.2.2.1, h.2.2.2.2.2.1⟩, fun h => ⟨h.1, h.2.1, h.2.2.1, h.2.2.2.1, h.2.2.2.2.1, h.2.2.2.2.2, rfl⟩⟩
    generalize decide (a = b) = B at *
    rw [ev_call, pg27]
    simp [ir27, ev_loop, hab']
    generalize hr : ev pg (.code (.going _ L27_0) _) = o
    obtain ⟨r, rfl, hl, hh, hQ⟩ : ∃ r, o = some r ∧ _ := by
      rw [← hr]
      exact hloop _ ((hI _).2 ⟨by simp, by simp, by simp, by simp, by simp, by simp⟩)
    rcases hQ with ⟨hx, rfl⟩ | ⟨hx, h4, rfl⟩
    · simp [hx, hh, hl]
    · simp [hx, h4]
  · have hd : decide (a = b) = false := by
      rw [decide_eq_false_iff_not]
      intro e
      exact hab (by rw [e])
    have hne : ((a.length : Int) != (b.length : Int)) = true := by
      rw [bne_iff_ne]; omega
    rw [hd, ev_call, pg27]
    simp [ir27, hne]
end Go.Proofs.YtopjiafdimoeiaaGreat
/- Are expressions and controls equal? -/
namespace Go.Proofs.YtopjiafdimoeiaaGreat
open Go Go.Am Go.Proofs
set_option maxRecDepth 100000
mutual
def Ex.same : Ex → Ex → Bool
  | .mk o i l, .mk o' i' l' => o == o' && (i == i' && sameL l l')
def sameL : List Ex → List Ex → Bool
  | [], [] => true
  | x :: l, y :: l' => x.same y && sameL l l'
  | _, _ => false
end
end Go.Proofs.YtopjiafdimoeiaaGreat
