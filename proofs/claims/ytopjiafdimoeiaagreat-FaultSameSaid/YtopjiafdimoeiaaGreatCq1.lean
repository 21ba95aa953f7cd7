/- Controls: numbers of lines, by the program. -/
import Derived.Test.YtopjiafdimoeiaaGreatCp3
namespace Go.Proofs.YtopjiafdimoeiaaGreat
open Go Go.Am Go.Proofs
set_option maxRecDepth 100000
theorem ev81 (n : Nat) (hn : 0 < n) (hn2 : n ≤ 80) : ev pg (.call (.fn 81 [] []) [.nils, num n] [⟨0, .arr 0 []⟩]) = some { v := .sl 1 0 1 0 0, st := ⟨[], [⟨0, .arr 0 []⟩, ⟨0, .arr 1 []⟩]⟩ } := by
  have w1 := wrap_id (n := (n : Int)) (by omega) (by omega)
  have p1 : ¬ ((n : Int) < 0) := by omega
  have w0 := wrap_id (n := 0) (by omega) (by omega)
  have p3 : n * 8 ≤ 140737488355328 := by omega
  rw [ev_call, pg81]
  simp [ir81, w0, w1, p1, hn, p3, moveVs, moveV, move1]
  omega
theorem ev45 (a b : List Int) (ha : a.length ≤ 40) (hb : b.length ≤ 40) (hp : 0 < a.length) : ev pg (.call (.fn 45 [] []) [.imm [[ints a], [ints b]]] []) = some { v := .sl 0 0 1 0 (a.length + b.length), st := ⟨[], [⟨0, .arr 1 ((a ++ b).map nrow)⟩]⟩ } := by
  have h161 := ev81 (a.length + b.length) (by omega) (by omega)
  have w1 := wrap_id (n := (a.length : Int)) (by omega) (by omega)
  have w2 := wrap_id (n := (a.length : Int) + (b.length : Int)) (by omega) (by omega)
  have p1 : ¬ ((a.length : Int) < 0) := by omega
  have p2 : ¬ ((a.length : Int) + (b.length : Int) < 0) := by omega
  have i1 := wrap_id (n := 1) (by omega) (by omega)
  have i2 := wrap_id (n := 2) (by omega) (by omega)
  have q1 : a.length * 8 ≤ 140737488355328 := by omega
  have q2 : (a.length + b.length) * 8 ≤ 140737488355328 := by omega
  have hf : ((a.length : Int) + (b.length : Int)) = ((a.length + b.length : Nat) : Int) := by omega
  simp at h161
  rw [ev_call, pg45]
  simp [ir45, ev_loop]
  rw [ev_going]
  simp [L45_0, w1, p1, i1]
  rw [ev_going]
  simp [w2, p2, i2]
  rw [ev_going]
  simp [h161]
  rw [ev_going]
  simp [L45_1, q1, i1]
  rw [ev_going]
  simp [i2, q2]
  rw [ev_going]
  simp [moveVs, moveV, move1]
/-- Is there a number of this kind in the list? -/
def I87 (v : V) (h : H) (l : List Int) (p : Int → Bool) (k : Nat) (st : St) : Prop := st.h = h ∧ st.s.length = 19 ∧ getS st.s 0 = ints l ∧ getS st.s 1 = v ∧ getS st.s 7 = num l.length ∧ getS st.s 8 = num k ∧ l.any p = (l.drop k).any p
def Q87 (h : H) (l : List Int) (p : Int → Bool) (r : R) : Prop := r.st.s.length = 19 ∧ ((r.x = .exit 0 ∧ r.st.h = h ∧ l.any p = false) ∨ (r.x = .ret ∧ r.st.h = h ∧ (∃ k : Nat, getS r.st.s 4 = num k) ∧ l.any p = true))
theorem loop87 {f : Nat} {caps : List V} {h : H} {l : List Int} {p : Int → Bool} (hl80 : l.length ≤ 4096) (hlow : lowL 0 caps = false) (hcap : lowL h.length caps = true) (hc : ∀ n : Int, ev pg (.call (.fn f [] caps) [num n] h) = some { v := .bool (p n), st := ⟨[], h⟩ }) (hcl : calm h) (n : Nat) (hn : n = h.length) (st : St) (h0 : I87 (.fn f [] caps) h l p 0 st) : ∃ r, ev pg (.code (.going n L119_0) st) = some r ∧ Q87 h l p r := by
  have hcut := calm_cutL hcl
  rw [← hn] at hcut hcap
  refine loop_from (I87 (.fn f [] caps) h l p) l.length (Q87 h l p) h0 ?_ ?_
  · rintro k ⟨s, hh⟩ hk ⟨rfl, hl, e0, e1, e7, e8, he⟩
    simp only at hl e0 e1 e7 e8
    have hk' : (k : Int) < l.length := by omega
    have wk := wrap_id (n := (k : Int) + 1) (by omega) (by omega)
    have hcn := hc l[k]
    rw [any_at hk] at he
    generalize p l[k] = b at *
    rw [getS_expand hl]
    cases b with
    | true =>
      simp [-cutL, L119_0, Q87, List.range, List.range.loop, e0, e1, e7, e8, hk, hk', hlow, hcn]
      exact ⟨⟨k, rfl⟩, by simpa using he⟩
    | false =>
      simp [-cutL, L119_0, I87, List.range, List.range.loop, e0, e1, e7, e8, hk, hk', hlow, hcn, hcut, hcap, wk]
      simpa using he
  · rintro ⟨s, hh⟩ ⟨rfl, hl, e0, e1, e7, e8, he⟩
    simp only [List.drop_length] at hl e0 e1 e7 e8 he
    have he' : l.any p = false := he
    rw [getS_expand hl]
    simp [L119_0, Q87, List.range, List.range.loop, e0, e1, e7, e8]
    simpa using he'
theorem ev95 {f : Nat} {caps : List V} {h : H} {l : List Int} {p : Int → Bool} (hl80 : l.length ≤ 4096) (hlow : lowL 0 caps = false) (hcap : lowL h.length caps = true) (hc : ∀ n : Int, ev pg (.call (.fn f [] caps) [num n] h) = some { v := .bool (p n), st := ⟨[], h⟩ }) (hcl : calm h) : ev pg (.call (.fn 95 [] []) [ints l, .fn f [] caps] h) = some { v := .bool (l.any p), st := ⟨[], h⟩ } := by
  have hloop := loop87 hl80 hlow hcap hc hcl
  have hck := calm_cutK hcl
  have h87 : ∃ r : Int, ev pg (.call (.fn 119 [] []) [ints l, .fn f [] caps] h) = some { v := num r, st := ⟨[], h⟩ } ∧ decide (0 ≤ r) = l.any p := by
    unfold Q87 at hloop
    have hI : ∀ st : St, I87 (.fn f [] caps) h l p 0 st ↔ (st.h = h ∧ st.s.length = 19 ∧ getS st.s 0 = ints l ∧ getS st.s 1 = .fn f [] caps ∧ getS st.s 7 = num l.length ∧ getS st.s 8 = num 0) := fun st => by
      unfold I87
      exact ⟨fun h => ⟨h.1, h.2.1, h.2.2.1, h.2.2.2.1, h.2.2.2.2.1, h.2.2.2.2.2.1⟩, fun h => ⟨h.1, h.2.1, h.2.2.1, h.2.2.2.1, h.2.2.2.2.1, h.2.2.2.2.2, rfl⟩⟩
    generalize l.any p = B at *
    rw [ev_call, pg119]
    simp [-cutK, ir119, ev_loop]
    generalize hr : ev pg (.code (.going _ L119_0) _) = o
    obtain ⟨r, rfl, hl, hQ⟩ : ∃ r, o = some r ∧ _ := by
      rw [← hr]
      exact hloop _ rfl _ ((hI _).2 ⟨by simp, by simp, by simp, by simp, by simp, by simp⟩)
    rcases hQ with ⟨hx, hh, rfl⟩ | ⟨hx, hh, ⟨k, h4⟩, rfl⟩
    · simp [-cutK, hx, hh, hl, hck]
    · simp [-cutK, hx, hh, h4, hck]
  obtain ⟨r, h87, hr⟩ := h87
  rw [ev_call, pg95, ← hr]
  simp [-cutK, ir95, h87, hck]
theorem ev96 {c : Ct} {A : Nat} (hM : Mid c A) {h : H} {i : Nat} (hi : h[i]? = some ⟨0, .box c.cells⟩) (hcl : calm h) (n : Int) : ev pg (.call (.fn 96 [] [.bptr i 0]) [num n] h) = some { v := .bool (badL (countN c A : Nat) n), st := ⟨[], h⟩ } := by
  have hck := calm_cutK hcl
  have h133 := ev51 hM
  rw [ev_call, pg96]
  unfold badL
  generalize countN c A = N at *
  by_cases h1 : n < 0
  · simp [-cutK, ir96, h1, hck]
  · simp [-cutK, ir96, h1, hi, h133, hck]
end Go.Proofs.YtopjiafdimoeiaaGreat
