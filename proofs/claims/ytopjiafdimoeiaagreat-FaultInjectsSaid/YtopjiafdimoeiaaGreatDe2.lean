/- Pilots out of what a fault touches: a list without the lines. Faults that are alike, by the program. -/
import Derived.Test.YtopjiafdimoeiaaGreatFy5
/- Pilots out of what a fault touches: a list without the lines. -/
namespace Go.Proofs.YtopjiafdimoeiaaGreat
open Go Go.Am Go.Proofs
set_option maxRecDepth 100000
theorem set0 {G : H} {N : Nat} (hn : G.length = N) (a : Ob) (o : Ob) : (G ++ [a]).set N o = G ++ [o] := setN hn 0 [a] o
abbrev own1 (h : H) (g m : Nat) (W : List (List V)) : H := h ++ [⟨g, .arr m W⟩]
theorem calm_own {h : H} (hc : calm h) (g m : Nat) (W : List (List V)) : calm (own1 h g m W) := calm_app hc fun o ho => by
  obtain rfl := List.mem_singleton.1 ho
  rfl
/-- The first place of one of this kind. -/
def firstI (p : Int → Bool) (l : List Int) : Int := match l.findIdx? p with
  | some k => k
  | none => -1
def I87o (N : Nat) (v : V) (h : H) (l : List Int) (p : Int → Bool) (k : Nat) (st : St) : Prop := st.h = own1 h 0 1 (l.map nrow) ∧ st.s.length = 19 ∧ getS st.s 0 = .sl N 0 1 0 l.length ∧ getS st.s 1 = v ∧ getS st.s 7 = num l.length ∧ getS st.s 8 = num k ∧ ∀ j (hj : j < l.length), j < k → p l[j] = false
def Q87o (h : H) (l : List Int) (p : Int → Bool) (r : R) : Prop := r.st.s.length = 19 ∧ r.st.h = own1 h 0 1 (l.map nrow) ∧ ((r.x = .exit 0 ∧ firstI p l = -1) ∨ (r.x = .ret ∧ getS r.st.s 4 = num (firstI p l)))
theorem firstI_none {p : Int → Bool} {l : List Int} (h : ∀ j (hj : j < l.length), p l[j] = false) : firstI p l = -1 := by
  unfold firstI
  rw [List.findIdx?_eq_none_iff.2]
  intro x hx
  obtain ⟨j, hj, rfl⟩ := List.mem_iff_getElem.1 hx
  exact h j hj
theorem firstI_some {p : Int → Bool} {l : List Int} {k : Nat} (hk : k < l.length) (h : ∀ j (hj : j < l.length), j < k → p l[j] = false) (hp : p l[k] = true) : firstI p l = k := by
  unfold firstI
  rw [(List.findIdx?_eq_some_iff_getElem).2 ⟨hk, hp, fun j hj => by rw [h j (by omega) hj]; simp⟩]
theorem loop87o {f a : Nat} {h : H} {l : List Int} {p : Int → Bool} (hl9 : l.length ≤ 4096) (ha : a < h.length) (hcl : calm h) (hc : ∀ n : Int, ev pg (.call (.fn f [] [.bptr a 0]) [num n] (own1 h 0 1 (l.map nrow))) = some { v := .bool (p n), st := ⟨[], own1 h 0 1 (l.map nrow)⟩ }) (N : Nat) (hN : h.length = N) (st : St) (h0 : I87o N (.fn f [] [.bptr a 0]) h l p 0 st) : ∃ r, ev pg (.code (.going (N + 1) L119_0) st) = some r ∧ Q87o h l p r := by
  have hcut : cutL (N + 1) (own1 h 0 1 (l.map nrow)) = own1 h 0 1 (l.map nrow) := by
    have := calm_cutL (calm_own hcl 0 1 (l.map nrow))
    rwa [List.length_append, hN] at this
  have ha2 : a < N + 1 := by omega
  have hat := at0 hN ⟨0, .arr 1 (l.map nrow)⟩ []
  refine loop_from (I87o N (.fn f [] [.bptr a 0]) h l p) l.length (Q87o h l p) h0 ?_ ?_
  · rintro k ⟨s, hh⟩ hk ⟨rfl, hl, e0, e1, e7, e8, he⟩
    simp only at hl e0 e1 e7 e8
    have hk' : (k : Int) < l.length := by omega
    have wk := wrap_id (n := (k : Int) + 1) (by omega) (by omega)
    have hcn := hc l[k]
    have hget : (l.map nrow)[k]? = some (nrow l[k]) := by rw [List.getElem?_map, List.getElem?_eq_getElem hk]; rfl
    have hfs := firstI_some (p := p) hk he
    have hnext : p l[k] = false → ∀ j (hj : j < l.length), j < k + 1 → p l[j] = false := fun hp j hj hjk => by
      rcases Nat.lt_or_ge j k with h1 | h1
      · exact he j hj h1
      · obtain rfl : j = k := by omega
        exact hp
    clear he
    generalize hpb : p l[k] = b at *
    generalize l[k] = x at *
    generalize hW : l.map nrow = W at *
    rw [getS_expand hl]
    cases b with
    | true =>
      simp [-cutL, L119_0, Q87o, List.range, List.range.loop, e0, e1, e7, e8, hk, hk', hat, hget, hcn]
      exact ⟨hW.symm, (hfs rfl).symm⟩
    | false =>
      simp [-cutL, L119_0, I87o, List.range, List.range.loop, e0, e1, e7, e8, hk, hk', hat, hget, hcn, hcut, ha2, wk]
      exact ⟨hW.symm, hnext rfl⟩
  · rintro ⟨s, hh⟩ ⟨rfl, hl, e0, e1, e7, e8, he⟩
    simp only at hl e0 e1 e7 e8 he
    have hnone := firstI_none fun j hj => he j hj hj
    rw [getS_expand hl]
    simp [L119_0, Q87o, List.range, List.range.loop, e0, e1, e7, e8]
    exact hnone
theorem ev119o {f a : Nat} {h : H} {l : List Int} {p : Int → Bool} (hl9 : l.length ≤ 4096) (ha : a < h.length) (hcl : calm h) (hc : ∀ n : Int, ev pg (.call (.fn f [] [.bptr a 0]) [num n] (own1 h 0 1 (l.map nrow))) = some { v := .bool (p n), st := ⟨[], own1 h 0 1 (l.map nrow)⟩ }) {N : Nat} (hN : h.length = N) : ev pg (.call (.fn 119 [] []) [.sl N 0 1 0 l.length, .fn f [] [.bptr a 0]] (own1 h 0 1 (l.map nrow))) = some { v := num (firstI p l), st := ⟨[], own1 h 0 1 (l.map nrow)⟩ } := by
  have hloop := loop87o hl9 ha hcl hc N hN
  have hck := calm_cutK (calm_own hcl 0 1 (l.map nrow))
  rw [List.length_append, hN] at hck
  have hI : ∀ st : St, (st.h = own1 h 0 1 (l.map nrow) ∧ st.s.length = 19 ∧ getS st.s 0 = .sl N 0 1 0 l.length ∧ getS st.s 1 = .fn f [] [.bptr a 0] ∧ getS st.s 7 = num l.length ∧ getS st.s 8 = num 0) → I87o N (.fn f [] [.bptr a 0]) h l p 0 st := fun st h => ⟨h.1, h.2.1, h.2.2.1, h.2.2.2.1, h.2.2.2.2.1, h.2.2.2.2.2, fun j hj hj0 => by omega⟩
  unfold Q87o at hloop
  generalize firstI p l = F at *
  generalize l.map nrow = W at *
  rw [ev_call, pg119]
  simp [-cutK, ir119, ev_loop, hN]
  generalize hr : ev pg (.code (.going _ L119_0) _) = o
  obtain ⟨r, rfl, hl, hh, hQ⟩ : ∃ r, o = some r ∧ _ := by
    rw [← hr]
    exact hloop _ (hI _ ⟨by simp, by simp, by simp, by simp, by simp, by simp⟩)
  rcases hQ with ⟨hx, rfl⟩ | ⟨hx, h4⟩
  · simp [-cutK, hx, hh, hl]
    simpa using hck
  · simp [-cutK, hx, hh, h4]
    simpa using hck
/-! ### without them -/
abbrev own2 (h : H) (W : List (List V)) : H := h ++ [⟨0, .arr 1 W⟩, ⟨0, .arr 0 []⟩]
theorem set2a {G : H} {N : Nat} (hn : G.length = N) (a b : Ob) (o : Ob) : (G ++ [a, b]).set N o = G ++ [o, b] := setN hn 0 [a, b] o
theorem calm_own2 {h : H} (hc : calm h) (W : List (List V)) : calm (own2 h W) := calm_app hc fun o ho => by
  rcases List.mem_cons.1 ho with rfl | ho
  · rfl
  · obtain rfl := List.mem_singleton.1 ho
    rfl
def keepL (p : Int → Bool) (l : List Int) : List Int := l.filter fun n => !p n
def I34 (N : Nat) (v : V) (h : H) (l : List Int) (p : Int → Bool) (k0 k : Nat) (st : St) : Prop := ∃ W : List Int, st.h = own2 h (W.map nrow) ∧ st.s.length = 42 ∧ getS st.s 0 = .sl N 0 1 0 l.length ∧ getS st.s 1 = v ∧ getS st.s 5 = num (keepL p (l.take (k0 + k))).length ∧ getS st.s 6 = num (k0 + k : Nat) ∧ noNil st.s ∧ W.length = l.length ∧ W.take (keepL p (l.take (k0 + k))).length = keepL p (l.take (k0 + k)) ∧ W.drop (k0 + k) = l.drop (k0 + k) ∧ (keepL p (l.take (k0 + k))).length < k0 + k
def Q34 (N : Nat) (h : H) (l : List Int) (p : Int → Bool) (r : R) : Prop := r.x = .exit 0 ∧ ∃ W : List Int, r.st.h = own2 h (W.map nrow) ∧ r.st.s.length = 42 ∧ getS r.st.s 0 = .sl N 0 1 0 l.length ∧ getS r.st.s 5 = num (keepL p l).length ∧ W.length = l.length ∧ W.take (keepL p l).length = keepL p l
theorem keepL_succ {p : Int → Bool} {l : List Int} {k : Nat} (hk : k < l.length) : keepL p (l.take (k + 1)) = if p l[k] = true then keepL p (l.take k) else keepL p (l.take k) ++ [l[k]] := by
  unfold keepL
  rw [List.take_succ_eq_append_getElem hk, List.filter_append]
  cases h : p l[k] <;> simp [h]
theorem take_set_succ {x : Int} : ∀ {W : List Int} {i : Nat}, i < W.length → (W.set i x).take (i + 1) = W.take i ++ [x]
  | w :: W, 0, _ => rfl
  | w :: W, i + 1, h => by
    rw [List.set_cons_succ, List.take_succ_cons, take_set_succ (W := W) (by simpa using h)]
    rfl
theorem keepL_all {p : Int → Bool} {l : List Int} (h : firstI p l = -1) : keepL p l = l := by
  unfold firstI at h
  cases hf : l.findIdx? p with
  | some k => rw [hf] at h; simp only at h; omega
  | none =>
    rw [List.findIdx?_eq_none_iff] at hf
    unfold keepL
    rw [List.filter_eq_self]
    intro x hx
    rw [hf x hx]; rfl
theorem keepL_first {p : Int → Bool} {l : List Int} (h : firstI p l ≠ -1) : ∃ k : Nat, firstI p l = k ∧ k < l.length ∧ keepL p (l.take (k + 1)) = l.take k := by
  unfold firstI at h ⊢
  cases hf : l.findIdx? p with
  | none => rw [hf] at h; exact absurd rfl h
  | some k =>
    obtain ⟨hk, hp, hb⟩ := (List.findIdx?_eq_some_iff_getElem).1 hf
    refine ⟨k, rfl, hk, ?_⟩
    rw [keepL_succ hk, if_pos hp]
    unfold keepL
    rw [List.filter_eq_self]
    intro x hx
    obtain ⟨j, hj, rfl⟩ := List.mem_iff_getElem.1 hx
    rw [List.length_take] at hj
    rw [List.getElem_take]
    have := hb j (by omega)
    simpa using this
end Go.Proofs.YtopjiafdimoeiaaGreat
/- Faults that are alike, by the program. -/
namespace Go.Proofs.YtopjiafdimoeiaaGreat
open Go Go.Am Go.Proofs
set_option maxRecDepth 100000
def alikeE (c : Ct) (k i k' i' : Int) : Int := if fltE c k i = 0 then (if fltE c k' i' = 0 then (if injE c k i = 0 then injE c k' i' else injE c k i) else fltE c k' i') else fltE c k i
def alikeB (c : Ct) (k i k' i' : Int) : Bool := decide (alikeE c k i k' i' = 0) && sameC (injD c k i) (injD c k' i')
theorem inj_small {c : Ct} (hfew : c.small = true) (k i : Int) : (injD c k i).small = true := by
  unfold injD injE
  by_cases h1 : fltE c k i = 0
  · rw [if_pos h1]
    by_cases h2 : (faultyF c k i).d.check = 0
    · rw [if_pos h2, if_pos rfl]
      exact faulty_small hfew (flt_parts h1).1 k i
    · rw [if_neg h2, if_neg (by omega)]; rfl
  · rw [if_neg h1, if_neg h1]; rfl
theorem ev10 (c : Ct) (hfew : c.small = true) (k i k' i' : Int) : ev pg (.call (.fn 10 [] []) [c.v, fv k i, fv k' i'] []) = some { v := .tup [.bool (alikeB c k i k' i'), num (alikeE c k i k' i')], st := ⟨[], []⟩ } := by
  have h19 := ev28 c hfew k i
  have h28 := ev8 c hfew k i
  have h28' := ev8 c hfew k' i'
  have h32 := ev35 (injD c k i) (injD c k' i') (inj_small hfew k i) (inj_small hfew k' i')
  unfold alikeB alikeE
  rw [ev_call, pg10]
  by_cases h1 : fltE c k i = 0
  · have hM := mid_check (flt_parts h1).1 hfew
    have h79 := ev34 hM k' i'
    have hr : rightE c c.act.toNat k' i' = fltE c k' i' := by
      unfold fltE
      rw [if_pos (flt_parts h1).1]
    rw [hr] at h79
    rw [h1] at h19
    rw [if_pos h1]
    generalize fltE c k' i' = e2 at *
    by_cases h2 : e2 = 0
    · rw [if_pos h2]
      generalize injD c k i = D at *
      generalize injD c k' i' = D' at *
      generalize injE c k i = e3 at *
      generalize injE c k' i' = e4 at *
      generalize sameC D D' = B at *
      by_cases h3 : e3 = 0
      · rw [if_pos h3]
        by_cases h4 : e4 = 0
        · simp [ir10, h19, h79, h28, h28', h32, h2, h3, h4]
        · simp [ir10, h19, h79, h28, h28', h2, h3, h4]
      · rw [if_neg h3]
        simp [ir10, h19, h79, h28, h2, h3]
    · rw [if_neg h2]
      simp [ir10, h19, h79, h2]
  · rw [if_neg h1]
    generalize fltE c k i = e1 at *
    simp [ir10, h19, h1]
end Go.Proofs.YtopjiafdimoeiaaGreat
