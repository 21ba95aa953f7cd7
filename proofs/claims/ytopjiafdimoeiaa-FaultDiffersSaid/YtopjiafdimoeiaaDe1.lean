import Derived.Test.YtopjiafdimoeiaaFy5
import Derived.Test.YtopjiafdimoeiaaAw4
/- Pilots out of what a fault touches: a list without the lines. -/
namespace Go.Proofs.Ytopjiafdimoeiaa
open Go Go.Am Go.Proofs
set_option maxRecDepth 100000
theorem ev36 {c : Ct} {A : Nat} (hM : Mid c A) {h : H} {i : Nat} (hi : h[i]? = some ⟨0, .box c.cells⟩) (hcl : calm h) (n : Int) : ev pg (.call (.fn 36 [] [.bptr i 0]) [num n] h) = some { v := .bool (decide (n < (countN c A : Nat))), st := ⟨[], h⟩ } := by
  have hck := calm_cutK hcl
  have h37 := ev37 hM
  rw [ev_call, pg36]
  generalize countN c A = N at *
  simp [-cutK, ir36, hi, h37, hck]
theorem set0 {G : H} {N : Nat} (hn : G.length = N) (a : Ob) (o : Ob) : (G ++ [a]).set N o = G ++ [o] := setN hn 0 [a] o
abbrev own1 (h : H) (g m : Nat) (W : List (List V)) : H := h ++ [⟨g, .arr m W⟩]
theorem calm_own {h : H} (hc : calm h) (g m : Nat) (W : List (List V)) : calm (own1 h g m W) := calm_app hc fun o ho => by
  obtain rfl := List.mem_singleton.1 ho
  rfl
/-- The first place of one of this kind. -/
def firstI (p : Int → Bool) (l : List Int) : Int := match l.findIdx? p with
  | some k => k
  | none => -1
def I87o (N : Nat) (v : V) (h : H) (l : List Int) (p : Int → Bool) (k : Nat) (st : St) : Prop := st.h = own1 h 0 1 (l.map nrow) ∧ st.s.length = 19 ∧ getS st.s 0 = .sl N 0 1 0 l.length ∧ getS st.s 1 = v ∧ getS st.s 7 = num l.length ∧ getS st.s 8 = num k ∧ ∀ j (hj : j < l.length), j < k → p l[j] = false
def Q87o (h : H) (l : List Int) (p : Int → Bool) (r : R) : Prop := r.st.s.length = 19 ∧ r.st.h = own1 h 0 1 (l.map nrow) ∧ ((r.x = .exit 0 ∧ firstI p l = -1) ∨ (r.x = .ret ∧ getS r.st.s 4 = num (firstI p l)))
theorem firstI_none {p : Int → Bool} {l : List Int} (h : ∀ j (hj : j < l.length), p l[j] = false) : firstI p l = -1 := by
  unfold firstI
  rw [List.findIdx?_eq_none_iff.2]
  intro x hx
  obtain ⟨j, hj, rfl⟩ := List.mem_iff_getElem.1 hx
  exact h j hj
theorem firstI_some {p : Int → Bool} {l : List Int} {k : Nat} (hk : k < l.length) (h : ∀ j (hj : j < l.length), j < k → p l[j] = false) (hp : p l[k] = true) : firstI p l = k := by
  unfold firstI
  rw [(List.findIdx?_eq_some_iff_getElem).2 ⟨hk, hp, fun j hj => by rw [h j (by omega) hj]; simp⟩]
theorem loop87o {f a : Nat} {h : H} {l : List Int} {p : Int → Bool} (hl9 : l.length ≤ 4096) (ha : a < h.length) (hcl : calm h) (hc : ∀ n : Int, ev pg (.call (.fn f [] [.bptr a 0]) [num n] (own1 h 0 1 (l.map nrow))) = some { v := .bool (p n), st := ⟨[], own1 h 0 1 (l.map nrow)⟩ }) (N : Nat) (hN : h.length = N) (st : St) (h0 : I87o N (.fn f [] [.bptr a 0]) h l p 0 st) : ∃ r, ev pg (.code (.going (N + 1) L87_0) st) = some r ∧ Q87o h l p r := by
  have hcut : cutL (N + 1) (own1 h 0 1 (l.map nrow)) = own1 h 0 1 (l.map nrow) := by
    have := calm_cutL (calm_own hcl 0 1 (l.map nrow))
    rwa [List.length_append, hN] at this
  have ha2 : a < N + 1 := by omega
  have hat := at0 hN ⟨0, .arr 1 (l.map nrow)⟩ []
  refine loop_from (I87o N (.fn f [] [.bptr a 0]) h l p) l.length (Q87o h l p) h0 ?_ ?_
  · rintro k ⟨s, hh⟩ hk ⟨rfl, hl, e0, e1, e7, e8, he⟩
    simp only at hl e0 e1 e7 e8
    have hk' : (k : Int) < l.length := by omega
    have wk := wrap_id (n := (k : Int) + 1) (by omega) (by omega)
    have hcn := hc l[k]
    have hget : (l.map nrow)[k]? = some (nrow l[k]) := by rw [List.getElem?_map, List.getElem?_eq_getElem hk]; rfl
    have hfs := firstI_some (p := p) hk he
    have hnext : p l[k] = false → ∀ j (hj : j < l.length), j < k + 1 → p l[j] = false := fun hp j hj hjk => by
      rcases Nat.lt_or_ge j k with h1 | h1
      · exact he j hj h1
      · obtain rfl : j = k := by omega
        exact hp
    clear he
    generalize hpb : p l[k] = b at *
    generalize l[k] = x at *
    generalize hW : l.map nrow = W at *
    rw [getS_expand hl]
    cases b with
    | true =>
      simp [-cutL, L87_0, Q87o, List.range, List.range.loop, e0, e1, e7, e8, hk, hk', hat, hget, hcn]
      exact ⟨hW.symm, (hfs rfl).symm⟩
    | false =>
      simp [-cutL, L87_0, I87o, List.range, List.range.loop, e0, e1, e7, e8, hk, hk', hat, hget, hcn, hcut, ha2, wk]
      exact ⟨hW.symm, hnext rfl⟩
  · rintro ⟨s, hh⟩ ⟨rfl, hl, e0, e1, e7, e8, he⟩
    simp only at hl e0 e1 e7 e8 he
    have hnone := firstI_none fun j hj => he j hj hj
    rw [getS_expand hl]
    simp [L87_0, Q87o, List.range, List.range.loop, e0, e1, e7, e8]
    exact hnone
theorem ev87o {f a : Nat} {h : H} {l : List Int} {p : Int → Bool} (hl9 : l.length ≤ 4096) (ha : a < h.length) (hcl : calm h) (hc : ∀ n : Int, ev pg (.call (.fn f [] [.bptr a 0]) [num n] (own1 h 0 1 (l.map nrow))) = some { v := .bool (p n), st := ⟨[], own1 h 0 1 (l.map nrow)⟩ }) {N : Nat} (hN : h.length = N) : ev pg (.call (.fn 87 [] []) [.sl N 0 1 0 l.length, .fn f [] [.bptr a 0]] (own1 h 0 1 (l.map nrow))) = some { v := num (firstI p l), st := ⟨[], own1 h 0 1 (l.map nrow)⟩ } := by
  have hloop := loop87o hl9 ha hcl hc N hN
  have hck := calm_cutK (calm_own hcl 0 1 (l.map nrow))
  rw [List.length_append, hN] at hck
  have hI : ∀ st : St, (st.h = own1 h 0 1 (l.map nrow) ∧ st.s.length = 19 ∧ getS st.s 0 = .sl N 0 1 0 l.length ∧ getS st.s 1 = .fn f [] [.bptr a 0] ∧ getS st.s 7 = num l.length ∧ getS st.s 8 = num 0) → I87o N (.fn f [] [.bptr a 0]) h l p 0 st := fun st h => ⟨h.1, h.2.1, h.2.2.1, h.2.2.2.1, h.2.2.2.2.1, h.2.2.2.2.2, fun j hj hj0 => by omega⟩
  unfold Q87o at hloop
  generalize firstI p l = F at *
  generalize l.map nrow = W at *
  rw [ev_call, pg87]
  simp [-cutK, ir87, ev_loop, hN]
  generalize hr : ev pg (.code (.going _ L87_0) _) = o
  obtain ⟨r, rfl, hl, hh, hQ⟩ : ∃ r, o = some r ∧ _ := by
    rw [← hr]
    exact hloop _ (hI _ ⟨by simp, by simp, by simp, by simp, by simp, by simp⟩)
  rcases hQ with ⟨hx, rfl⟩ | ⟨hx, h4⟩
  · simp [-cutK, hx, hh, hl]
    simpa using hck
  · simp [-cutK, hx, hh, h4]
    simpa using hck
/-! ### without them -/
abbrev own2 (h : H) (W : List (List V)) : H := h ++ [⟨0, .arr 1 W⟩, ⟨0, .arr 0 []⟩]
theorem set2a {G : H} {N : Nat} (hn : G.length = N) (a b : Ob) (o : Ob) : (G ++ [a, b]).set N o = G ++ [o, b] := setN hn 0 [a, b] o
theorem calm_own2 {h : H} (hc : calm h) (W : List (List V)) : calm (own2 h W) := calm_app hc fun o ho => by
  rcases List.mem_cons.1 ho with rfl | ho
  · rfl
  · obtain rfl := List.mem_singleton.1 ho
    rfl
def keepL (p : Int → Bool) (l : List Int) : List Int := l.filter fun n => !p n
def I34 (N : Nat) (v : V) (h : H) (l : List Int) (p : Int → Bool) (k0 k : Nat) (st : St) : Prop := ∃ W : List Int, st.h = own2 h (W.map nrow) ∧ st.s.length = 42 ∧ getS st.s 0 = .sl N 0 1 0 l.length ∧ getS st.s 1 = v ∧ getS st.s 5 = num (keepL p (l.take (k0 + k))).length ∧ getS st.s 6 = num (k0 + k : Nat) ∧ noNil st.s ∧ W.length = l.length ∧ W.take (keepL p (l.take (k0 + k))).length = keepL p (l.take (k0 + k)) ∧ W.drop (k0 + k) = l.drop (k0 + k) ∧ (keepL p (l.take (k0 + k))).length < k0 + k
def Q34 (N : Nat) (h : H) (l : List Int) (p : Int → Bool) (r : R) : Prop := r.x = .exit 0 ∧ ∃ W : List Int, r.st.h = own2 h (W.map nrow) ∧ r.st.s.length = 42 ∧ getS r.st.s 0 = .sl N 0 1 0 l.length ∧ getS r.st.s 5 = num (keepL p l).length ∧ W.length = l.length ∧ W.take (keepL p l).length = keepL p l
theorem keepL_succ {p : Int → Bool} {l : List Int} {k : Nat} (hk : k < l.length) : keepL p (l.take (k + 1)) = if p l[k] = true then keepL p (l.take k) else keepL p (l.take k) ++ [l[k]] := by
  unfold keepL
  rw [List.take_succ_eq_append_getElem hk, List.filter_append]
  cases h : p l[k] <;> simp [h]
theorem take_set_succ {x : Int} : ∀ {W : List Int} {i : Nat}, i < W.length → (W.set i x).take (i + 1) = W.take i ++ [x]
  | w :: W, 0, _ => rfl
  | w :: W, i + 1, h => by
    rw [List.set_cons_succ, List.take_succ_cons, take_set_succ (W := W) (by simpa using h)]
    rfl
theorem loop34 {f a : Nat} {h : H} {l : List Int} {p : Int → Bool} (hl9 : l.length ≤ 4096) (ha : a < h.length) (hcl : calm h) (hc : ∀ (W : List (List V)) (n : Int), ev pg (.call (.fn f [] [.bptr a 0]) [num n] (own2 h W)) = some { v := .bool (p n), st := ⟨[], own2 h W⟩ }) (N : Nat) (hN : h.length = N) (k0 : Nat) (hk0 : k0 ≤ l.length) (st : St) (h0 : I34 N (.fn f [] [.bptr a 0]) h l p k0 0 st) : ∃ r, ev pg (.code (.going (N + 2) L34_0) st) = some r ∧ Q34 N h l p r := by
  have hcut : ∀ W, cutL (N + 2) (own2 h W) = own2 h W := fun W => by
    have := calm_cutL (calm_own2 hcl W)
    rwa [List.length_append, hN] at this
  have ha2 : a < N + 2 := by omega
  have hat := fun W => at0 hN ⟨0, .arr 1 W⟩ [⟨0, .arr 0 []⟩]
  have hset := fun W o => set2a hN ⟨0, .arr 1 W⟩ ⟨0, .arr 0 []⟩ o
  refine loop_from (I34 N (.fn f [] [.bptr a 0]) h l p k0) (l.length - k0) (Q34 N h l p) h0 ?_ ?_
  · rintro k ⟨s, hh⟩ hk ⟨W, rfl, hl, e0, e1, e5, e6, hnn, hW, ht, hd, hlt⟩
    simp only at hl e0 e1 e5 e6 hnn
    have hnl : ∀ j, getS s j ≠ .nils := noNil_get hnn
    have hk1 : k0 + k < l.length := by omega
    have hks := keepL_succ (p := p) hk1
    unfold I34
    rw [show k0 + (k + 1) = k0 + k + 1 by omega]
    generalize k0 + k = j at *
    have hj' : (j : Int) < l.length := by omega
    have wj := wrap_id (n := (j : Int) + 1) (by omega) (by omega)
    have hgW : W[j]? = some l[j] := by
      have h1 : (W.drop j)[0]? = (l.drop j)[0]? := by rw [hd]
      rw [List.getElem?_drop, List.getElem?_drop, Nat.add_zero, List.getElem?_eq_getElem hk1] at h1
      exact h1
    have hget : (W.map nrow)[j]? = some (nrow l[j]) := by rw [List.getElem?_map, hgW]; rfl
    have hcn := fun W => hc W l[j]
    have hd1 : W.drop (j + 1) = l.drop (j + 1) := by
      have := congrArg (List.drop 1) hd
      rwa [List.drop_drop, List.drop_drop] at this
    generalize hpb : p l[j] = b at *
    generalize l[j] = x at *
    generalize keepL p (l.take j) = Kj at *
    rw [getS_expand hl]
    cases b with
    | true =>
      rw [if_pos rfl] at hks
      rw [hks]
      simp [-cutL, L34_0, List.range, List.range.loop, e0, e1, e5, e6, hk1, hj', hat, hget, hcn, hcut, ha2, wj]
      exact ⟨W, rfl, by simp [noNil, hnl], hW, ht, hd1, by omega⟩
    | false =>
      rw [if_neg (by decide)] at hks
      rw [hks]
      have wi := wrap_id (n := (Kj.length : Int) + 1) (by omega) (by omega)
      have hKl : Kj.length < l.length := by omega
      have hKW : Kj.length < W.length := by omega
      have hts := take_set_succ (x := x) hKW
      rw [ht] at hts
      simp [-cutL, L34_0, List.range, List.range.loop, e0, e1, e5, e6, hk1, hj', hat, hget, hcn, hcut, ha2, wj, wi, hKl, hKW, hset]
      exact ⟨W.set Kj.length x, by rw [List.map_set], by simp [noNil, hnl], by rw [List.length_set, hW], hts, by rw [List.drop_set_of_lt (by omega), hd1], hlt⟩
  · rintro ⟨s, hh⟩ ⟨W, rfl, hl, e0, e1, e5, e6, hnn, hW, ht, hd, hlt⟩
    simp only at hl e0 e1 e5 e6 hnn
    rw [show k0 + (l.length - k0) = l.length by omega, List.take_length] at *
    unfold Q34
    generalize keepL p l = Kj at *
    rw [getS_expand hl]
    simp [-cutL, L34_0, List.range, List.range.loop, e0, e1, e5, e6]
    exact ⟨W, rfl, hW, ht⟩
theorem keepL_all {p : Int → Bool} {l : List Int} (h : firstI p l = -1) : keepL p l = l := by
  unfold firstI at h
  cases hf : l.findIdx? p with
  | some k => rw [hf] at h; simp only at h; omega
  | none =>
    rw [List.findIdx?_eq_none_iff] at hf
    unfold keepL
    rw [List.filter_eq_self]
    intro x hx
    rw [hf x hx]; rfl
theorem keepL_first {p : Int → Bool} {l : List Int} (h : firstI p l ≠ -1) : ∃ k : Nat, firstI p l = k ∧ k < l.length ∧ keepL p (l.take (k + 1)) = l.take k := by
  unfold firstI at h ⊢
  cases hf : l.findIdx? p with
  | none => rw [hf] at h; exact absurd rfl h
  | some k =>
    obtain ⟨hk, hp, hb⟩ := (List.findIdx?_eq_some_iff_getElem).1 hf
    refine ⟨k, rfl, hk, ?_⟩
    rw [keepL_succ hk, if_pos hp]
    unfold keepL
    rw [List.filter_eq_self]
    intro x hx
    obtain ⟨j, hj, rfl⟩ := List.mem_iff_getElem.1 hx
    rw [List.length_take] at hj
    rw [List.getElem_take]
    have := hb j (by omega)
    simpa using this
theorem ev34 {f a : Nat} {h : H} {l : List Int} {p : Int → Bool} (hl9 : l.length ≤ 4096) (ha : a < h.length) (hcl : calm h) (hc : ∀ (W : List (List V)) (n : Int), ev pg (.call (.fn f [] [.bptr a 0]) [num n] (own1 h 0 1 W)) = some { v := .bool (p n), st := ⟨[], own1 h 0 1 W⟩ }) (hc2 : ∀ (W : List (List V)) (n : Int), ev pg (.call (.fn f [] [.bptr a 0]) [num n] (own2 h W)) = some { v := .bool (p n), st := ⟨[], own2 h W⟩ }) {N : Nat} (hN : h.length = N) : ∃ W, ev pg (.call (.fn 34 [] []) [.sl N 0 1 0 l.length, .fn f [] [.bptr a 0]] (own1 h 0 1 (l.map nrow))) = some { v := .sl N 0 1 0 (keepL p l).length, st := ⟨[], own1 h 0 1 W⟩ } ∧ (keepL p l).length ≤ W.length ∧ W.take (keepL p l).length = (keepL p l).map nrow := by
  have h87 := ev87o hl9 ha hcl (hc _) hN
  have hcut : ∀ W, cutH (N + 1) (own1 h 0 1 W) = own1 h 0 1 W := fun W => by
    have := calm_cutH (calm_own hcl 0 1 W)
    rwa [List.length_append, hN] at this
  have ha2 : a < N + 1 := by omega
  rw [ev_call, pg34]
  by_cases hf : firstI p l = -1
  · have hall := keepL_all hf
    rw [hall]
    rw [hf] at h87
    refine ⟨l.map nrow, ?_, by simp, by rw [List.take_of_length_le (by simp)]⟩
    generalize hW : l.map nrow = W at *
    simp [-cutH, ir34, h87, hN, hcut, moveVs, moveV, move1]
  · obtain ⟨k, hk, hkl, hkk⟩ := keepL_first hf
    rw [hk] at h87
    have hloop := loop34 hl9 ha hcl hc2 N hN (k + 1) (by omega)
    have wk := wrap_id (n := (k : Int) + 1) (by omega) (by omega)
    have hI : ∀ st : St, (st.h = own2 h (l.map nrow) ∧ st.s.length = 42 ∧ getS st.s 0 = .sl N 0 1 0 l.length ∧ getS st.s 1 = .fn f [] [.bptr a 0] ∧ getS st.s 5 = num k ∧ getS st.s 6 = num ((k : Int) + 1) ∧ noNil st.s) → I34 N (.fn f [] [.bptr a 0]) h l p (k + 1) 0 st := fun st h => by
      have hlk : (l.take k).length = k := by rw [List.length_take]; omega
      refine ⟨l, h.1, h.2.1, h.2.2.1, h.2.2.2.1, ?_, ?_, h.2.2.2.2.2.2, rfl, ?_, rfl, ?_⟩
      · rw [Nat.add_zero, hkk, hlk]; exact h.2.2.2.2.1
      · rw [Nat.add_zero]; exact h.2.2.2.2.2.1
      · rw [Nat.add_zero, hkk, hlk]
      · rw [Nat.add_zero, hkk, hlk]; omega
    have hk1 : ((k : Int) == -1) = false := by
      rw [beq_eq_false_iff_ne]; omega
    simp [-cutH, ir34, h87, hN, ev_loop, wk, hk1]
    generalize hr : ev pg (.code (.going _ L34_0) _) = o
    obtain ⟨r, rfl, hx, W, hh, hl, e0, e5, hW, ht⟩ : ∃ r, o = some r ∧ _ := by
      rw [← hr]
      exact hloop _ (hI _ ⟨by simp, by simp, by simp, by simp, by simp, by simp, by simp [noNil]⟩)
    generalize keepL p l = Kl at *
    have hKW : Kl.length ≤ W.length := by
      have := congrArg List.length ht
      rw [List.length_take] at this
      omega
    have hKl : Kl.length ≤ l.length := by omega
    have hat2 := at0 hN ⟨0, .arr 1 (W.map nrow)⟩ [⟨0, .arr 0 []⟩]
    have hset2 := fun o => set2a hN ⟨0, .arr 1 (W.map nrow)⟩ ⟨0, .arr 0 []⟩ o
    have htm : (W.map nrow).take Kl.length = Kl.map nrow := by rw [← List.map_take, ht]
    have hcut2 : ∀ W, cutH (N + 1) (own2 h W) = own1 h 0 1 W := fun W => by
      have h1 := cutH_app (calm_own hcl 0 1 W) [⟨0, .arr 0 []⟩]
      rw [List.length_append, hN, List.append_assoc] at h1
      exact h1
    by_cases hz : l.length - Kl.length = 0
    · refine ⟨W.map nrow, ?_, by rw [List.length_map]; exact hKW, htm⟩
      generalize W.map nrow = X at *
      simp [-cutH, hx, hh, hl, e0, e5, hKl, hz, moveVs, moveV, move1, hcut2]
    · refine ⟨(W.map nrow).take Kl.length ++ List.replicate (l.length - Kl.length) [num 0], ?_, by simp; omega, ?_⟩
      · have hlen : l.length ≤ (W.map nrow).length := by rw [List.length_map]; omega
        have hdr : (W.map nrow).drop l.length = [] := List.drop_eq_nil_of_le (by rw [List.length_map]; omega)
        generalize W.map nrow = X at *
        simp [-cutH, hx, hh, hl, e0, e5, hKl, hz, hat2, hset2, hlen, hdr, moveVs, moveV, move1, hcut2]
      · rw [htm]
        rw [List.take_append_of_le_length (by simp), List.take_of_length_le (by simp)]
end Go.Proofs.Ytopjiafdimoeiaa
/- Faults that are alike, by the program. -/
namespace Go.Proofs.Ytopjiafdimoeiaa
open Go Go.Am Go.Proofs
set_option maxRecDepth 100000
theorem ev33 {c : Ct} {A : Nat} (hM : Mid c A) {h : H} {a : Nat} (ha : h[a]? = some ⟨0, .box c.cells⟩) (hcl : calm h) (l : List Int) (hl9 : l.length ≤ 4096) : ev pg (.call (.fn 33 [] [.bptr a 0]) [ints l] h) = some { v := ints (keepL (fun n => decide (n < (countN c A : Nat))) l), st := ⟨[], h⟩ } := by
  have h35 := ev35 l hl9
  have hal : a < h.length := by
    rcases Nat.lt_or_ge a h.length with h1 | h1
    · exact h1
    · rw [List.getElem?_eq_none h1] at ha; cases ha
  have g1 : ∀ W, (own1 h 0 1 W)[a]? = some ⟨0, .box c.cells⟩ := fun W => by rw [List.getElem?_append_left hal, ha]
  have g2 : ∀ W, (own2 h W)[a]? = some ⟨0, .box c.cells⟩ := fun W => by rw [List.getElem?_append_left hal, ha]
  have h34 := ev34 (f := 36) hl9 hal hcl (fun W n => ev36 hM (g1 W) (calm_own hcl 0 1 W) n) (fun W n => ev36 hM (g2 W) (calm_own2 hcl W) n) rfl
  obtain ⟨W, h34, hlen, htk⟩ := h34
  have hck := cutK_app hcl [⟨0, .frz 1 W⟩]
  generalize keepL (fun n => decide (n < (countN c A : Nat))) l = Kl at *
  have hsl : (if Kl.length = W.length then some W else if Kl.length ≤ W.length then some (W.take Kl.length) else none) = some (Kl.map nrow) := by
    by_cases e : Kl.length = W.length
    · rw [if_pos e, ← htk, e, List.take_length]
    · rw [if_neg e, if_pos hlen, htk]
  generalize hN : h.length = N at *
  rw [ev_call, pg33]
  simp [-cutK, ir33, h35, hN, h34, hsl, hck]
def alikeE (c : Ct) (k i k' i' : Int) : Int := if fltE c k i = 0 then (if fltE c k' i' = 0 then (if injE c k i = 0 then injE c k' i' else injE c k i) else fltE c k' i') else fltE c k i
def alikeB (c : Ct) (k i k' i' : Int) : Bool := decide (alikeE c k i k' i' = 0) && sameC (injD c k i) (injD c k' i')
theorem inj_small {c : Ct} (hfew : c.small = true) (k i : Int) : (injD c k i).small = true := by
  unfold injD injE
  by_cases h1 : fltE c k i = 0
  · rw [if_pos h1]
    by_cases h2 : (faultyF c k i).d.check = 0
    · rw [if_pos h2, if_pos rfl]
      exact faulty_small hfew (flt_parts h1).1 k i
    · rw [if_neg h2, if_neg (by omega)]; rfl
  · rw [if_neg h1, if_neg h1]; rfl
theorem ev31 (c : Ct) (hfew : c.small = true) (k i k' i' : Int) : ev pg (.call (.fn 31 [] []) [c.v, fv k i, fv k' i'] []) = some { v := .tup [.bool (alikeB c k i k' i'), num (alikeE c k i k' i')], st := ⟨[], []⟩ } := by
  have h19 := ev19 c hfew k i
  have h28 := ev28 c hfew k i
  have h28' := ev28 c hfew k' i'
  have h32 := ev32 (injD c k i) (injD c k' i') (inj_small hfew k i) (inj_small hfew k' i')
  unfold alikeB alikeE
  rw [ev_call, pg31]
  by_cases h1 : fltE c k i = 0
  · have hM := mid_check (flt_parts h1).1 hfew
    have h79 := ev79 hM k' i'
    have hr : rightE c c.act.toNat k' i' = fltE c k' i' := by
      unfold fltE
      rw [if_pos (flt_parts h1).1]
    rw [hr] at h79
    rw [h1] at h19
    rw [if_pos h1]
    generalize fltE c k' i' = e2 at *
    by_cases h2 : e2 = 0
    · rw [if_pos h2]
      generalize injD c k i = D at *
      generalize injD c k' i' = D' at *
      generalize injE c k i = e3 at *
      generalize injE c k' i' = e4 at *
      generalize sameC D D' = B at *
      by_cases h3 : e3 = 0
      · rw [if_pos h3]
        by_cases h4 : e4 = 0
        · simp [ir31, h19, h79, h28, h28', h32, h2, h3, h4]
        · simp [ir31, h19, h79, h28, h28', h2, h3, h4]
      · rw [if_neg h3]
        simp [ir31, h19, h79, h28, h2, h3]
    · rw [if_neg h2]
      simp [ir31, h19, h79, h2]
  · rw [if_neg h1]
    generalize fltE c k i = e1 at *
    simp [ir31, h19, h1]
end Go.Proofs.Ytopjiafdimoeiaa
/- A fault that touches nothing leaves the control as it is; faults that are alike touch the same pilots. -/
namespace Go.Proofs.Ytopjiafdimoeiaa
open Go Go.Am Go.Proofs
set_option maxRecDepth 100000
mutual
theorem repl_same (n v : Int) : ∀ x : Ex, x.repl n v = x ↔ x.had n = false
  | .mk o i l => by
    rw [Ex.repl, Ex.had]
    by_cases h : o = 1 ∧ i = n
    · rw [if_pos h, if_pos h, Ex.mk.injEq]
      exact ⟨fun e => by have := e.1; omega, fun e => by cases e⟩
    · rw [if_neg h, if_neg h, Ex.mk.injEq, replL_same n v l]
      simp
theorem replL_same (n v : Int) : ∀ l : List Ex, replL n v l = l ↔ hadL n l = false
  | [] => by rw [replL, hadL]; simp
  | x :: l => by rw [replL, hadL, List.cons.injEq, repl_same n v x, replL_same n v l, Bool.or_eq_false_iff]
end
theorem selL_nil {f : Nat → Bool} {b : Int} {n : Nat} : selL f b n = [] ↔ ∀ j, j < n → f j = false := by
  unfold selL
  rw [List.map_eq_nil_iff, List.filter_eq_nil_iff]
  simp
theorem selL_congr {f g : Nat → Bool} {b : Int} {n : Nat} (h : ∀ j, j < n → f j = g j) : selL f b n = selL g b n := by
  unfold selL
  rw [List.filter_congr]
  intro j hj
  exact h j (List.mem_range.1 hj)
theorem pil_le (c : Ct) (k i : Int) (j : Nat) : (pil c k i j).1 ≤ 1 ∧ (pil c k i j).2 ≤ 1 := by
  unfold pil lineV
  repeat' split
  all_goals exact ⟨by simp only <;> (first | omega | (split <;> omega)), by simp only <;> (first | omega | (split <;> omega))⟩
theorem putTo_none {f : Nat → Bool} {next : Int} {l : List Int} : ∀ {A : Nat}, (∀ j, j < A → f j = false) → putTo f next A l = l
  | 0, _ => rfl
  | A + 1, h => by
    rw [putTo, h A (by omega), if_neg (by decide)]
    exact putTo_none fun j hj => h j (by omega)
theorem needTo_iff {p : Nat → Bool} : ∀ {A : Nat}, needTo p A = false ↔ ∀ j, j < A → p j = false
  | 0 => ⟨fun _ j hj => by omega, fun _ => rfl⟩
  | A + 1 => by
    rw [needTo, Bool.or_eq_false_iff, needTo_iff]
    exact ⟨fun h j hj => by
      by_cases e : j = A
      · rw [e]; exact h.2
      · exact h.1 j (by omega), fun h => ⟨fun j hj => h j (by omega), h A (by omega)⟩⟩
theorem putTo_at {f : Nat → Bool} {next : Int} {l : List Int} : ∀ {A j : Nat} (hj : j < l.length), j < A → (putTo f next A l)[j]? = some (if f j = true then next else l[j])
  | A + 1, j, hl, hj => by
    rw [putTo]
    by_cases e : j = A
    · subst e
      split
      · rw [List.getElem?_set_self (by rw [putTo_len]; exact hl)]
      · rw [putTo_get (Nat.le_refl _), List.getElem?_eq_getElem hl]
    · split
      · rw [List.getElem?_set_ne (by omega)]
        exact putTo_at hl (by omega)
      · exact putTo_at hl (by omega)
theorem chg_false {c : Ct} {k i : Int} {j : Nat} : chgF c k i j = false ↔ pil c k i j = (-1, -1) := by
  have h := pil_ge c k i j
  unfold chgF
  rw [Bool.or_eq_false_iff, decide_eq_false_iff_not, decide_eq_false_iff_not]
  generalize pil c k i j = p at *
  obtain ⟨p1, p2⟩ := p
  simp only at h
  rw [Prod.mk.injEq]
  exact ⟨fun g => ⟨by omega, by omega⟩, fun g => ⟨by simp only; omega, by simp only; omega⟩⟩
theorem need_zero {c : Ct} {k i : Int} {A : Nat} : (needV c k i 0 A = false ∧ needV c k i 1 A = false) ↔ ∀ j, j < A → chgF c k i j = false := by
  unfold needV
  rw [needTo_iff, needTo_iff]
  constructor
  · rintro ⟨h0, h1⟩ j hj
    have g0 := h0 j hj
    have g1 := h1 j hj
    have hl := pil_le c k i j
    have hg := pil_ge c k i j
    rw [chg_false]
    unfold selP selM at g0 g1
    generalize pil c k i j = p at *
    obtain ⟨p1, p2⟩ := p
    simp only [Bool.or_eq_false_iff, beq_eq_false_iff_ne] at g0 g1
    simp only at hl hg
    rw [Prod.mk.injEq]
    exact ⟨by omega, by omega⟩
  · intro h
    refine ⟨fun j hj => ?_, fun j hj => ?_⟩ <;>
    · have g := chg_false.1 (h j hj)
      simp only [selP, selM, g]
      decide
theorem step_need {c : Ct} {k i : Int} {A : Nat} {v : Int} {s : Fs} : (stepV c k i A v s).d.signals.length = s.d.signals.length + (if needV c k i v A = true then 1 else 0) := by
  unfold stepV
  simp only
  split <;> simp
theorem had_occ_on {c : Ct} {A : Nat} (hR : Rgt c A) (n : Int) {x : Sg} (hx : x ∈ c.signals) : x.on.had n = x.on.occ n := had_occ n _ _ (hR.on x hx)
theorem had_occ_off {c : Ct} {A : Nat} (hR : Rgt c A) (n : Int) {x : Sg} (hx : x ∈ c.signals) : x.off.had n = x.off.occ n := by
  rcases hR.off x hx with h | h
  · exact had_occ n _ _ h
  · exact had_zero n _ h
theorem unchanged {c : Ct} {k i : Int} {A : Nat} (h : ∀ j, j < A → chgF c k i j = false) : (stepV c k i A 1 (stepV c k i A 0 (startF c k i A))).d = (startF c k i A).d := by
  obtain ⟨h0, h1⟩ := need_zero.2 h
  have sel : ∀ v, v = 0 ∨ v = 1 → (∀ j, j < A → selP c k i v j = false) ∧ (∀ j, j < A → selM c k i v j = false) := fun v hv => by
    refine ⟨fun j hj => ?_, fun j hj => ?_⟩ <;>
    · have g := chg_false.1 (h j hj)
      simp only [selP, selM, g]
      rcases hv with rfl | rfl <;> decide
  rw [stepV_no h1, stepV_no h0]
  simp only
  rw [putTo_none (sel 0 (.inl rfl)).1, putTo_none (sel 0 (.inl rfl)).2, putTo_none (sel 1 (.inr rfl)).1, putTo_none (sel 1 (.inr rfl)).2]
theorem touch_same {c : Ct} (hfew : c.small = true) {k i : Int} (hf : fltE c k i = 0) : touchR c k i = [] ↔ c = (faultyF c k i).d := by
  obtain ⟨hc, hk, hi0, hiN, hiA⟩ := flt_parts hf
  have hR := rgt_check hc hfew
  have hact := hR.mid.act
  unfold touchR faultyF
  rw [if_pos hf]
  generalize c.act.toNat = A at *
  unfold touchL
  rw [List.append_eq_nil_iff, selL_nil, selL_nil]
  -- the signals
  have hsig : (∀ j, j < c.signals.length → touchF c.signals k i j = false) → k = 2 ∨ k = 3 → (startF c k i A).d = c := fun h hl => by
    have : c.signals.map (replS (lineI k i) (lineV k)) = c.signals := by
      rw [List.map_congr_left (g := id), List.map_id]
      intro x hx
      obtain ⟨j, hj, rfl⟩ := List.mem_iff_getElem.1 hx
      have g := h j hj
      unfold touchF at g
      rw [decide_eq_true hl, Bool.true_and, List.getElem?_eq_getElem hj] at g
      simp only [Option.map_some, Option.getD_some, Bool.or_eq_false_iff] at g
      have hi : lineI k i = i := by unfold lineI; rw [if_pos hl]
      have g1 := (repl_same i (lineV k) c.signals[j].on).2 (by rw [had_occ_on hR i hx]; exact g.1)
      have g2 := (repl_same i (lineV k) c.signals[j].off).2 (by rw [had_occ_off hR i hx]; exact g.2)
      unfold replS
      rw [hi, g1, g2]
      rfl
    unfold startF
    rw [this]
  constructor
  · rintro ⟨h1, h2⟩
    rw [unchanged h2]
    by_cases hl : k = 2 ∨ k = 3
    · exact (hsig h1 hl).symm
    · have h3 := hiA hl
      have h4 := chg_false.1 (h2 i.toNat (by omega))
      unfold pil at h4
      rw [if_neg hl, if_pos (by omega)] at h4
      exfalso
      revert h4
      repeat' split
      all_goals simp
  · intro h
    have e1 := step_need (c := c) (k := k) (i := i) (A := A) (v := 1) (s := stepV c k i A 0 (startF c k i A))
    have e0 := step_need (c := c) (k := k) (i := i) (A := A) (v := 0) (s := startF c k i A)
    have l0 := (start_lens c k i A).1
    rw [← h, e0, l0] at e1
    have n0 : needV c k i 0 A = false := by
      cases hb : needV c k i 0 A with
      | false => rfl
      | true => rw [hb, if_pos rfl] at e1; omega
    have n1 : needV c k i 1 A = false := by
      cases hb : needV c k i 1 A with
      | false => rfl
      | true => rw [hb, if_pos rfl] at e1; omega
    have h2 := need_zero.1 ⟨n0, n1⟩
    rw [unchanged h2] at h
    refine ⟨fun j hj => ?_, h2⟩
    unfold touchF
    by_cases hl : k = 2 ∨ k = 3
    · have hs : c.signals.map (replS (lineI k i) (lineV k)) = c.signals := (congrArg Ct.signals h).symm
      have hi : lineI k i = i := by unfold lineI; rw [if_pos hl]
      rw [hi] at hs
      have hx := List.getElem_mem hj
      have g := congrArg (fun l => l[j]?) hs
      simp only [List.getElem?_map, List.getElem?_eq_getElem hj, Option.map_some, Option.some.injEq] at g
      have g1 := congrArg Sg.on g
      have g2 := congrArg Sg.off g
      rw [List.getElem?_eq_getElem hj]
      simp only [Option.map_some, Option.getD_some]
      rw [← had_occ_on hR i hx, ← had_occ_off hR i hx, (repl_same _ _ _).1 g1, (repl_same _ _ _).1 g2]
      simp
    · rw [decide_eq_false hl]; rfl
theorem keep_touch {c : Ct} {k i : Int} (hf : fltE c k i = 0) : keepL (fun n => decide (n < (countN c c.act.toNat : Nat))) (touchR c k i) = selL (chgF c k i) (countN c c.act.toNat) c.act.toNat := by
  unfold touchR
  rw [if_pos hf]
  generalize c.act.toNat = A
  unfold touchL keepL
  rw [List.filter_append]
  have h1 : (selL (touchF c.signals k i) (firstN c A) c.signals.length).filter (fun n : Int => !decide (n < (countN c A : Nat))) = [] := by
    rw [List.filter_eq_nil_iff]
    intro v hv
    obtain ⟨j, hj, _, rfl⟩ := (selL_mem _ _ _ _).1 hv
    have : ((firstN c A : Nat) : Int) + (j : Int) < (countN c A : Nat) := by unfold firstN countN; omega
    rw [decide_eq_true this]
    decide
  have h2 : (selL (chgF c k i) (countN c A) A).filter (fun n : Int => !decide (n < (countN c A : Nat))) = selL (chgF c k i) (countN c A) A := by
    rw [List.filter_eq_self]
    intro v hv
    obtain ⟨j, hj, _, rfl⟩ := (selL_mem _ _ _ _).1 hv
    rw [decide_eq_false (by omega)]
    rfl
  rw [h1, h2, List.nil_append]
theorem faulty_plus {c : Ct} {A : Nat} (hR : Rgt c A) (k i : Int) {j : Nat} (hj : j < A) (hp : j < c.plus.length) (hm : j < c.minus.length) :
    (∃ v, (stepV c k i A 1 (stepV c k i A 0 (startF c k i A))).d.plus[j]? = some v ∧ (0 ≤ (pil c k i j).1 ↔ (countN c A : Nat) ≤ v)) ∧ (∃ v, (stepV c k i A 1 (stepV c k i A 0 (startF c k i A))).d.minus[j]? = some v ∧ (0 ≤ (pil c k i j).2 ↔ (countN c A : Nat) ≤ v)) := by
  have hg := pil_ge c k i j
  have hl := pil_le c k i j
  have badP : c.plus[j] < (countN c A : Nat) := by
    have h := List.any_eq_false.1 hR.pp _ (List.getElem_mem hp)
    unfold badL at h
    simp at h
    unfold countN
    omega
  have badM : c.minus[j] < (countN c A : Nat) := by
    have h := List.any_eq_false.1 hR.mm _ (List.getElem_mem hm)
    unfold badL at h
    simp at h
    unfold countN
    omega
  have n0 : (countN c A : Nat) ≤ countN (startF c k i A).d A := by
    unfold countN startF
    simp
  have n1 : countN (startF c k i A).d A ≤ countN (stepV c k i A 0 (startF c k i A)).d A := by
    have := (step_lens c k i A 0 (startF c k i A)).1
    unfold countN
    have e : (stepV c k i A 0 (startF c k i A)).d.inputs = (startF c k i A).d.inputs := rfl
    rw [e]
    omega
  constructor
  · have hp' : j < (putTo (selP c k i 0) (countN (startF c k i A).d A) A c.plus).length := by rw [putTo_len]; exact hp
    have h1 := putTo_at (f := selP c k i 0) (next := (countN (startF c k i A).d A : Nat)) hp hj
    have h2 := putTo_at (f := selP c k i 1) (next := (countN (stepV c k i A 0 (startF c k i A)).d A : Nat)) hp' hj
    rw [List.getElem?_eq_getElem hp', Option.some.injEq] at h1
    rw [h1] at h2
    clear hp' h1
    refine ⟨_, h2, ?_⟩
    clear h2
    generalize countN (stepV c k i A 0 (startF c k i A)).d A = N2 at *
    generalize countN (startF c k i A).d A = N1 at *
    generalize countN c A = N0 at *
    simp only [selP, beq_iff_eq]
    generalize (pil c k i j).1 = p at *
    rcases (by omega : p = -1 ∨ p = 0 ∨ p = 1) with rfl | rfl | rfl
    · simp; omega
    · simp; omega
    · simp; omega
  · have hp' : j < (putTo (selM c k i 0) (countN (startF c k i A).d A) A c.minus).length := by rw [putTo_len]; exact hm
    have h1 := putTo_at (f := selM c k i 0) (next := (countN (startF c k i A).d A : Nat)) hm hj
    have h2 := putTo_at (f := selM c k i 1) (next := (countN (stepV c k i A 0 (startF c k i A)).d A : Nat)) hp' hj
    rw [List.getElem?_eq_getElem hp', Option.some.injEq] at h1
    rw [h1] at h2
    clear hp' h1
    refine ⟨_, h2, ?_⟩
    clear h2
    generalize countN (stepV c k i A 0 (startF c k i A)).d A = N2 at *
    generalize countN (startF c k i A).d A = N1 at *
    generalize countN c A = N0 at *
    simp only [selM, beq_iff_eq]
    generalize (pil c k i j).2 = p at *
    rcases (by omega : p = -1 ∨ p = 0 ∨ p = 1) with rfl | rfl | rfl
    · simp; omega
    · simp; omega
    · simp; omega
theorem same_pilots {c : Ct} (hfew : c.small = true) {k i k' i' : Int} (hc : c.check = 0) (h : (faultyF c k i).d = (faultyF c k' i').d) : selL (chgF c k i) (countN c c.act.toNat) c.act.toNat = selL (chgF c k' i') (countN c c.act.toNat) c.act.toNat := by
  have hR := rgt_check hc hfew
  have hp := hR.plus
  have hm := hR.minus
  unfold faultyF at h
  generalize c.act.toNat = A at *
  refine selL_congr fun j hj => ?_
  obtain ⟨⟨a, a1, a2⟩, ⟨b, b1, b2⟩⟩ := faulty_plus hR k i hj (by omega) (by omega)
  obtain ⟨⟨a', a1', a2'⟩, ⟨b', b1', b2'⟩⟩ := faulty_plus hR k' i' hj (by omega) (by omega)
  rw [h, a1', Option.some.injEq] at a1
  rw [h, b1', Option.some.injEq] at b1
  subst a1 b1
  unfold chgF
  rw [decide_eq_decide.2 (a2.trans a2'.symm), decide_eq_decide.2 (b2.trans b2'.symm)]
end Go.Proofs.Ytopjiafdimoeiaa
/- The law of differences holds of Am. -/
namespace Go.Proofs.Ytopjiafdimoeiaa
open Go Go.Am Go.Proofs
set_option maxRecDepth 100000
theorem ev27 (c : Ct) (k i : Int) : ev pg (.call (.fn 27 [] []) [c.v, fv k i] []) = some { v := .bool (c.few && decide (fltE c k i = 0)), st := ⟨[], []⟩ } := by
  have h13 := ev13 c
  rw [ev_call, pg27]
  by_cases hfew : c.few = true
  · rw [hfew] at h13 ⊢
    have h20 := ev20 c (few_small hfew) k i
    generalize fltE c k i = e at *
    by_cases he : e = 0
    · simp [ir27, h13, h20, he]
    · simp [ir27, h13, h20, he]
  · have hb : c.few = false := by simpa using hfew
    rw [hb] at h13 ⊢
    simp [ir27, h13]
theorem touch_len (c : Ct) (hfew : c.small = true) (k i : Int) : (touchR c k i).length ≤ 1032 := by
  unfold touchR
  by_cases h : fltE c k i = 0
  · have hM := mid_check (flt_parts h).1 hfew
    rw [if_pos h]
    unfold touchL
    rw [List.length_append]
    have h1 := selL_len (touchF c.signals k i) (firstN c c.act.toNat) c.signals.length
    have h2 := selL_len (chgF c k i) (countN c c.act.toNat) c.act.toNat
    have h3 := hM.sig
    have h4 := hM.hi
    omega
  · rw [if_neg h]
    exact Nat.zero_le _
set_option maxHeartbeats 1000000 in
theorem ev6 (c : Ct) (k i k' i' : Int) : ∃ r, ev pg (.call (.fn 6 [] []) [c.v, fv k i, fv k' i'] []) = some r ∧ r.v = .bool true := by
  refine ⟨{ v := .bool true, st := ⟨[], []⟩ }, ?_, rfl⟩
  have h14 := ev14
  have h27 := ev27 c k i
  have h27' := ev27 c k' i'
  by_cases hr : c.few = true ∧ fltE c k i = 0 ∧ fltE c k' i' = 0
  · obtain ⟨hf, he, he'⟩ := hr
    have hfew := few_small hf
    have hc := (flt_parts he).1
    have hM := mid_check hc hfew
    have h17 := ev17 c hfew k i
    have h17' := ev17 c hfew k' i'
    have h28 := ev28 c hfew k i
    have h31 := ev31 c hfew k i k' i'
    have hsm := inj_small hfew k i
    have h32 := ev32 c (injD c k i) hfew hsm
    rw [hf, he] at h27
    rw [hf, he'] at h27'
    rw [he] at h17
    rw [he'] at h17'
    have hkt := keep_touch he
    have hkt' := keep_touch he'
    have h33 := fun (h : H) (ha : h[0]? = some ⟨0, .box c.cells⟩) (hcl : calm h) => ev33 hM ha hcl (touchR c k i) (by have := touch_len c hfew k i; omega)
    have h33' := fun (h : H) (ha : h[0]? = some ⟨0, .box c.cells⟩) (hcl : calm h) => ev33 hM ha hcl (touchR c k' i') (by have := touch_len c hfew k' i'; omega)
    rw [hkt] at h33
    rw [hkt'] at h33'
    have h38 := ev38 (selL (chgF c k i) (countN c c.act.toNat) c.act.toNat) (selL (chgF c k' i') (countN c c.act.toNat) c.act.toNat) (by have := selL_len (chgF c k i) (countN c c.act.toNat) c.act.toNat; have := hM.hi; omega)
    have hts := touch_same hfew he
    have hsp := fun h => same_pilots (k := k) (i := i) (k' := k') (i' := i') hfew hc h
    unfold alikeB at h31
    have hae : alikeE c k i k' i' = if injE c k i = 0 then injE c k' i' else injE c k i := by
      unfold alikeE; rw [if_pos he, if_pos he']
    rw [hae] at h31
    have hiD : injE c k i = 0 → injD c k i = (faultyF c k i).d := fun h => by unfold injD; rw [if_pos h]
    have hiD' : injE c k' i' = 0 → injD c k' i' = (faultyF c k' i').d := fun h => by unfold injD; rw [if_pos h]
    have hor : injE c k i = 0 ∨ injE c k i = 12 := by
      unfold injE; rw [if_pos he]; split
      · exact .inl rfl
      · exact .inr rfl
    have hor' : injE c k' i' = 0 ∨ injE c k' i' = 12 := by
      unfold injE; rw [if_pos he']; split
      · exact .inl rfl
      · exact .inr rfl
    generalize selL (chgF c k i) (countN c c.act.toNat) c.act.toNat = P at *
    generalize selL (chgF c k' i') (countN c c.act.toNat) c.act.toNat = P' at *
    generalize touchR c k i = X at *
    generalize touchR c k' i' = X' at *
    generalize injD c k i = D at *
    generalize injD c k' i' = D' at *
    generalize injE c k i = e at *
    generalize injE c k' i' = e' at *
    generalize (faultyF c k i).d = F at *
    generalize (faultyF c k' i').d = F' at *
    clear hae hkt hkt' he he' hf
    rw [ev_call, pg6]
    rcases hor with rfl | rfl
    · rw [if_pos rfl] at h31
      rcases hor' with rfl | rfl
      · obtain rfl := hiD rfl
        obtain rfl := hiD' rfl
        have hb : ((X.length : Int) == 0) = sameC c D := by
          rw [Bool.eq_iff_iff, beq_iff_eq, sameC_iff, ← hts]
          constructor
          · intro h
            exact List.length_eq_zero_iff.1 (by omega)
          · rintro rfl; rfl
        cases hs : sameC D D' with
        | false =>
          rw [hs] at h31
          generalize sameC c D = B at *
          simp [ir6, h27, h27', h17, h17', h28, h31, h32, hb, h14]
        | true =>
          rw [hs] at h31
          have hP := hsp (sameC_iff.1 hs)
          rw [decide_eq_true hP] at h38
          have hcl : calm [⟨0, .box c.cells⟩, ⟨0, .box [num k, num i]⟩, ⟨0, .box [num k', num i']⟩, ⟨0, .arr 0 []⟩, ⟨0, .arr 0 []⟩, ⟨0, .arr 0 []⟩, ⟨0, .arr 0 []⟩, ⟨0, .box D.cells⟩] := by simp [calm, scrubO]
          have g33 := h33 _ rfl hcl
          have g33' := h33' _ rfl hcl
          generalize sameC c D = B at *
          simp [ir6, h27, h27', h17, h17', h28, h31, h32, hb, h14, g33, g33', h38]
      · simp [ir6, h27, h27', h17, h17', h28, h31, h14]
    · rw [if_neg (by omega)] at h31
      simp [ir6, h27, h27', h17, h17', h28, h31, h14]
  · generalize ha : (c.few && decide (fltE c k i = 0)) = a at *
    generalize hb : (c.few && decide (fltE c k' i' = 0)) = b at *
    rw [ev_call, pg6]
    cases a with
    | false => simp [ir6, h27, h14]
    | true =>
      cases b with
      | false => simp [ir6, h27, h27', h14]
      | true =>
        rw [Bool.and_eq_true, decide_eq_true_eq] at ha hb
        exact absurd ⟨ha.1, ha.2, hb.2⟩ hr
end Go.Proofs.Ytopjiafdimoeiaa
