/- Sequences checked by the reference: a step alone; does it fit; what is behind it. -/
import Derived.Test.YtopjiafdimoeiaaSq3
namespace Go.Proofs.Ytopjiafdimoeiaa
open Go Go.Am Go.Proofs
set_option maxRecDepth 100000
theorem ev191 (n : Int) : ev pg (.call (.fn 191 [] []) [num n] []) = some { v := .bool (okWait n), st := ⟨[], []⟩ } := by
  rw [ev_call, pg191]
  by_cases h : 0 ≤ n <;> simp [ir191, okWait, h]
def prev (w : List Sk) (k : Nat) : Int := if k = 0 then -1 else (w[k - 1]?.map Sk.act).getD (-1)
def I165 (x : Stp) (k : Nat) (st : St) : Prop := st.h = [⟨0, .box x.row⟩] ∧ st.s.length = 67 ∧ getS st.s 1 = .bptr 0 0 ∧ getS st.s 3 = num k ∧ ordErr (-1) x.sk = ordErr (prev x.sk k) (x.sk.drop k)
def Q165 (x : Stp) (r : R) : Prop := r.st.s.length = 67 ∧ ((r.x = .exit 0 ∧ r.st.h = [⟨0, .box x.row⟩] ∧ getS r.st.s 1 = .bptr 0 0 ∧ ordErr (-1) x.sk = 0) ∨ (r.x = .ret ∧ getS r.st.s 2 = num (ordErr (-1) x.sk) ∧ ordErr (-1) x.sk ≠ 0))
theorem loop165 (x : Stp) (hw : x.sk.length ≤ 6) (st : St) (h0 : I165 x 0 st) : ∃ r, ev pg (.code (.going 1 L165_0) st) = some r ∧ Q165 x r := by
  refine loop_from (I165 x) x.sk.length (Q165 x) h0 ?_ ?_
  · rintro k ⟨s, h⟩ hk ⟨rfl, hl, e1, e3, he⟩
    simp only at hl e1 e3
    have hc := ev93 x.sk[k].act
    have hk' : (k : Int) < x.sk.length := by omega
    have wk := wrap_id (n := (k : Int) + 1) (by omega) (by omega)
    rw [ordErr_at hk] at he
    have hnext : prev x.sk (k + 1) = x.sk[k].act := by simp [prev, hk]
    rw [getS_expand hl]
    by_cases ha : okAct x.sk[k].act = true
    · rw [if_pos ha] at he
      by_cases hk0 : k = 0
      · subst hk0
        have hpos : 0 ≤ x.sk[0].act := by simp [okAct] at ha; omega
        have hp : prev x.sk 0 = -1 := rfl
        rw [hp, if_neg (by omega), if_neg (by omega)] at he
        have w1 : IntKind.i64.wrap 1 = 1 := wrap_id (by omega) (by omega)
        simp [L165_0, I165, Q165, List.range, List.range.loop, e1, e3, hk, hk', hc, ha, w1, hnext, he]
      · obtain ⟨q, rfl⟩ : ∃ q, k = q + 1 := ⟨k - 1, by omega⟩
        have hq : q < x.sk.length := by omega
        have hp : prev x.sk (q + 1) = x.sk[q].act := by simp [prev, hq]
        have hk' : (q : Int) + 1 < x.sk.length := by omega
        have hkp : (0 : Int) < (q : Int) + 1 := by omega
        have hk0 : (0 : Int) ≤ (q : Int) + 1 := by omega
        have wq : IntKind.i64.wrap (q : Int) = q := wrap_id (by omega) (by omega)
        have wk : IntKind.i64.wrap ((q : Int) + 1 + 1) = (q : Int) + 1 + 1 := wrap_id (by omega) (by omega)
        rw [hp] at he
        by_cases hb : x.sk[q + 1].act = x.sk[q].act
        · rw [if_pos hb] at he
          rw [hb] at hc ha
          simp [L165_0, I165, Q165, List.range, List.range.loop, e1, e3, hk, hk', hkp, hk0, wq, hq, hc, ha, hb, he]
        · rw [if_neg hb] at he
          by_cases hd : x.sk[q + 1].act < x.sk[q].act
          · rw [if_pos hd] at he
            simp [L165_0, I165, Q165, List.range, List.range.loop, e1, e3, hk, hk', hkp, hk0, wq, hq, hc, ha, hb, hd, he]
          · rw [if_neg hd] at he
            simp [L165_0, I165, Q165, List.range, List.range.loop, e1, e3, hk, hk', hkp, hk0, wq, hq, hc, ha, hb, hd, he, wk, hnext]
    · rw [if_neg ha] at he
      simp [L165_0, I165, Q165, List.range, List.range.loop, e1, e3, hk, hk', hc, ha, he]
  · rintro ⟨s, h⟩ ⟨rfl, hl, e1, e3, he⟩
    simp only [List.drop_length] at hl e1 e3 he
    rw [getS_expand hl]
    simp [L165_0, Q165, List.range, List.range.loop, e1, e3, he, ordErr]
theorem ev165 (x : Stp) : ev pg (.call (.fn 165 [] []) [.agg x.row] []) = some { v := num (stepErr x), st := ⟨[], []⟩ } := by
  have hwt := ev191 x.wait
  rw [ev_call, pg165]
  by_cases h0 : x.sk.length = 0
  · simp [ir165, stepErr, h0]
  · by_cases h6 : 6 < x.sk.length
    · have hi : (6 : Int) < (x.sk.length : Int) := by omega
      have hz : ¬ ((x.sk.length : Int) = 0) := by omega
      simp [ir165, stepErr, h0, h6, hi, hz]
    · have hi : ¬ ((6 : Int) < (x.sk.length : Int)) := by omega
      have hz : ¬ ((x.sk.length : Int) = 0) := by omega
      simp [ir165, stepErr, h0, h6, hi, hz, ev_loop]
      generalize hr : ev pg (.code (.going 1 L165_0) _) = o
      obtain ⟨r, rfl, hl, hQ⟩ : ∃ r, o = some r ∧ Q165 x r := by rw [← hr]; exact loop165 x (by omega) _ (by simp [I165, prev])
      rcases hQ with ⟨hx, hh, h1, hE⟩ | ⟨hx, h2, hE⟩
      · by_cases hw2 : okWait x.wait = true
        · simp [hx, hh, h1, hE, hl, hw2, hwt]
        · simp [hx, hh, h1, hE, hl, hw2, hwt]
      · simp [hx, h2, hE]
/-! ### does it fit (behind the checks before) -/
def I166 (t : Stp) (e : List Bool) (k : Nat) (st : St) : Prop := st.h = [⟨0, .box t.row⟩] ∧ st.s.length = 34 ∧ getS st.s 1 = bools e ∧ getS st.s 2 = .bptr 0 0 ∧ getS st.s 5 = num k ∧ hit e t.sk = hit e (t.sk.drop k)
def Q166 (t : Stp) (e : List Bool) (r : R) : Prop := r.st.s.length = 34 ∧ ((r.x = .exit 0 ∧ hit e t.sk = 0) ∨ (r.x = .ret ∧ getS r.st.s 4 = .bool false ∧ hit e t.sk = 14))
theorem loop166 (t : Stp) (e : List Bool) (he6 : e.length ≤ 6) (hw : t.sk.length ≤ 6) (hp : ∀ y ∈ t.sk, ∃ p : Nat, y.act = p ∧ p < e.length) (st : St) (h0 : I166 t e 0 st) : ∃ r, ev pg (.code (.going 1 L166_0) st) = some r ∧ Q166 t e r := by
  refine loop_from (I166 t e) t.sk.length (Q166 t e) h0 ?_ ?_
  · rintro k ⟨s, h⟩ hk ⟨rfl, hl, e1, e2, e5, he⟩
    simp only at hl e1 e2 e5
    have hk' : (k : Int) < t.sk.length := by omega
    have wk := wrap_id (n := (k : Int) + 1) (by omega) (by omega)
    obtain ⟨p, hpa, hpl⟩ := hp t.sk[k] (List.getElem_mem hk)
    rw [hit_at hk, hpa, Int.toNat_natCast] at he
    have hg : e[p]? = some e[p] := List.getElem?_eq_getElem hpl
    have hpn : ¬ (e.length ≤ p) := by omega
    rw [getS_expand hl]
    by_cases ha : e[p] = t.sk[k].out
    · rw [if_pos (by rw [hg, ha])] at he
      simp [L166_0, I166, Q166, List.range, List.range.loop, e1, e2, e5, hk, hk', hpa, hpn, hg, ha, he]
    · rw [if_neg (by rw [hg]; simpa using ha)] at he
      simp [L166_0, I166, Q166, List.range, List.range.loop, e1, e2, e5, hk, hk', hpa, hpn, hg, ha, he, wk]
  · rintro ⟨s, h⟩ ⟨rfl, hl, e1, e2, e5, he⟩
    simp only [List.drop_length] at hl e1 e2 e5 he
    rw [getS_expand hl]
    simp [L166_0, Q166, List.range, List.range.loop, e2, e5, he, hit]
theorem hit_two (e : List Bool) : ∀ w : List Sk, hit e w = 0 ∨ hit e w = 14
  | [] => .inl rfl
  | y :: r => by
    simp only [hit]
    split
    · exact .inr rfl
    · exact hit_two e r
theorem ev166 (t : Stp) (e : List Bool) (he6 : e.length ≤ 6) (hw : t.sk.length ≤ 6) (hp : ∀ y ∈ t.sk, ∃ p : Nat, y.act = p ∧ p < e.length) : ev pg (.call (.fn 166 [] []) [.agg t.row, bools e] []) = some { v := .bool (hit e t.sk == 0), st := ⟨[], []⟩ } := by
  rw [ev_call, pg166]
  simp [ir166, ev_loop]
  generalize hr : ev pg (.code (.going 1 L166_0) _) = o
  obtain ⟨r, rfl, hl, hQ⟩ : ∃ r, o = some r ∧ Q166 t e r := by rw [← hr]; exact loop166 t e he6 hw hp _ (by simp [I166])
  rcases hQ with ⟨hx, hE⟩ | ⟨hx, h4, hE⟩
  · simp [hx, hE, hl]
  · simp [hx, h4, hE]
/-! ### what is behind it -/
def I167 (t : Stp) (e : List Bool) (k : Nat) (st : St) : Prop := st.h = [⟨0, .box t.row⟩, ⟨0, .arr 1 ((beh e (t.sk.take k)).map brow)⟩, ⟨0, .arr 0 []⟩, ⟨0, .arr 0 []⟩] ∧ st.s.length = 32 ∧ getS st.s 2 = .bptr 0 0 ∧ getS st.s 5 = .sl 1 0 1 0 e.length ∧ getS st.s 6 = num k
def Q167 (t : Stp) (e : List Bool) (r : R) : Prop := r.x = .exit 0 ∧ r.st.h = [⟨0, .box t.row⟩, ⟨0, .arr 1 ((beh e t.sk).map brow)⟩, ⟨0, .arr 0 []⟩, ⟨0, .arr 0 []⟩] ∧ r.st.s.length = 32 ∧ getS r.st.s 5 = .sl 1 0 1 0 e.length
theorem loop167 (t : Stp) (e : List Bool) (he6 : e.length ≤ 6) (hw : t.sk.length ≤ 6) (hp : ∀ y ∈ t.sk, ∃ p : Nat, y.act = p ∧ p < e.length) (st : St) (h0 : I167 t e 0 st) : ∃ r, ev pg (.code (.going 4 L167_0) st) = some r ∧ Q167 t e r := by
  refine loop_from (I167 t e) t.sk.length (Q167 t e) h0 ?_ ?_
  · rintro k ⟨s, h⟩ hk ⟨rfl, hl, e2, e5, e6⟩
    simp only at hl e2 e5 e6
    have hk' : (k : Int) < t.sk.length := by omega
    have wk := wrap_id (n := (k : Int) + 1) (by omega) (by omega)
    obtain ⟨p, hpa, hpl⟩ := hp t.sk[k] (List.getElem_mem hk)
    have hb := beh_take (x := e) hk
    rw [hpa, Int.toNat_natCast] at hb
    have hbl := beh_len (t.sk.take k) e
    have hg : (beh e (t.sk.take k))[p]? = some ((beh e (t.sk.take k))[p]'(by omega)) := List.getElem?_eq_getElem (by omega)
    rw [getS_expand hl]
    simp [L167_0, I167, Q167, List.range, List.range.loop, e2, e5, e6, hk, hk', hpa, hpl, wk, hb, hg]
  · rintro ⟨s, h⟩ ⟨rfl, hl, e2, e5, e6⟩
    simp only [List.take_length] at hl e2 e5 e6
    rw [getS_expand hl]
    simp [L167_0, Q167, List.range, List.range.loop, e2, e5, e6]
theorem ev167 (t : Stp) (e : List Bool) (he6 : e.length ≤ 6) (hw : t.sk.length ≤ 6) (hp : ∀ y ∈ t.sk, ∃ p : Nat, y.act = p ∧ p < e.length) : ev pg (.call (.fn 167 [] []) [.agg t.row, bools e] []) = some { v := bools (beh e t.sk), st := ⟨[], []⟩ } := by
  have hb : e.length ≤ 140737488355328 := by omega
  have hbl := beh_len t.sk e
  rw [ev_call, pg167]
  simp [ir167, ev_loop, hb]
  generalize hr : ev pg (.code (.going 4 L167_0) _) = o
  obtain ⟨r, rfl, hx, hh, hl, h5⟩ : ∃ r, o = some r ∧ Q167 t e r := by rw [← hr]; exact loop167 t e he6 hw hp _ (by simp [I167, beh])
  simp [hx, hh, hl, h5, hbl]
end Go.Proofs.Ytopjiafdimoeiaa
