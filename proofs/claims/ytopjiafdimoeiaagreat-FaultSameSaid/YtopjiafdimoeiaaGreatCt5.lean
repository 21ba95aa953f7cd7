/- Names of lines: errors, by the reference and by the program. -/
import Derived.Test.YtopjiafdimoeiaaGreatCt4
namespace Go.Proofs.YtopjiafdimoeiaaGreat
open Go Go.Am Go.Proofs
set_option maxRecDepth 100000
theorem wordGo_all : ∀ l : Txt, wordGo false l = wordAll l
  | [] => rfl
  | b :: r => by
    rw [wordGo, wordGo_all r]
    show _ = (wordN b.toNat && wordAll r)
    cases wordN b.toNat <;> simp
theorem wordB_cons (b : UInt8) (r : Txt) : wordB (b :: r) = (smallN b.toNat && wordAll (b :: r)) := by
  show ((if (true && !smallN b.toNat) || !wordN b.toNat then false else wordGo false r) && true) = (smallN b.toNat && (wordN b.toNat && wordAll r))
  rw [wordGo_all]
  cases smallN b.toNat <;> cases wordN b.toNat <;> simp
/-- The error of a name, where the names K are taken. -/
def nameE (K : List Txt) (s : Txt) : Int := if wordB s = true then (if 24 < s.length then 17 else if s ∈ K then 7 else 0) else 3
def namesTo (c : Ct) (A n : Nat) : List Txt := (List.range n).map (nameAt c A)
/-! ### by the reference -/
def I114 (c : Ct) (A n : Nat) (k : Nat) (st : St) : Prop := st.h = [⟨0, .box c.cells⟩] ∧ st.s.length = 26 ∧ getS st.s 1 = num n ∧ getS st.s 2 = .bptr 0 0 ∧ getS st.s 5 = .str (nameAt c A n) ∧ getS st.s 6 = num k ∧ ∀ j, j < k → nameAt c A j ≠ nameAt c A n
def Q114 (c : Ct) (A n : Nat) (r : R) : Prop := r.st.s.length = 26 ∧ ((r.x = .exit 0 ∧ ¬ nameAt c A n ∈ namesTo c A n) ∨ (r.x = .ret ∧ getS r.st.s 4 = num 7 ∧ nameAt c A n ∈ namesTo c A n))
theorem loop114 {c : Ct} {A : Nat} (h : Mid c A) (n : Nat) (hn : n < countN c A) (st : St) (h0 : I114 c A n 0 st) : ∃ r, ev pg (.code (.going 1 L71_0) st) = some r ∧ Q114 c A n r := by
  have hcn : countN c A ≤ 172 := by
    obtain ⟨hA, h1, h2, h3, h4⟩ := h
    unfold countN
    omega
  refine loop_from (I114 c A n) n (Q114 c A n) h0 ?_ ?_
  · rintro k ⟨s, hh⟩ hk ⟨rfl, hl, e1, e2, e5, e6, he⟩
    simp only at hl e1 e2 e5 e6
    have hk' : (k : Int) < n := by omega
    have wk := wrap_id (n := (k : Int) + 1) (by omega) (by omega)
    have hc := ev99 h k (by omega)
    rw [getS_expand hl]
    by_cases ha : nameAt c A k = nameAt c A n
    · have hin : nameAt c A n ∈ namesTo c A n := List.mem_map.2 ⟨k, List.mem_range.2 hk, ha⟩
      simp [L71_0, Q114, List.range, List.range.loop, e1, e2, e5, e6, hk', hc, ha, hin]
    · have ha' : (nameAt c A k == nameAt c A n) = false := by simpa using ha
      simp [L71_0, I114, List.range, List.range.loop, e1, e2, e5, e6, hk', hc, ha', wk]
      intro j hj
      by_cases hjk : j = k
      · rw [hjk]; exact ha
      · exact he j (by omega)
  · rintro ⟨s, hh⟩ ⟨rfl, hl, e1, e2, e5, e6, he⟩
    simp only at hl e1 e2 e5 e6
    have hno : ¬ nameAt c A n ∈ namesTo c A n := fun hin => by
      obtain ⟨j, hj, e⟩ := List.mem_map.1 hin
      exact he j (List.mem_range.1 hj) e
    rw [getS_expand hl]
    simp [L71_0, Q114, List.range, List.range.loop, e1, e2, e5, e6, hno]
theorem ev71 {c : Ct} {A : Nat} (h : Mid c A) (n : Nat) (hn : n < countN c A) (hlen : (nameAt c A n).length < 2 ^ 62) : ev pg (.call (.fn 71 [] []) [c.v, num n] []) = some { v := num (nameE (namesTo c A n) (nameAt c A n)), st := ⟨[], []⟩ } := by
  have hc := ev99 h n hn
  have hw := ev100 (nameAt c A n) hlen
  rw [ev_call, pg71]
  by_cases h1 : wordB (nameAt c A n) = true
  · by_cases h2 : 24 < (nameAt c A n).length
    · have h2' : (24 : Int) < ((nameAt c A n).length : Int) := by omega
      simp [ir71, nameE, hc, hw, h1, h2, h2']
    · have h2' : ¬ ((24 : Int) < ((nameAt c A n).length : Int)) := by omega
      simp [ir71, nameE, hc, hw, h1, h2, h2', ev_loop]
      generalize hr : ev pg (.code (.going 1 L71_0) _) = o
      obtain ⟨r, rfl, hl, hQ⟩ : ∃ r, o = some r ∧ Q114 c A n r := by
        rw [← hr]
        exact loop114 h n hn _ ⟨by simp, by simp, by simp, by simp, by simp, by simp, fun j hj => by omega⟩
      rcases hQ with ⟨hx, hE⟩ | ⟨hx, h4, hE⟩
      · simp [hx, hl, hE]
      · simp [hx, h4, hE]
  · simp [ir71, nameE, hc, hw, h1]
/-! ### by the program -/
abbrev mapE (l : List (Txt × Int)) : List (V × V) := l.map fun p => (V.str p.1, num p.2)
theorem find_map : ∀ (l : List (Txt × Int)) (s : Txt), ∃ r, findE (mapE l) (.str s) = some r ∧ r.isSome = decide (s ∈ l.map Prod.fst)
  | [], s => ⟨none, rfl, by simp⟩
  | (k, v) :: l, s => by
    obtain ⟨r, h1, h2⟩ := find_map l s
    by_cases h : s = k
    · subst h
      exact ⟨some (num v), by simp [findE], by simp⟩
    · have h' : (s == k) = false := by simpa using h
      refine ⟨r, ?_, ?_⟩
      · simp only [List.map_cons, findE, eqS, h']
        exact h1
      · rw [h2]; simp [h]
theorem upd_map : ∀ (l : List (Txt × Int)) (s : Txt) (v : Int), ∃ l', updL (mapE l) (.str s) (num v) = some (mapE l') ∧ ∀ t, t ∈ l'.map Prod.fst ↔ (t ∈ l.map Prod.fst ∨ t = s)
  | [], s, v => ⟨[(s, v)], rfl, fun t => by simp⟩
  | (k, w) :: l, s, v => by
    obtain ⟨l', h1, h2⟩ := upd_map l s v
    by_cases h : s = k
    · subst h
      exact ⟨(s, v) :: l, by simp [updL], fun t => by simp; intro e; exact .inl e⟩
    · have h' : (s == k) = false := by simpa using h
      refine ⟨(k, w) :: l', ?_, fun t => ?_⟩
      · simp only [List.map_cons, updL, eqS, h']
        rw [h1]; rfl
      · simp only [List.map_cons, List.mem_cons, h2 t]
        exact ⟨fun h => by rcases h with h | h | h <;> simp [h], fun h => by rcases h with (h | h) | h <;> simp [h]⟩
abbrev xcells (c : Ct) : List V := [num c.act, .imm (c.inputs.map srow), .imm (c.signals.map Sg.row), ints c.plus, ints c.minus, .map 2, .fn 90 [.bptr 3 0] [], .fn 91 [.bptr 3 0] [], .fn 92 [.bptr 3 0] []]
/-- Memory of the program's check, and something behind it. -/
abbrev hX (c : Ct) (l : List (Txt × Int)) (t : H) : H := ⟨0, .box c.cells⟩ :: ⟨0, .box c.cells⟩ :: ⟨0, .map (mapE l)⟩ :: ⟨0, .box (xcells c)⟩ :: t
theorem ev93 (c : Ct) (l : List (Txt × Int)) (t : H) (hc : ∀ l, calm (hX c l t)) (s : Txt) : ∃ l', ev pg (.call (.fn 93 [] []) [.bptr 3 0, .str s] (hX c l t)) = some { v := num (nameE (l.map Prod.fst) s), st := ⟨[], hX c l' t⟩ } ∧ ((nameE (l.map Prod.fst) s = 0 ∧ ∀ q, q ∈ l'.map Prod.fst ↔ (q ∈ l.map Prod.fst ∨ q = s)) ∨ (nameE (l.map Prod.fst) s ≠ 0 ∧ l' = l)) := by
  have h158 := ev116 s
  have hck : ∀ l, cutK (t.length + 1 + 1 + 1 + 1) (hX c l t) = hX c l t := fun l => calm_cutK (hc l)
  rw [ev_call, pg93]
  cases s with
  | nil =>
    refine ⟨l, ?_, .inr ⟨by simp [nameE, wordB], rfl⟩⟩
    simp [-cutK, ir93, nameE, wordB, hck]
  | cons b r =>
    have hwb := wordB_cons b r
    by_cases g1 : b.toNat < 97
    · have g1' : (b.toNat : Int) < 97 := by omega
      have hw : wordB (b :: r) = false := by rw [hwb]; simp [smallN]; omega
      refine ⟨l, ?_, .inr ⟨by simp [nameE, hw], rfl⟩⟩
      simp [-cutK, ir93, nameE, hw, hck, g1']
    by_cases g2 : 122 < b.toNat
    · have g1' : ¬ ((b.toNat : Int) < 97) := by omega
      have g2' : (122 : Int) < (b.toNat : Int) := by omega
      have hw : wordB (b :: r) = false := by rw [hwb]; simp [smallN]; omega
      refine ⟨l, ?_, .inr ⟨by simp [nameE, hw], rfl⟩⟩
      simp [-cutK, ir93, nameE, hw, hck, g1', g2']
    have g1' : ¬ ((b.toNat : Int) < 97) := by omega
    have g2' : ¬ ((122 : Int) < (b.toNat : Int)) := by omega
    have hsm : smallN b.toNat = true := by simp [smallN]; omega
    rw [hsm, Bool.true_and] at hwb
    generalize hwa : wordAll (b :: r) = wa at *
    cases wa with
    | false =>
      refine ⟨l, ?_, .inr ⟨by simp [nameE, hwb], rfl⟩⟩
      simp [-cutK, ir93, nameE, hwb, hck, g1', g2', h158]
    | true =>
      by_cases g3 : 24 < (b :: r).length
      · have g3' : (24 : Int) < (r.length : Int) + 1 := by simp only [List.length_cons] at g3; omega
        refine ⟨l, ?_, .inr ⟨by rw [nameE, hwb, if_pos rfl, if_pos g3]; omega, rfl⟩⟩
        have he : nameE (l.map Prod.fst) (b :: r) = 17 := by rw [nameE, hwb, if_pos rfl, if_pos g3]
        rw [he]
        simp [-cutK, ir93, hck, g1', g2', h158, g3']
      · have g3' : ¬ ((24 : Int) < (r.length : Int) + 1) := by simp only [List.length_cons] at g3; omega
        obtain ⟨q, hq1, hq2⟩ := find_map l (b :: r)
        by_cases hin : (b :: r) ∈ l.map Prod.fst
        · have he : nameE (l.map Prod.fst) (b :: r) = 7 := by rw [nameE, hwb, if_pos rfl, if_neg g3, if_pos hin]
          rw [decide_eq_true hin] at hq2
          refine ⟨l, ?_, .inr ⟨by rw [he]; omega, rfl⟩⟩
          rw [he]
          simp [-cutK, ir93, hck, g1', g2', h158, g3', hq1, hq2]
        · have he : nameE (l.map Prod.fst) (b :: r) = 0 := by rw [nameE, hwb, if_pos rfl, if_neg g3, if_neg hin]
          rw [decide_eq_false hin] at hq2
          obtain ⟨l', hu1, hu2⟩ := upd_map l (b :: r) l.length
          refine ⟨l', ?_, .inl ⟨he, hu2⟩⟩
          rw [he]
          simp [-cutK, ir93, ev_draw1, exT, chkOk, hck, g1', g2', h158, g3', hq1, hq2, hu1]
end Go.Proofs.YtopjiafdimoeiaaGreat
