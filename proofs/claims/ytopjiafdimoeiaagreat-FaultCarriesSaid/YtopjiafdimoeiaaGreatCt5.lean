/- Names, by the program: the bytes of a text, rune after rune. Names of lines: errors, by the reference and by the program. -/
import Derived.Test.YtopjiafdimoeiaaGreatCt3
/- Names, by the program: the bytes of a text, rune after rune. -/
namespace Go.Proofs.YtopjiafdimoeiaaGreat
open Go Go.Am Go.Proofs
set_option maxRecDepth 100000
theorem wrap8 {n : Int} (h : 0 ≤ n) (h2 : n < 256) : IntKind.u8.wrap n = n := by
  unfold IntKind.wrap; simp [IntKind.bits, IntKind.signed]; omega
/-- Is a rune no part of a name? -/
def badR (n : Nat) : Bool := decide (122 < n) || !wordN n
theorem ev117 (n : Nat) : ev pg (.call (.fn 117 [] []) [.int .i32 n] []) = some { v := .bool (badR n), st := ⟨[], []⟩ } := by
  rw [ev_call, pg117]
  by_cases h : 122 < n
  · have h' : (122 : Int) < (n : Int) := by omega
    simp [ir117, badR, h, h']
  · have h' : ¬ ((122 : Int) < (n : Int)) := by omega
    have hc := ev118 n
    have w8 := wrap8 (n := (n : Int)) (by omega) (by omega)
    simp [ir117, badR, h, h', w8, hc]
abbrev wordAll (s : Txt) : Bool := s.all fun b => wordN b.toNat
theorem all_at' {f : UInt8 → Bool} {l : Txt} {k : Nat} (hk : k < l.length) : (l.drop k).all f = (f l[k] && (l.drop (k + 1)).all f) := by
  rw [List.drop_eq_getElem_cons hk]; rfl
theorem dec_low {t : Txt} {k : Nat} (hk : k < t.length) (h : t[k].toNat < 128) : Utf8.decode ⟨t.toArray⟩ k = (t[k].toNat, 1) := by
  have hs : k < (⟨t.toArray⟩ : ByteArray).size := by show k < t.toArray.size; simpa using hk
  have hg : (⟨t.toArray⟩ : ByteArray)[k]'hs = t[k] := by show t.toArray[k] = t[k]; simp
  have := Go.decode_ascii ⟨t.toArray⟩ k hs (by rw [hg]; exact h)
  rw [hg] at this
  exact this
theorem dec_high {t : Txt} {k : Nat} (hk : k < t.length) (h : 128 ≤ t[k].toNat) : 128 ≤ (Utf8.decode ⟨t.toArray⟩ k).1 := by
  have hs : k < (⟨t.toArray⟩ : ByteArray).size := by show k < t.toArray.size; simpa using hk
  have hg : (⟨t.toArray⟩ : ByteArray)[k]'hs = t[k] := by show t.toArray[k] = t[k]; simp
  exact (Go.decode_high ⟨t.toArray⟩ k hs (by rw [hg]; exact h)).1
def I204 (t : Txt) (k : Nat) (st : St) : Prop := st.h = [⟨0, .sit t k⟩] ∧ st.s.length = 21 ∧ getS st.s 1 = .fn 117 [] [] ∧ getS st.s 2 = .bool true ∧ getS st.s 10 = .sit 0 ∧ wordAll t = wordAll (t.drop k)
def Q204 (t : Txt) (r : R) : Prop := r.st.s.length = 21 ∧ ((r.x = .exit 0 ∧ wordAll t = true) ∨ (r.x = .ret ∧ ∃ k : Nat, getS r.st.s 6 = num k ∧ wordAll t = false))
theorem loop204 (t : Txt) (st : St) (h0 : I204 t 0 st) : ∃ r, ev pg (.code (.going 1 L136_0) st) = some r ∧ Q204 t r := by
  refine loop_from (I204 t) t.length (Q204 t) h0 ?_ ?_
  · rintro k ⟨s, h⟩ hk ⟨rfl, hl, e1, e2, e10, he⟩
    simp only at hl e1 e2 e10
    have he2 : wordAll (t.drop k) = (wordN t[k].toNat && wordAll (t.drop (k + 1))) := all_at' hk
    rw [he2] at he
    rw [getS_expand hl]
    by_cases hlow : t[k].toNat < 128
    · have hd := dec_low hk hlow
      have hc := ev117 t[k].toNat
      by_cases hw : wordN t[k].toNat = true
      · have hb : badR t[k].toNat = false := by
          have : ¬ 122 < t[k].toNat := fun h => by simp [wordN, smallN] at hw; omega
          simp [badR, hw, this]
        rw [hw, Bool.true_and] at he
        rw [hb] at hc
        simp [L136_0, I204, List.range, List.range.loop, e1, e2, e10, hk, hd, hc, he]
      · have hb : badR t[k].toNat = true := by simp [badR, hw]
        have hw' : wordN t[k].toNat = false := by simpa using hw
        rw [hw', Bool.false_and] at he
        rw [hb] at hc
        simp [L136_0, Q204, List.range, List.range.loop, e1, e2, e10, hk, hd, hc, he]
        exact ⟨k, rfl⟩
    · have hd := dec_high hk (by omega)
      have hc := ev117 (Utf8.decode ⟨t.toArray⟩ k).1
      have hb : badR (Utf8.decode ⟨t.toArray⟩ k).1 = true := by
        have : 122 < (Utf8.decode ⟨t.toArray⟩ k).1 := by omega
        simp [badR, this]
      have hw' : wordN t[k].toNat = false := by simp [wordN, smallN]; omega
      rw [hw', Bool.false_and] at he
      rw [hb] at hc
      simp [L136_0, Q204, List.range, List.range.loop, e1, e2, e10, hk, hc, he]
      exact ⟨k, rfl⟩
  · rintro ⟨s, h⟩ ⟨rfl, hl, e1, e2, e10, he⟩
    simp only [List.drop_length] at hl e1 e2 e10 he
    have he' : wordAll t = true := he
    rw [getS_expand hl]
    simp [L136_0, Q204, List.range, List.range.loop, e1, e2, e10, he']
theorem ev116 (t : Txt) : ev pg (.call (.fn 116 [] []) [.str t, .fn 117 [] []] []) = some { v := .bool (!wordAll t), st := ⟨[], []⟩ } := by
  have h204 : ∃ i : Int, ev pg (.call (.fn 136 [] []) [.str t, .fn 117 [] [], .bool true] []) = some { v := num i, st := ⟨[], []⟩ } ∧ decide (0 ≤ i) = !wordAll t := by
    rw [ev_call, pg136]
    simp [ir136, ev_loop]
    generalize hr : ev pg (.code (.going 1 L136_0) _) = o
    obtain ⟨r, rfl, hl, hQ⟩ : ∃ r, o = some r ∧ Q204 t r := by rw [← hr]; exact loop204 t _ ⟨by simp, by simp, by simp, by simp, by simp, rfl⟩
    rcases hQ with ⟨hx, hE⟩ | ⟨hx, k, h6, hE⟩
    · refine ⟨-1, ?_⟩
      simp [hx, hl, hE]
    · refine ⟨k, ?_⟩
      simp [hx, h6, hE]
  obtain ⟨i, h204, hi⟩ := h204
  have h189 : ev pg (.call (.fn 129 [] []) [.str t, .fn 117 [] []] []) = some { v := num i, st := ⟨[], []⟩ } := by
    rw [ev_call, pg129]
    simp [ir129, h204]
  rw [ev_call, pg116, ← hi]
  simp [ir116, h189]
end Go.Proofs.YtopjiafdimoeiaaGreat
/- Names of lines: errors, by the reference and by the program. -/
namespace Go.Proofs.YtopjiafdimoeiaaGreat
open Go Go.Am Go.Proofs
set_option maxRecDepth 100000
theorem wordGo_all : ∀ l : Txt, wordGo false l = wordAll l
  | [] => rfl
  | b :: r => by
    rw [wordGo, wordGo_all r]
    show _ = (wordN b.toNat && wordAll r)
    cases wordN b.toNat <;> simp
theorem wordB_cons (b : UInt8) (r : Txt) : wordB (b :: r) = (smallN b.toNat && wordAll (b :: r)) := by
  show ((if (true && !smallN b.toNat) || !wordN b.toNat then false else wordGo false r) && true) = (smallN b.toNat && (wordN b.toNat && wordAll r))
  rw [wordGo_all]
  cases smallN b.toNat <;> cases wordN b.toNat <;> simp
/-- The error of a name, where the names K are taken. -/
def nameE (K : List Txt) (s : Txt) : Int := if wordB s = true then (if 24 < s.length then 17 else if s ∈ K then 7 else 0) else 3
def namesTo (c : Ct) (A n : Nat) : List Txt := (List.range n).map (nameAt c A)
/-! ### by the reference -/
def I114 (c : Ct) (A n : Nat) (k : Nat) (st : St) : Prop := st.h = [⟨0, .box c.cells⟩] ∧ st.s.length = 26 ∧ getS st.s 1 = num n ∧ getS st.s 2 = .bptr 0 0 ∧ getS st.s 5 = .str (nameAt c A n) ∧ getS st.s 6 = num k ∧ ∀ j, j < k → nameAt c A j ≠ nameAt c A n
def Q114 (c : Ct) (A n : Nat) (r : R) : Prop := r.st.s.length = 26 ∧ ((r.x = .exit 0 ∧ ¬ nameAt c A n ∈ namesTo c A n) ∨ (r.x = .ret ∧ getS r.st.s 4 = num 7 ∧ nameAt c A n ∈ namesTo c A n))
theorem loop114 {c : Ct} {A : Nat} (h : Mid c A) (n : Nat) (hn : n < countN c A) (st : St) (h0 : I114 c A n 0 st) : ∃ r, ev pg (.code (.going 1 L71_0) st) = some r ∧ Q114 c A n r := by
  have hcn : countN c A ≤ 172 := by
    obtain ⟨hA, h1, h2, h3, h4⟩ := h
    unfold countN
    omega
  refine loop_from (I114 c A n) n (Q114 c A n) h0 ?_ ?_
  · rintro k ⟨s, hh⟩ hk ⟨rfl, hl, e1, e2, e5, e6, he⟩
    simp only at hl e1 e2 e5 e6
    have hk' : (k : Int) < n := by omega
    have wk := wrap_id (n := (k : Int) + 1) (by omega) (by omega)
    have hc := ev99 h k (by omega)
    rw [getS_expand hl]
    by_cases ha : nameAt c A k = nameAt c A n
    · have hin : nameAt c A n ∈ namesTo c A n := List.mem_map.2 ⟨k, List.mem_range.2 hk, ha⟩
      simp [L71_0, Q114, List.range, List.range.loop, e1, e2, e5, e6, hk', hc, ha, hin]
    · have ha' : (nameAt c A k == nameAt c A n) = false := by simpa using ha
      simp [L71_0, I114, List.range, List.range.loop, e1, e2, e5, e6, hk', hc, ha', wk]
      intro j hj
      by_cases hjk : j = k
      · rw [hjk]; exact ha
      · exact he j (by omega)
  · rintro ⟨s, hh⟩ ⟨rfl, hl, e1, e2, e5, e6, he⟩
    simp only at hl e1 e2 e5 e6
    have hno : ¬ nameAt c A n ∈ namesTo c A n := fun hin => by
      obtain ⟨j, hj, e⟩ := List.mem_map.1 hin
      exact he j (List.mem_range.1 hj) e
    rw [getS_expand hl]
    simp [L71_0, Q114, List.range, List.range.loop, e1, e2, e5, e6, hno]
theorem ev71 {c : Ct} {A : Nat} (h : Mid c A) (n : Nat) (hn : n < countN c A) (hlen : (nameAt c A n).length < 2 ^ 62) : ev pg (.call (.fn 71 [] []) [c.v, num n] []) = some { v := num (nameE (namesTo c A n) (nameAt c A n)), st := ⟨[], []⟩ } := by
  have hc := ev99 h n hn
  have hw := ev100 (nameAt c A n) hlen
  rw [ev_call, pg71]
  by_cases h1 : wordB (nameAt c A n) = true
  · by_cases h2 : 24 < (nameAt c A n).length
    · have h2' : (24 : Int) < ((nameAt c A n).length : Int) := by omega
      simp [ir71, nameE, hc, hw, h1, h2, h2']
    · have h2' : ¬ ((24 : Int) < ((nameAt c A n).length : Int)) := by omega
      simp [ir71, nameE, hc, hw, h1, h2, h2', ev_loop]
      generalize hr : ev pg (.code (.going 1 L71_0) _) = o
      obtain ⟨r, rfl, hl, hQ⟩ : ∃ r, o = some r ∧ Q114 c A n r := by
        rw [← hr]
        exact loop114 h n hn _ ⟨by simp, by simp, by simp, by simp, by simp, by simp, fun j hj => by omega⟩
      rcases hQ with ⟨hx, hE⟩ | ⟨hx, h4, hE⟩
      · simp [hx, hl, hE]
      · simp [hx, h4, hE]
  · simp [ir71, nameE, hc, hw, h1]
/-! ### by the program -/
abbrev mapE (l : List (Txt × Int)) : List (V × V) := l.map fun p => (V.str p.1, num p.2)
theorem find_map : ∀ (l : List (Txt × Int)) (s : Txt), ∃ r, findE (mapE l) (.str s) = some r ∧ r.isSome = decide (s ∈ l.map Prod.fst)
  | [], s => ⟨none, rfl, by simp⟩
  | (k, v) :: l, s => by
    obtain ⟨r, h1, h2⟩ := find_map l s
    by_cases h : s = k
    · subst h
      exact ⟨some (num v), by simp [findE], by simp⟩
    · have h' : (s == k) = false := by simpa using h
      refine ⟨r, ?_, ?_⟩
      · simp only [List.map_cons, findE, eqS, h']
        exact h1
      · rw [h2]; simp [h]
theorem upd_map : ∀ (l : List (Txt × Int)) (s : Txt) (v : Int), ∃ l', updL (mapE l) (.str s) (num v) = some (mapE l') ∧ ∀ t, t ∈ l'.map Prod.fst ↔ (t ∈ l.map Prod.fst ∨ t = s)
  | [], s, v => ⟨[(s, v)], rfl, fun t => by simp⟩
  | (k, w) :: l, s, v => by
    obtain ⟨l', h1, h2⟩ := upd_map l s v
    by_cases h : s = k
    · subst h
      exact ⟨(s, v) :: l, by simp [updL], fun t => by simp; intro e; exact .inl e⟩
    · have h' : (s == k) = false := by simpa using h
      refine ⟨(k, w) :: l', ?_, fun t => ?_⟩
      · simp only [List.map_cons, updL, eqS, h']
        rw [h1]; rfl
      · simp only [List.map_cons, List.mem_cons, h2 t]
        exact ⟨fun h => by rcases h with h | h | h <;> simp [h], fun h => by rcases h with (h | h) | h <;> simp [h]⟩
abbrev xcells (c : Ct) : List V := [num c.act, .imm (c.inputs.map srow), .imm (c.signals.map Sg.row), ints c.plus, ints c.minus, .map 2, .fn 90 [.bptr 3 0] [], .fn 91 [.bptr 3 0] [], .fn 92 [.bptr 3 0] []]
/-- Memory of the program's check, and something behind it. -/
abbrev hX (c : Ct) (l : List (Txt × Int)) (t : H) : H := ⟨0, .box c.cells⟩ :: ⟨0, .box c.cells⟩ :: ⟨0, .map (mapE l)⟩ :: ⟨0, .box (xcells c)⟩ :: t
theorem ev93 (c : Ct) (l : List (Txt × Int)) (t : H) (hc : ∀ l, calm (hX c l t)) (s : Txt) : ∃ l', ev pg (.call (.fn 93 [] []) [.bptr 3 0, .str s] (hX c l t)) = some { v := num (nameE (l.map Prod.fst) s), st := ⟨[], hX c l' t⟩ } ∧ ((nameE (l.map Prod.fst) s = 0 ∧ ∀ q, q ∈ l'.map Prod.fst ↔ (q ∈ l.map Prod.fst ∨ q = s)) ∨ (nameE (l.map Prod.fst) s ≠ 0 ∧ l' = l)) := by
  have h158 := ev116 s
  have hck : ∀ l, cutK (t.length + 1 + 1 + 1 + 1) (hX c l t) = hX c l t := fun l => calm_cutK (hc l)
  rw [ev_call, pg93]
  cases s with
  | nil =>
    refine ⟨l, ?_, .inr ⟨by simp [nameE, wordB], rfl⟩⟩
    simp [-cutK, ir93, nameE, wordB, hck]
  | cons b r =>
    have hwb := wordB_cons b r
    by_cases g1 : b.toNat < 97
    · have g1' : (b.toNat : Int) < 97 := by omega
      have hw : wordB (b :: r) = false := by rw [hwb]; simp [smallN]; omega
      refine ⟨l, ?_, .inr ⟨by simp [nameE, hw], rfl⟩⟩
      simp [-cutK, ir93, nameE, hw, hck, g1']
    by_cases g2 : 122 < b.toNat
    · have g1' : ¬ ((b.toNat : Int) < 97) := by omega
      have g2' : (122 : Int) < (b.toNat : Int) := by omega
      have hw : wordB (b :: r) = false := by rw [hwb]; simp [smallN]; omega
      refine ⟨l, ?_, .inr ⟨by simp [nameE, hw], rfl⟩⟩
      simp [-cutK, ir93, nameE, hw, hck, g1', g2']
    have g1' : ¬ ((b.toNat : Int) < 97) := by omega
    have g2' : ¬ ((122 : Int) < (b.toNat : Int)) := by omega
    have hsm : smallN b.toNat = true := by simp [smallN]; omega
    rw [hsm, Bool.true_and] at hwb
    generalize hwa : wordAll (b :: r) = wa at *
    cases wa with
    | false =>
      refine ⟨l, ?_, .inr ⟨by simp [nameE, hwb], rfl⟩⟩
      simp [-cutK, ir93, nameE, hwb, hck, g1', g2', h158]
    | true =>
      by_cases g3 : 24 < (b :: r).length
      · have g3' : (24 : Int) < (r.length : Int) + 1 := by simp only [List.length_cons] at g3; omega
        refine ⟨l, ?_, .inr ⟨by rw [nameE, hwb, if_pos rfl, if_pos g3]; omega, rfl⟩⟩
        have he : nameE (l.map Prod.fst) (b :: r) = 17 := by rw [nameE, hwb, if_pos rfl, if_pos g3]
        rw [he]
        simp [-cutK, ir93, hck, g1', g2', h158, g3']
      · have g3' : ¬ ((24 : Int) < (r.length : Int) + 1) := by simp only [List.length_cons] at g3; omega
        obtain ⟨q, hq1, hq2⟩ := find_map l (b :: r)
        by_cases hin : (b :: r) ∈ l.map Prod.fst
        · have he : nameE (l.map Prod.fst) (b :: r) = 7 := by rw [nameE, hwb, if_pos rfl, if_neg g3, if_pos hin]
          rw [decide_eq_true hin] at hq2
          refine ⟨l, ?_, .inr ⟨by rw [he]; omega, rfl⟩⟩
          rw [he]
          simp [-cutK, ir93, hck, g1', g2', h158, g3', hq1, hq2]
        · have he : nameE (l.map Prod.fst) (b :: r) = 0 := by rw [nameE, hwb, if_pos rfl, if_neg g3, if_neg hin]
          rw [decide_eq_false hin] at hq2
          obtain ⟨l', hu1, hu2⟩ := upd_map l (b :: r) l.length
          refine ⟨l', ?_, .inl ⟨he, hu2⟩⟩
          rw [he]
          simp [-cutK, ir93, ev_draw1, exT, chkOk, hck, g1', g2', h158, g3', hq1, hq2, hu1]
end Go.Proofs.YtopjiafdimoeiaaGreat
