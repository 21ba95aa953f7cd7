/- Names, by the program: the bytes of a text, rune after rune. -/
import Derived.Test.YtopjiafdimoeiaaGreatCt3
namespace Go.Proofs.YtopjiafdimoeiaaGreat
open Go Go.Am Go.Proofs
set_option maxRecDepth 100000
theorem wrap8 {n : Int} (h : 0 ≤ n) (h2 : n < 256) : IntKind.u8.wrap n = n := by
  unfold IntKind.wrap; simp [IntKind.bits, IntKind.signed]; omega
/-- Is a rune no part of a name? -/
def badR (n : Nat) : Bool := decide (122 < n) || !wordN n
theorem ev117 (n : Nat) : ev pg (.call (.fn 117 [] []) [.int .i32 n] []) = some { v := .bool (badR n), st := ⟨[], []⟩ } := by
  rw [ev_call, pg117]
  by_cases h : 122 < n
  · have h' : (122 : Int) < (n : Int) := by omega
    simp [ir117, badR, h, h']
  · have h' : ¬ ((122 : Int) < (n : Int)) := by omega
    have hc := ev118 n
    have w8 := wrap8 (n := (n : Int)) (by omega) (by omega)
    simp [ir117, badR, h, h', w8, hc]
abbrev wordAll (s : Txt) : Bool := s.all fun b => wordN b.toNat
theorem all_at' {f : UInt8 → Bool} {l : Txt} {k : Nat} (hk : k < l.length) : (l.drop k).all f = (f l[k] && (l.drop (k + 1)).all f) := by
  rw [List.drop_eq_getElem_cons hk]; rfl
theorem dec_low {t : Txt} {k : Nat} (hk : k < t.length) (h : t[k].toNat < 128) : Utf8.decode ⟨t.toArray⟩ k = (t[k].toNat, 1) := by
  have hs : k < (⟨t.toArray⟩ : ByteArray).size := by show k < t.toArray.size; simpa using hk
  have hg : (⟨t.toArray⟩ : ByteArray)[k]'hs = t[k] := by show t.toArray[k] = t[k]; simp
  have := Go.decode_ascii ⟨t.toArray⟩ k hs (by rw [hg]; exact h)
  rw [hg] at this
  exact this
theorem dec_high {t : Txt} {k : Nat} (hk : k < t.length) (h : 128 ≤ t[k].toNat) : 128 ≤ (Utf8.decode ⟨t.toArray⟩ k).1 := by
  have hs : k < (⟨t.toArray⟩ : ByteArray).size := by show k < t.toArray.size; simpa using hk
  have hg : (⟨t.toArray⟩ : ByteArray)[k]'hs = t[k] := by show t.toArray[k] = t[k]; simp
  exact (Go.decode_high ⟨t.toArray⟩ k hs (by rw [hg]; exact h)).1
def I204 (t : Txt) (k : Nat) (st : St) : Prop := st.h = [⟨0, .sit t k⟩] ∧ st.s.length = 21 ∧ getS st.s 1 = .fn 117 [] [] ∧ getS st.s 2 = .bool true ∧ getS st.s 10 = .sit 0 ∧ wordAll t = wordAll (t.drop k)
def Q204 (t : Txt) (r : R) : Prop := r.st.s.length = 21 ∧ ((r.x = .exit 0 ∧ wordAll t = true) ∨ (r.x = .ret ∧ ∃ k : Nat, getS r.st.s 6 = num k ∧ wordAll t = false))
theorem loop204 (t : Txt) (st : St) (h0 : I204 t 0 st) : ∃ r, ev pg (.code (.going 1 L136_0) st) = some r ∧ Q204 t r := by
  refine loop_from (I204 t) t.length (Q204 t) h0 ?_ ?_
  · rintro k ⟨s, h⟩ hk ⟨rfl, hl, e1, e2, e10, he⟩
    simp only at hl e1 e2 e10
    have he2 : wordAll (t.drop k) = (wordN t[k].toNat && wordAll (t.drop (k + 1))) := all_at' hk
    rw [he2] at he
    rw [getS_expand hl]
    by_cases hlow : t[k].toNat < 128
    · have hd := dec_low hk hlow
      have hc := ev117 t[k].toNat
      by_cases hw : wordN t[k].toNat = true
      · have hb : badR t[k].toNat = false := by
          have : ¬ 122 < t[k].toNat := fun h => by simp [wordN, smallN] at hw; omega
          simp [badR, hw, this]
        rw [hw, Bool.true_and] at he
        rw [hb] at hc
        simp [L136_0, I204, List.range, List.range.loop, e1, e2, e10, hk, hd, hc, he]
      · have hb : badR t[k].toNat = true := by simp [badR, hw]
        have hw' : wordN t[k].toNat = false := by simpa using hw
        rw [hw', Bool.false_and] at he
        rw [hb] at hc
        simp [L136_0, Q204, List.range, List.range.loop, e1, e2, e10, hk, hd, hc, he]
        exact ⟨k, rfl⟩
    · have hd := dec_high hk (by omega)
      have hc := ev117 (Utf8.decode ⟨t.toArray⟩ k).1
      have hb : badR (Utf8.decode ⟨t.toArray⟩ k).1 = true := by
        have : 122 < (Utf8.decode ⟨t.toArray⟩ k).1 := by omega
        simp [badR, this]
      have hw' : wordN t[k].toNat = false := by simp [wordN, smallN]; omega
      rw [hw', Bool.false_and] at he
      rw [hb] at hc
      simp [L136_0, Q204, List.range, List.range.loop, e1, e2, e10, hk, hc, he]
      exact ⟨k, rfl⟩
  · rintro ⟨s, h⟩ ⟨rfl, hl, e1, e2, e10, he⟩
    simp only [List.drop_length] at hl e1 e2 e10 he
    have he' : wordAll t = true := he
    rw [getS_expand hl]
    simp [L136_0, Q204, List.range, List.range.loop, e1, e2, e10, he']
theorem ev116 (t : Txt) : ev pg (.call (.fn 116 [] []) [.str t, .fn 117 [] []] []) = some { v := .bool (!wordAll t), st := ⟨[], []⟩ } := by
  have h204 : ∃ i : Int, ev pg (.call (.fn 136 [] []) [.str t, .fn 117 [] [], .bool true] []) = some { v := num i, st := ⟨[], []⟩ } ∧ decide (0 ≤ i) = !wordAll t := by
    rw [ev_call, pg136]
    simp [ir136, ev_loop]
    generalize hr : ev pg (.code (.going 1 L136_0) _) = o
    obtain ⟨r, rfl, hl, hQ⟩ : ∃ r, o = some r ∧ Q204 t r := by rw [← hr]; exact loop204 t _ ⟨by simp, by simp, by simp, by simp, by simp, rfl⟩
    rcases hQ with ⟨hx, hE⟩ | ⟨hx, k, h6, hE⟩
    · refine ⟨-1, ?_⟩
      simp [hx, hl, hE]
    · refine ⟨k, ?_⟩
      simp [hx, h6, hE]
  obtain ⟨i, h204, hi⟩ := h204
  have h189 : ev pg (.call (.fn 129 [] []) [.str t, .fn 117 [] []] []) = some { v := num i, st := ⟨[], []⟩ } := by
    rw [ev_call, pg129]
    simp [ir129, h204]
  rw [ev_call, pg116, ← hi]
  simp [ir116, h189]
end Go.Proofs.YtopjiafdimoeiaaGreat
