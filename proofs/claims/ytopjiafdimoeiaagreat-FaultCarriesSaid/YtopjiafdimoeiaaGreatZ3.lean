/- A list of some zeroes. Names that are not there yet, by the reference. -/
import Derived.Test.YtopjiafdimoeiaaGreatSa4
import Derived.Test.YtopjiafdimoeiaaGreatSa1
/- A list of some zeroes. -/
namespace Go.Proofs.YtopjiafdimoeiaaGreat
open Go Go.Am Go.Proofs
set_option maxRecDepth 100000
theorem wrapU64 {n : Int} (h : 0 ≤ n) (h2 : n < 18446744073709551616) : IntKind.u64.wrap n = n := by
  unfold IntKind.wrap; simp [IntKind.bits, IntKind.signed]; omega
theorem andLow {a : Nat} (h : a < 4294967296) : bitI .and .u64 (a : Int) 4294967295 = a := by
  have e : (BitVec.ofInt 64 (a : Int) &&& BitVec.ofInt 64 4294967295).toNat = a := by
    have h1 : BitVec.ofInt 64 4294967295 = BitVec.ofNat 64 (2 ^ 32 - 1) := by decide
    rw [h1, BitVec.ofInt_natCast, BitVec.toNat_and, BitVec.toNat_ofNat, BitVec.toNat_ofNat, Nat.mod_eq_of_lt (show a < 2 ^ 64 by omega), Nat.mod_eq_of_lt (show 2 ^ 32 - 1 < 2 ^ 64 by omega), Nat.and_two_pow_sub_one_eq_mod]
    omega
  unfold bitI
  show IntKind.u64.wrap ((BitVec.ofInt 64 (a : Int) &&& BitVec.ofInt 64 4294967295).toNat : Int) = a
  rw [e]
  exact wrapU64 (by omega) (by omega)
theorem ev110 (a b l : Nat) (ha : a ≤ 1152) (hb : b ≤ 2) (hl : l = a * b) : ev pg (.call (.fn 110 [] []) [.int .u64 a, .int .u64 b] []) = some { v := .tup [.int .u64 0, .int .u64 l], st := ⟨[], []⟩ } := by
  have a1 := andLow (a := a) (by omega)
  have a2 := andLow (a := b) (by omega)
  have a3 := andLow (a := 0) (by omega)
  have hl2 : l ≤ 2304 := by
    rw [hl]
    exact Nat.mul_le_mul ha hb
  have s1 : (a : Int).fdiv 4294967296 = 0 := by rw [Int.fdiv_eq_ediv_of_nonneg _ (by omega)]; omega
  have s2 : (b : Int).fdiv 4294967296 = 0 := by rw [Int.fdiv_eq_ediv_of_nonneg _ (by omega)]; omega
  have s3 : (l : Int).fdiv 4294967296 = 0 := by rw [Int.fdiv_eq_ediv_of_nonneg _ (by omega)]; omega
  have m1 : (a : Int) * (b : Int) = (l : Int) := by rw [hl]; simp
  have w1 := wrapU64 (n := (l : Int)) (by omega) (by omega)
  have w0 := wrapU64 (n := 0) (by omega) (by omega)
  simp at a3
  rw [ev_call, pg110]
  simp [ir110, a1, a2, a3, s1, s2, s3, m1, w1, w0, IntKind.bits]
theorem ev82 (a b l : Nat) (ha : a ≤ 1152) (hb : b ≤ 2) (hl : l = a * b) : ev pg (.call (.fn 82 [] []) [.int .u64 a, .int .u64 b] []) = some { v := .tup [.int .u64 0, .int .u64 l], st := ⟨[], []⟩ } := by
  have h := ev110 a b l ha hb hl
  rw [ev_call, pg82]
  simp [ir82, h]
theorem ev46 (n : Nat) (hn : n ≤ 2) : ev pg (.call (.fn 46 [] []) [ints [0], num n] []) = some { v := ints (List.replicate n 0), st := ⟨[], []⟩ } := by
  have h := ev82 1 n n (by omega) hn (by omega)
  have w0 := wrapU64 (n := 0) (by omega) (by omega)
  have w1 := wrapU64 (n := 1) (by omega) (by omega)
  have w2 := wrapU64 (n := 2) (by omega) (by omega)
  have v0 := wrap_id (n := 0) (by omega) (by omega)
  have v1 := wrap_id (n := 1) (by omega) (by omega)
  have v2 := wrap_id (n := 2) (by omega) (by omega)
  rw [ev_call, pg46]
  rcases (by omega : n = 0 ∨ n = 1 ∨ n = 2) with rfl | rfl | rfl
  · simp at h
    simp [ir46, h, w0, w1, v0, v1, ev_loop, ev_going, L46_0]
  · simp at h
    simp [ir46, h, w0, w1, v0, v1, ev_loop, ev_going, L46_0]
  · simp at h
    simp [ir46, h, w0, w1, w2, v0, v1, v2, ev_loop]
    rw [ev_going]
    simp [L46_0, v2]
    rw [ev_going]
    simp [L46_0]
end Go.Proofs.YtopjiafdimoeiaaGreat
/- Names that are not there yet, by the reference. -/
namespace Go.Proofs.YtopjiafdimoeiaaGreat
open Go Go.Am Go.Proofs
set_option maxRecDepth 100000
def I98 (c : Ct) (A : Nat) (t : Txt) (k : Nat) (st : St) : Prop := st.h = [⟨0, .box c.cells⟩] ∧ st.s.length = 18 ∧ getS st.s 1 = .str t ∧ getS st.s 2 = .bptr 0 0 ∧ getS st.s 5 = num k ∧ ∀ j, j < k → nameAt c A j ≠ t
def Q98 (c : Ct) (A : Nat) (t : Txt) (r : R) : Prop := r.st.s.length = 18 ∧ ((r.x = .exit 0 ∧ ¬ t ∈ namesTo c A (countN c A)) ∨ (r.x = .ret ∧ (∃ k : Nat, getS r.st.s 4 = num k) ∧ t ∈ namesTo c A (countN c A)))
theorem loop98 {c : Ct} {A : Nat} (hM : Mid c A) (t : Txt) (st : St) (h0 : I98 c A t 0 st) : ∃ r, ev pg (.code (.going 1 L98_0) st) = some r ∧ Q98 c A t r := by
  have hcN : countN c A ≤ 172 := by
    obtain ⟨_, g1, g2, g3, g4⟩ := hM
    unfold countN
    omega
  have h67 := ev67 hM
  refine loop_from (I98 c A t) (countN c A) (Q98 c A t) h0 ?_ ?_
  · rintro k ⟨s, hh⟩ hk ⟨rfl, hl, e1, e2, e5, he⟩
    simp only at hl e1 e2 e5
    have hk' : (k : Int) < (countN c A : Nat) := by omega
    have wk := wrap_id (n := (k : Int) + 1) (by omega) (by omega)
    have h99 := ev99 hM k hk
    have hmem : nameAt c A k = t → t ∈ namesTo c A (countN c A) := fun e => List.mem_map.2 ⟨k, List.mem_range.2 hk, e⟩
    have hnext : nameAt c A k ≠ t → ∀ j, j < k + 1 → nameAt c A j ≠ t := fun e j hj => by
      by_cases h1 : j = k
      · rw [h1]; exact e
      · exact he j (by omega)
    unfold Q98
    generalize namesTo c A (countN c A) = K at *
    generalize countN c A = N at *
    by_cases hb : nameAt c A k = t
    · have n1 : (nameAt c A k == t) = true := by simpa using hb
      have hm := hmem hb
      rw [getS_expand hl]
      simp [L98_0, List.range, List.range.loop, e1, e2, e5, h67, h99, hk', n1]
      exact ⟨⟨k, rfl⟩, hm⟩
    · have n1 : (nameAt c A k == t) = false := by simpa using hb
      have hm := hnext hb
      rw [getS_expand hl]
      simp [L98_0, I98, List.range, List.range.loop, e1, e2, e5, h67, h99, hk', n1, wk]
      exact hm
  · rintro ⟨s, hh⟩ ⟨rfl, hl, e1, e2, e5, he⟩
    simp only at hl e1 e2 e5
    have hno : ¬ t ∈ namesTo c A (countN c A) := fun h => by
      obtain ⟨j, hj, e⟩ := List.mem_map.1 h
      exact he j (List.mem_range.1 hj) e
    unfold Q98
    generalize namesTo c A (countN c A) = K at *
    generalize countN c A = N at *
    rw [getS_expand hl]
    simp [L98_0, List.range, List.range.loop, e1, e2, e5, h67]
    exact hno
theorem ev98 {c : Ct} {A : Nat} (hM : Mid c A) (t : Txt) : ∃ r : Int, ev pg (.call (.fn 98 [] []) [c.v, .str t] []) = some { v := num r, st := ⟨[], []⟩ } ∧ (0 ≤ r ↔ t ∈ namesTo c A (countN c A)) := by
  have hloop := loop98 hM t
  have hI : ∀ st : St, (st.h = [⟨0, .box c.cells⟩] ∧ st.s.length = 18 ∧ getS st.s 1 = .str t ∧ getS st.s 2 = .bptr 0 0 ∧ getS st.s 5 = num 0) → I98 c A t 0 st := fun st h => ⟨h.1, h.2.1, h.2.2.1, h.2.2.2.1, h.2.2.2.2, fun j hj => by omega⟩
  unfold Q98 at hloop
  generalize namesTo c A (countN c A) = K at *
  rw [ev_call, pg98]
  simp [ir98, ev_loop]
  generalize hr : ev pg (.code (.going _ L98_0) _) = o
  obtain ⟨r, rfl, hl, hQ⟩ : ∃ r, o = some r ∧ _ := by
    rw [← hr]
    exact hloop _ (hI _ ⟨by simp, by simp, by simp, by simp, by simp⟩)
  rcases hQ with ⟨hx, hno⟩ | ⟨hx, ⟨k, h4⟩, hm⟩
  · refine ⟨-1, ?_, ?_⟩
    · simp [hx, hl]
    · exact ⟨fun h => by omega, fun h => absurd h hno⟩
  · refine ⟨k, ?_, ?_⟩
    · simp [hx, h4]
    · exact ⟨fun _ => hm, fun _ => by omega⟩
def I69 (c : Ct) (b : Txt) (n : Nat) (st : St) : Prop := st.h = [⟨0, .box c.cells⟩] ∧ st.s.length = 12 ∧ getS st.s 1 = .str (withU b n) ∧ getS st.s 2 = .bptr 0 0
def Q69 (c : Ct) (K : List Txt) (b : Txt) (r : R) : Prop := r.x = .exit 0 ∧ r.st.h = [⟨0, .box c.cells⟩] ∧ r.st.s.length = 12 ∧ getS r.st.s 1 = .str (freshT K b)
theorem loop69 {c : Ct} {A : Nat} (hM : Mid c A) (K : List Txt) (hK : namesTo c A (countN c A) = K) (b : Txt) (hb : b.length ≤ 100) (st : St) (h0 : I69 c b 0 st) : ∃ r, ev pg (.code (.going 1 L69_0) st) = some r ∧ Q69 c K b r := by
  have hKl : K.length ≤ 172 := by
    rw [← hK, names_len]
    obtain ⟨_, g1, g2, g3, g4⟩ := hM
    unfold countN
    omega
  refine loop_from (I69 c b) (freeN K b) (Q69 c K b) h0 ?_ ?_
  · rintro n ⟨s, hh⟩ hn ⟨rfl, hl, e1, e2⟩
    simp only at hl e1 e2
    obtain ⟨r, h98, hr⟩ := ev98 hM (withU b n)
    rw [hK] at hr
    have h0r : 0 ≤ r := hr.2 (free_lt K b n hn)
    have hlen : (withU b n).length + 1 ≤ 140737488355328 := by
      have h1 := free_le K b
      rw [List.length_append, List.length_replicate]
      omega
    have hsu := withU_succ b n
    unfold I69
    rw [hsu]
    generalize withU b n = T at *
    rw [getS_expand hl]
    simp [L69_0, List.range, List.range.loop, e1, e2, h98, h0r, hlen]
  · rintro ⟨s, hh⟩ ⟨rfl, hl, e1, e2⟩
    simp only at hl e1 e2
    obtain ⟨r, h98, hr⟩ := ev98 hM (withU b (freeN K b))
    rw [hK] at hr
    have h0r : ¬ 0 ≤ r := fun h => free_not K b (hr.1 h)
    unfold Q69 freshT
    generalize withU b (freeN K b) = T at *
    rw [getS_expand hl]
    simp [L69_0, List.range, List.range.loop, e1, e2, h98, h0r]
theorem ev69 {c : Ct} {A : Nat} (hM : Mid c A) (K : List Txt) (hK : namesTo c A (countN c A) = K) (b : Txt) (hb : b.length ≤ 100) : ev pg (.call (.fn 69 [] []) [c.v, .str b] []) = some { v := .str (freshT K b), st := ⟨[], []⟩ } := by
  have hloop := loop69 hM K hK b hb
  have hI : ∀ st : St, (st.h = [⟨0, .box c.cells⟩] ∧ st.s.length = 12 ∧ getS st.s 1 = .str b ∧ getS st.s 2 = .bptr 0 0) → I69 c b 0 st := fun st h => ⟨h.1, h.2.1, by rw [h.2.2.1]; simp, h.2.2.2⟩
  unfold Q69 at hloop
  generalize freshT K b = F at *
  rw [ev_call, pg69]
  simp [ir69, ev_loop]
  generalize hr : ev pg (.code (.going _ L69_0) _) = o
  obtain ⟨r, rfl, hx, hh, hl, h1⟩ : ∃ r, o = some r ∧ _ := by
    rw [← hr]
    exact hloop _ (hI _ ⟨by simp, by simp, by simp, by simp⟩)
  simp [hx, hl, h1]
end Go.Proofs.YtopjiafdimoeiaaGreat
