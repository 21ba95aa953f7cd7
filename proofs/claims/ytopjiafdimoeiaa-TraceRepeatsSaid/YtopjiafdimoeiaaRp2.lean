/- Repeat; the law of the first word. -/
import Derived.Test.YtopjiafdimoeiaaRp1
namespace Go.Proofs.Ytopjiafdimoeiaa
open Go Go.Am Go.Proofs
set_option maxRecDepth 100000
theorem wrapU64 {n : Int} (h : 0 ≤ n) (h2 : n < 18446744073709551616) : IntKind.u64.wrap n = n := by
  unfold IntKind.wrap; simp [IntKind.bits, IntKind.signed]; omega
theorem andLow {a : Nat} (h : a < 4294967296) : bitI .and .u64 (a : Int) 4294967295 = a := by
  have e : (BitVec.ofInt 64 (a : Int) &&& BitVec.ofInt 64 4294967295).toNat = a := by
    have h1 : BitVec.ofInt 64 4294967295 = BitVec.ofNat 64 (2 ^ 32 - 1) := by decide
    rw [h1, BitVec.ofInt_natCast, BitVec.toNat_and, BitVec.toNat_ofNat, BitVec.toNat_ofNat, Nat.mod_eq_of_lt (show a < 2 ^ 64 by omega), Nat.mod_eq_of_lt (show 2 ^ 32 - 1 < 2 ^ 64 by omega), Nat.and_two_pow_sub_one_eq_mod]
    omega
  unfold bitI
  show IntKind.u64.wrap ((BitVec.ofInt 64 (a : Int) &&& BitVec.ofInt 64 4294967295).toNat : Int) = a
  rw [e]
  exact wrapU64 (by omega) (by omega)
theorem ev147 (a b l : Nat) (ha : a ≤ 1152) (hb : b ≤ 2) (hl : l = a * b) : ev pg (.call (.fn 147 [] []) [.int .u64 a, .int .u64 b] []) = some { v := .tup [.int .u64 0, .int .u64 l], st := ⟨[], []⟩ } := by
  have a1 := andLow (a := a) (by omega)
  have a2 := andLow (a := b) (by omega)
  have a3 := andLow (a := 0) (by omega)
  have hl2 : l ≤ 2304 := by
    rw [hl]
    exact Nat.mul_le_mul ha hb
  have s1 : (a : Int).fdiv 4294967296 = 0 := by rw [Int.fdiv_eq_ediv_of_nonneg _ (by omega)]; omega
  have s2 : (b : Int).fdiv 4294967296 = 0 := by rw [Int.fdiv_eq_ediv_of_nonneg _ (by omega)]; omega
  have s3 : (l : Int).fdiv 4294967296 = 0 := by rw [Int.fdiv_eq_ediv_of_nonneg _ (by omega)]; omega
  have m1 : (a : Int) * (b : Int) = (l : Int) := by rw [hl]; simp
  have w1 := wrapU64 (n := (l : Int)) (by omega) (by omega)
  have w0 := wrapU64 (n := 0) (by omega) (by omega)
  simp at a3
  rw [ev_call, pg147]
  simp [ir147, a1, a2, a3, s1, s2, s3, m1, w1, w0, IntKind.bits]
theorem ev109 (a b l : Nat) (ha : a ≤ 1152) (hb : b ≤ 2) (hl : l = a * b) : ev pg (.call (.fn 109 [] []) [.int .u64 a, .int .u64 b] []) = some { v := .tup [.int .u64 0, .int .u64 l], st := ⟨[], []⟩ } := by
  have h := ev147 a b l ha hb hl
  rw [ev_call, pg109]
  simp [ir109, h]
theorem ev64 (F : List Sk) (hF : F ≠ []) (hFl : F.length ≤ 1152) (n : Nat) (hn : n ≤ 2) : ev pg (.call (.fn 64 [] []) [words F, num n] []) = some { v := .sl 0 0 2 0 (repW F n).length, st := ⟨[], [⟨0, .arr 2 ((repW F n).map Sk.row)⟩]⟩ } := by
  obtain ⟨l, hl⟩ : ∃ l, l = F.length * n := ⟨_, rfl⟩
  have h109 := ev109 F.length n l hFl hn hl
  have hL0 : F.length ≠ 0 := fun e => hF (List.length_eq_zero_iff.1 e)
  have wF := wrapU64 (n := (F.length : Int)) (by omega) (by omega)
  have wn := wrapU64 (n := (n : Int)) (by omega) (by omega)
  have hl2 : l ≤ 2304 := by rw [hl]; exact Nat.mul_le_mul hFl hn
  have wl := wrap_id (n := (l : Int)) (by omega) (by omega)
  have hbig : ¬ ((9223372036854775807 : Int) < (l : Int)) := by omega
  have h47 : l * 16 ≤ 140737488355328 := by omega
  have h62 : l ≤ 2 ^ 62 := by omega
  have hneg : ¬ ((n : Int) < 0) := by omega
  rw [ev_call, pg64]
  rcases (by omega : n = 0 ∨ n = 1 ∨ n = 2) with rfl | rfl | rfl
  · have hl0 : l = 0 := by omega
    subst hl0
    simp at h109 wn wl
    simp [ir64, h109, wF, wn, wl, ev_loop, ev_going, L64_0, repW, moveVs, moveV, move1]
  · obtain rfl : l = F.length := by omega
    have hT : List.take F.length (F.map Sk.row) = F.map Sk.row := List.take_of_length_le (by simp)
    simp at h109 wn
    simp [ir64, h109, wF, wn, wl, hbig, h47, h62, hF, hL0, hT, ev_loop, ev_going, L64_0, repW, moveVs, moveV, move1]
  · have hl2 : l = F.length + F.length := by omega
    subst hl2
    have hT : List.take F.length (F.map Sk.row) = F.map Sk.row := List.take_of_length_le (by simp)
    have hm : min F.length (F.length + F.length) = F.length := by omega
    simp at h109 wn
    have hbig : ¬ ((9223372036854775807 : Int) < (F.length : Int) + (F.length : Int)) := by omega
    have wl := wrap_id (n := (F.length : Int) + (F.length : Int)) (by omega) (by omega)
    have hnat : ((F.length : Int) + (F.length : Int)).toNat = F.length + F.length := by omega
    have hnn : (0 : Int) ≤ (F.length : Int) + (F.length : Int) := by omega
    have h62 : F.length + F.length ≤ 4611686018427387904 := by omega
    simp [ir64, h109, wF, wn, wl, hbig, h47, h62, hF, hL0, hT, hm, hnat, hnn, ev_loop]
    have hlt : (F.length : Int) < (F.length : Int) + (F.length : Int) := by omega
    have f1 : List.take F.length (F.map Sk.row ++ List.replicate F.length [V.int .i64 0, V.bool false]) = F.map Sk.row := List.take_left' (by simp)
    have f2 : List.drop (F.length + F.length) (F.map Sk.row ++ List.replicate F.length [V.int .i64 0, V.bool false]) = [] := List.drop_eq_nil_of_le (by simp)
    rw [ev_going]
    simp [L64_0, hlt, f1, f2, hL0, hF, hT, wl]
    rw [ev_going]
    simp [L64_0, moveVs, moveV, move1, repW]
end Go.Proofs.Ytopjiafdimoeiaa
