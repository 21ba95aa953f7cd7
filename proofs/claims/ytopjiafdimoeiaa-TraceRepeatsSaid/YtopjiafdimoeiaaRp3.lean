/- The law of the first word. -/
import Derived.Test.YtopjiafdimoeiaaRp2
import Derived.Test.YtopjiafdimoeiaaSw2
namespace Go.Proofs.Ytopjiafdimoeiaa
open Go Go.Am Go.Proofs
set_option maxRecDepth 100000
theorem few12 {s : Sq} (h : fewSteps s = true) (hr : refErr s = 0) : (firstW s.steps).length ≤ 72 := by
  have hs := okSq_of hr
  have h1 := firstW_len (l := s.steps) hs.st.2.2
  simp only [fewSteps, hr, Bool.and_eq_true, Bool.or_eq_true, decide_eq_true_eq] at h
  rcases h.2 with h2 | h2
  · omega
  · simp at h2
theorem ev12 (s0 : Sq) (i j : Int) (hi : 0 ≤ i ∧ i ≤ 255) (hj : 0 ≤ j ∧ j ≤ 255) : ∃ r, ev pg (.call (.fn 12 [] []) [s0.v, .int .u8 i, .int .u8 j] []) = some r ∧ r.v = .bool true := by
  have hf := ev46 s0 []
  have haw := awake_ev
  have hw0 : words [] = .imm [] := rfl
  rw [hw0] at hf
  rw [ev_call, pg12]
  by_cases h1 : rightSq s0 [] = true
  · have h1' := h1
    simp only [rightSq, Bool.and_eq_true, decide_eq_true_eq, beq_iff_eq] at h1'
    obtain ⟨⟨⟨hfew, _⟩, hre⟩, _⟩ := h1'
    have hs := okSq_of hre
    have h63 := ev63 s0 hs.st
    have hFp := first_pos hs
    have hF72 := few12 hfew hre
    obtain ⟨a, rfl⟩ : ∃ a : Nat, i = a := ⟨i.toNat, by omega⟩
    obtain ⟨b, rfl⟩ : ∃ b : Nat, j = b := ⟨j.toNat, by omega⟩
    obtain ⟨n, hn⟩ : ∃ n, n = a % 3 := ⟨_, rfl⟩
    obtain ⟨c, hc⟩ : ∃ c, c = b % (firstW s0.steps).length := ⟨_, rfl⟩
    have hn2 : n ≤ 2 := by omega
    have hcF : c < (firstW s0.steps).length := by rw [hc]; exact Nat.mod_lt _ hFp
    have m3 : (a : Int).tmod 3 = (n : Int) := by rw [hn]; rfl
    have mF : (b : Int).tmod ((firstW s0.steps).length : Int) = (c : Int) := by rw [hc]; rfl
    have wn := wrap_id (n := (n : Int)) (by omega) (by omega)
    have wb := wrap_id (n := (b : Int)) (by omega) (by omega)
    have hFne : firstW s0.steps ≠ [] := fun e => by rw [e] at hFp; simp at hFp
    have h64 := ev64 (firstW s0.steps) hFne (by omega) n hn2
    have hb1 := rep_beg hre (n := n) (c := 0) hn2
    have hb2 := rep_beg hre (n := n) (c := c) hn2
    rw [List.take_zero, List.append_nil] at hb1
    have hl1 := repW_len (firstW s0.steps) n
    have hl1' : (repW (firstW s0.steps) n).length ≤ 144 := by
      rw [hl1]
      exact Nat.mul_le_mul hn2 hF72
    have hl2 : (repW (firstW s0.steps) n ++ (firstW s0.steps).take c).length = n * (firstW s0.steps).length + c := by
      rw [List.length_append, List.length_take, hl1]
      omega
    have h54a : ev pg (.call (.fn 54 [] []) [s0.v, words (repW (firstW s0.steps) n)] []) = some { v := .tup [num n, num 0, num 0], st := ⟨[], []⟩ } := by
      rcases ev54 s0 (repW (firstW s0.steps) n) (by omega) with ⟨hb, _⟩ | ⟨_, h⟩
      · exact absurd hb1 hb
      · rw [hl1, Nat.mul_div_cancel _ hFp, Nat.mul_mod_left] at h
        exact h
    have h54b : ev pg (.call (.fn 54 [] []) [s0.v, words (repW (firstW s0.steps) n ++ (firstW s0.steps).take c)] []) = some { v := .tup [num n, num c, num 0], st := ⟨[], []⟩ } := by
      rcases ev54 s0 (repW (firstW s0.steps) n ++ (firstW s0.steps).take c) (by have := rep_few hs (c := c) hn2; omega) with ⟨hb, _⟩ | ⟨_, h⟩
      · exact absurd hb2 hb
      · rw [hl2, Nat.mul_comm, Nat.mul_add_div hFp, Nat.div_eq_of_lt hcF, Nat.add_zero, Nat.mul_add_mod, Nat.mod_eq_of_lt hcF] at h
        exact h
    have h56 : ev pg (.call (.fn 56 [] []) [s0.v, words (repW (firstW s0.steps) n)] []) = some { v := .tup [words (repW (firstW s0.steps) n), num 0], st := ⟨[], []⟩ } := by
      rcases ev56 s0 (repW (firstW s0.steps) n) (by omega) with ⟨hb, _⟩ | ⟨_, _, B, left, hB, h⟩
      · exact absurd hb1 hb
      · rw [rep_norm hs hB] at h
        exact h
    have h62 := ev62 (repW (firstW s0.steps) n) (repW (firstW s0.steps) n) (by omega)
    rw [decide_eq_true rfl] at h62
    have h50 := ev50 (repW (firstW s0.steps) n) (by omega)
    obtain ⟨e, he, hel⟩ := rep_ends hre (n := n) (c := c) hn2
    have h43 := ev43 (repW (firstW s0.steps) n ++ (firstW s0.steps).take c) s0.act (by have := rep_few hs (c := c) hn2; omega)
    rw [he] at h43
    have hW : words (repW (firstW s0.steps) n ++ (firstW s0.steps).take c) = .imm ((repW (firstW s0.steps) n).map Sk.row ++ List.take c ((firstW s0.steps).map Sk.row)) := by
      simp only [words, List.map_append, List.map_take]
    rw [hW] at h54b h43
    have hcl : c ≤ (firstW s0.steps).length := by omega
    have hsz : sized 2 (List.take c ((firstW s0.steps).map Sk.row)) = true := by
      rw [← List.map_take]; generalize (firstW s0.steps).take c = v; simp
    have hpu : pureR (List.take c ((firstW s0.steps).map Sk.row)) = true := by
      rw [← List.map_take]; generalize (firstW s0.steps).take c = v; simp
    have hszF : sized 2 ((firstW s0.steps).map Sk.row) = true := by simp
    have hmin : min c (firstW s0.steps).length = c := by omega
    have h47 : ((repW (firstW s0.steps) n).length + c) * 16 ≤ 140737488355328 := by omega
    generalize repW (firstW s0.steps) n = W at *
    generalize firstW s0.steps = F at *
    have hF0 : ¬ (F.length = 0) := by omega
    simp [-sized, -pureR, ir12, hf, haw, h1, h63, m3, mF, wn, wb, h64, h54a, h56, h62, h50, h54b, h43, hcl, hsz, hpu, hszF, hmin, h47, hF0, hel]
  · simp [ir12, hf, haw, h1]
end Go.Proofs.Ytopjiafdimoeiaa
