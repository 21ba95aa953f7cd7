/- Clones, and lists one behind the other. -/
import Derived.Test.YtopjiafdimoeiaaGreatSa1
namespace Go.Proofs.YtopjiafdimoeiaaGreat
open Go Go.Am Go.Proofs
set_option maxRecDepth 100000
theorem ev43 (l : List Bool) (hl : l.length ≤ 4096) : ev pg (.call (.fn 43 [] []) [bools l] []) = some { v := .sl 0 0 1 0 l.length, st := ⟨[], [⟨0, .arr 1 (l.map brow)⟩]⟩ } := by
  rw [ev_call, pg43]
  cases l with
  | nil => simp [ir43, moveVs, moveV, move1]
  | cons x l =>
    have h47 : (l.length + 1) * 1 ≤ 140737488355328 := by
      simp only [List.length_cons] at hl
      omega
    have h48 : l.length + 1 ≤ 140737488355328 := by omega
    simp [ir43, h47, h48, moveVs, moveV, move1]
theorem ev80g (n : Nat) (hn2 : n ≤ 100000) : ev pg (.call (.fn 80 [] []) [.nils, num n] [⟨0, .arr 0 []⟩]) = some (if n = 0 then { v := .nils, st := ⟨[], [⟨0, .arr 0 []⟩]⟩ } else { v := .sl 1 0 1 0 0, st := ⟨[], [⟨0, .arr 0 []⟩, ⟨0, .arr 1 []⟩]⟩ }) := by
  have w1 := wrap_id (n := (n : Int)) (by omega) (by omega)
  have p1 : ¬ ((n : Int) < 0) := by omega
  have w0 := wrap_id (n := 0) (by omega) (by omega)
  have p3 : n * 1 ≤ 140737488355328 := by omega
  have p4 : n ≤ 140737488355328 := by omega
  rw [ev_call, pg80]
  rcases Nat.eq_zero_or_pos n with rfl | hn
  · simp [ir80, w0, moveVs, moveV, move1]
  · have hn0 : n ≠ 0 := by omega
    rw [if_neg hn0]
    simp [ir80, w0, w1, p1, hn, p3, p4, moveVs, moveV, move1]
    try omega
/-- The lengths of the first lists together. -/
abbrev lenTB (L : List (List Bool)) (k : Nat) : Nat := (L.take k).flatten.length
theorem lenTB_succ {L : List (List Bool)} {k : Nat} (hk : k < L.length) : lenTB L (k + 1) = lenTB L k + L[k].length := by
  unfold lenTB
  rw [List.take_succ_eq_append_getElem hk, List.flatten_append]
  simp
theorem lenTB_le (L : List (List Bool)) (k : Nat) : lenTB L k ≤ L.flatten.length := by
  unfold lenTB
  have : L.flatten = (L.take k).flatten ++ (L.drop k).flatten := by rw [← List.flatten_append, List.take_append_drop]
  rw [this, List.length_append]
  omega
abbrev llsB (L : List (List Bool)) : V := .imm (L.map fun l => [bools l])
def T44a (L : List (List Bool)) (k : Nat) : Tm := [some (llsB L), none, some (.sl 0 0 0 0 0), some (num (lenTB L k))] ++ List.replicate 5 none ++ [some (llsB L), some (num L.length), some (num k)] ++ List.replicate 24 none
theorem loop44a (L : List (List Bool)) (hL : L.length ≤ 4096) (hN : L.flatten.length ≤ 100000) {st : St} (h0 : At (T44a L 0) [⟨0, .arr 0 []⟩] st) : ∃ r, ev pg (.code (.going 1 L44_0) st) = some r ∧ EndsAs (.exit 0) (T44a L L.length) [⟨0, .arr 0 []⟩] r := by
  refine loop_pic L.length (T44a L) (fun _ => [⟨0, .arr 0 []⟩]) _ ?_ ?_ h0
  · intro k f hf hk
    have hk' : (k : Int) < L.length := by omega
    have wk := wrap_id (n := (k : Int) + 1) (by omega) (by omega)
    have hs := lenTB_succ hk
    have hle := lenTB_le L (k + 1)
    have w2 := wrap_id (n := (lenTB L k : Int) + (L[k].length : Int)) (by omega) (by omega)
    have w3 : ¬ (lenTB L k : Int) + (L[k].length : Int) < 0 := by omega
    unfold T44a
    rw [hs]
    generalize lenTB L k = n at *
    simp [L44_0, hk, hk', wk, w2, w3, hf.ne]
  · intro f hf
    unfold T44a
    generalize lenTB L L.length = n at *
    simp [L44_0, hf.ne]
def T44b (L : List (List Bool)) (k : Nat) (a : Nat × Nat) : Tm := [some (llsB L), none, some (.sl 0 0 0 0 0), none, none, none, some (.sl 1 a.1 a.2 0 (lenTB L k))] ++ List.replicate 18 none ++ [some (llsB L), some (num L.length), some (num k)] ++ List.replicate 8 none
abbrev h44b (X : H) (L : List (List Bool)) (k : Nat) (a : Nat × Nat) : H := ⟨0, .arr 0 []⟩ :: ⟨a.1, .arr a.2 ((L.take k).flatten.map brow)⟩ :: X
theorem loop44b (X : H) (hX : X = [] ∨ X = [⟨0, .arr 0 []⟩]) (L : List (List Bool)) (hL : L.length ≤ 4096) (hN : L.flatten.length ≤ 100000) {st : St} (a0 : Nat × Nat) (g0 : a0.2 = 1 ∨ (a0.2 = 0 ∧ (0 : Nat) = 0)) (h0 : At (T44b L 0 a0) (h44b X L 0 a0) st) : ∃ r, ev pg (.code (.going (2 + X.length) L44_1) st) = some r ∧ ∃ a : Nat × Nat, (a.2 = 1 ∨ (a.2 = 0 ∧ L.length = 0)) ∧ EndsAs (.exit 2) (T44b L L.length a) (h44b X L L.length a) r := by
  refine loop_at L.length (T44b L) (h44b X L) (fun k a => a.2 = 1 ∨ (a.2 = 0 ∧ k = 0)) _ ?_ ?_ a0 g0 h0
  · rintro k ⟨g, m⟩ f hf hk hG
    have hk' : (k : Int) < L.length := by omega
    have wk := wrap_id (n := (k : Int) + 1) (by omega) (by omega)
    have hs := lenTB_succ hk
    have hle := lenTB_le L (k + 1)
    have hfl : (L.take (k + 1)).flatten = (L.take k).flatten ++ L[k] := by rw [List.take_succ_eq_append_getElem hk, List.flatten_append]; simp
    have hb : (lenTB L k + L[k].length) * 1 ≤ 140737488355328 := by omega
    have hb1 : lenTB L k + L[k].length ≤ 140737488355328 := by omega
    have hb2 : (L.take k).flatten.length + L[k].length ≤ 140737488355328 := hb1
    have hmm : m = 1 ∨ m = 0 := hG.elim .inl fun h => .inr h.1
    have hlen : (L.take k).flatten.length = lenTB L k := rfl
    unfold T44b h44b
    rw [hs, hfl]
    generalize lenTB L k = n at *
    generalize (L.take k).flatten = W at *
    rcases hX with rfl | rfl <;> rcases hmm with rfl | rfl <;> simp [L44_1, hk, hk', wk, hb, hb1, hb2, hlen, hf.ne]
  · rintro ⟨g, m⟩ f hf hG
    unfold T44b h44b
    generalize lenTB L L.length = n at *
    generalize (L.take L.length).flatten = W at *
    rcases hX with rfl | rfl <;> simp [L44_1, hf.ne] <;> exact ⟨g, hG.elim (fun h => .inl ⟨rfl, h⟩) fun h => .inr ⟨⟨h.1, List.length_eq_zero_iff.1 h.2⟩, rfl⟩⟩
theorem ev44c (L : List (List Bool)) (hL : L.length ≤ 4096) (hL0 : L ≠ []) (hN : L.flatten.length ≤ 100000) : ev pg (.call (.fn 44 [] []) [llsB L] []) = some { v := .sl 0 0 1 0 L.flatten.length, st := ⟨[], [⟨0, .arr 1 (L.flatten.map brow)⟩]⟩ } := by
  have hla := @loop44a L hL hN
  have hlb := fun X hX => @loop44b X hX L hL hN
  have hg := ev80g L.flatten.length hN
  have hn : lenTB L L.length = L.flatten.length := by unfold lenTB; rw [List.take_length]
  have h0 : lenTB L 0 = 0 := by simp [lenTB]
  have ha0 : ∀ st : St, At ([some (llsB L), none, some (.sl 0 0 0 0 0), some (num 0)] ++ List.replicate 5 none ++ [some (llsB L), some (num L.length), some (num 0)] ++ List.replicate 24 none) [⟨0, .arr 0 []⟩] st → At (T44a L 0) [⟨0, .arr 0 []⟩] st := fun st h => by
    unfold T44a
    rw [h0]
    exact h
  unfold h44b at hlb
  simp only [List.take_length, List.take_zero] at hlb
  unfold T44b at hlb
  simp only [hn, h0] at hlb
  have hle : ∀ f, fill f 0 (T44a L L.length) = fill f 0 ([some (llsB L), none, some (.sl 0 0 0 0 0), some (num L.flatten.length)] ++ List.replicate 5 none ++ [some (llsB L), some (num L.length), some (num L.length)] ++ List.replicate 24 none) := fun f => by
    unfold T44a
    rw [hn]
  have hlen : (L.flatten.map brow).length = L.flatten.length := List.length_map ..
  generalize L.flatten.map brow = W at *
  generalize L.flatten.length = N at *
  rw [ev_call, pg44]
  simp [ir44, ev_loop]
  generalize hr : ev pg (.code (.going _ L44_0) _) = o
  obtain ⟨r, rfl, f, hf, rfl⟩ : ∃ r, o = some r ∧ _ := by rw [← hr]; exact hla (ha0 _ (by simp))
  clear hr
  rw [hle]
  by_cases hz : N = 0
  · rw [if_pos hz] at hg
    simp [hg, hf.ne, ev_loop]
    generalize hr : ev pg (.code (.going _ L44_1) _) = o
    obtain ⟨r, rfl, ⟨g, m⟩, hm, f, hf, rfl⟩ : ∃ r, o = some r ∧ _ := by rw [← hr]; exact hlb [⟨0, .arr 0 []⟩] (.inr rfl) (0, 0) (.inr ⟨rfl, trivial⟩) (by simp [hf.ne])
    obtain rfl : m = 1 := hm.elim id fun h => absurd (List.length_eq_zero_iff.1 h.2) hL0
    simp [moveVs, moveV, move1, hlen]
  · rw [if_neg hz] at hg
    simp [hg, hf.ne, ev_loop]
    generalize hr : ev pg (.code (.going _ L44_1) _) = o
    obtain ⟨r, rfl, ⟨g, m⟩, hm, f, hf, rfl⟩ : ∃ r, o = some r ∧ _ := by rw [← hr]; exact hlb [] (.inl rfl) (0, 1) (.inl rfl) (by simp [hf.ne])
    obtain rfl : m = 1 := hm.elim id fun h => absurd (List.length_eq_zero_iff.1 h.2) hL0
    simp [moveVs, moveV, move1, hlen]

theorem ev81g (n : Nat) (hn2 : n ≤ 100000) : ev pg (.call (.fn 81 [] []) [.nils, num n] [⟨0, .arr 0 []⟩]) = some (if n = 0 then { v := .nils, st := ⟨[], [⟨0, .arr 0 []⟩]⟩ } else { v := .sl 1 0 1 0 0, st := ⟨[], [⟨0, .arr 0 []⟩, ⟨0, .arr 1 []⟩]⟩ }) := by
  have w1 := wrap_id (n := (n : Int)) (by omega) (by omega)
  have p1 : ¬ ((n : Int) < 0) := by omega
  have w0 := wrap_id (n := 0) (by omega) (by omega)
  have p3 : n * 8 ≤ 140737488355328 := by omega
  have p4 : n ≤ 140737488355328 := by omega
  rw [ev_call, pg81]
  rcases Nat.eq_zero_or_pos n with rfl | hn
  · simp [ir81, w0, moveVs, moveV, move1]
  · have hn0 : n ≠ 0 := by omega
    rw [if_neg hn0]
    simp [ir81, w0, w1, p1, hn, p3, p4, moveVs, moveV, move1]
    try omega
/-- The lengths of the first lists together. -/
abbrev lenTI (L : List (List Int)) (k : Nat) : Nat := (L.take k).flatten.length
theorem lenTI_succ {L : List (List Int)} {k : Nat} (hk : k < L.length) : lenTI L (k + 1) = lenTI L k + L[k].length := by
  unfold lenTI
  rw [List.take_succ_eq_append_getElem hk, List.flatten_append]
  simp
theorem lenTI_le (L : List (List Int)) (k : Nat) : lenTI L k ≤ L.flatten.length := by
  unfold lenTI
  have : L.flatten = (L.take k).flatten ++ (L.drop k).flatten := by rw [← List.flatten_append, List.take_append_drop]
  rw [this, List.length_append]
  omega
abbrev llsI (L : List (List Int)) : V := .imm (L.map fun l => [ints l])
def T45a (L : List (List Int)) (k : Nat) : Tm := [some (llsI L), none, some (.sl 0 0 0 0 0), some (num (lenTI L k))] ++ List.replicate 5 none ++ [some (llsI L), some (num L.length), some (num k)] ++ List.replicate 24 none
theorem loop45a (L : List (List Int)) (hL : L.length ≤ 4096) (hN : L.flatten.length ≤ 100000) {st : St} (h0 : At (T45a L 0) [⟨0, .arr 0 []⟩] st) : ∃ r, ev pg (.code (.going 1 L45_0) st) = some r ∧ EndsAs (.exit 0) (T45a L L.length) [⟨0, .arr 0 []⟩] r := by
  refine loop_pic L.length (T45a L) (fun _ => [⟨0, .arr 0 []⟩]) _ ?_ ?_ h0
  · intro k f hf hk
    have hk' : (k : Int) < L.length := by omega
    have wk := wrap_id (n := (k : Int) + 1) (by omega) (by omega)
    have hs := lenTI_succ hk
    have hle := lenTI_le L (k + 1)
    have w2 := wrap_id (n := (lenTI L k : Int) + (L[k].length : Int)) (by omega) (by omega)
    have w3 : ¬ (lenTI L k : Int) + (L[k].length : Int) < 0 := by omega
    unfold T45a
    rw [hs]
    generalize lenTI L k = n at *
    simp [L45_0, hk, hk', wk, w2, w3, hf.ne]
  · intro f hf
    unfold T45a
    generalize lenTI L L.length = n at *
    simp [L45_0, hf.ne]
def T45b (L : List (List Int)) (k : Nat) (a : Nat × Nat) : Tm := [some (llsI L), none, some (.sl 0 0 0 0 0), none, none, none, some (.sl 1 a.1 a.2 0 (lenTI L k))] ++ List.replicate 18 none ++ [some (llsI L), some (num L.length), some (num k)] ++ List.replicate 8 none
abbrev h45b (X : H) (L : List (List Int)) (k : Nat) (a : Nat × Nat) : H := ⟨0, .arr 0 []⟩ :: ⟨a.1, .arr a.2 ((L.take k).flatten.map nrow)⟩ :: X
theorem loop45b (X : H) (hX : X = [] ∨ X = [⟨0, .arr 0 []⟩]) (L : List (List Int)) (hL : L.length ≤ 4096) (hN : L.flatten.length ≤ 100000) {st : St} (a0 : Nat × Nat) (g0 : a0.2 = 1 ∨ (a0.2 = 0 ∧ (0 : Nat) = 0)) (h0 : At (T45b L 0 a0) (h45b X L 0 a0) st) : ∃ r, ev pg (.code (.going (2 + X.length) L45_1) st) = some r ∧ ∃ a : Nat × Nat, (a.2 = 1 ∨ (a.2 = 0 ∧ L.length = 0)) ∧ EndsAs (.exit 2) (T45b L L.length a) (h45b X L L.length a) r := by
  refine loop_at L.length (T45b L) (h45b X L) (fun k a => a.2 = 1 ∨ (a.2 = 0 ∧ k = 0)) _ ?_ ?_ a0 g0 h0
  · rintro k ⟨g, m⟩ f hf hk hG
    have hk' : (k : Int) < L.length := by omega
    have wk := wrap_id (n := (k : Int) + 1) (by omega) (by omega)
    have hs := lenTI_succ hk
    have hle := lenTI_le L (k + 1)
    have hfl : (L.take (k + 1)).flatten = (L.take k).flatten ++ L[k] := by rw [List.take_succ_eq_append_getElem hk, List.flatten_append]; simp
    have hb : (lenTI L k + L[k].length) * 8 ≤ 140737488355328 := by omega
    have hb1 : lenTI L k + L[k].length ≤ 140737488355328 := by omega
    have hb2 : (L.take k).flatten.length + L[k].length ≤ 140737488355328 := hb1
    have hmm : m = 1 ∨ m = 0 := hG.elim .inl fun h => .inr h.1
    have hlen : (L.take k).flatten.length = lenTI L k := rfl
    unfold T45b h45b
    rw [hs, hfl]
    generalize lenTI L k = n at *
    generalize (L.take k).flatten = W at *
    rcases hX with rfl | rfl <;> rcases hmm with rfl | rfl <;> simp [L45_1, hk, hk', wk, hb, hb1, hb2, hlen, hf.ne]
  · rintro ⟨g, m⟩ f hf hG
    unfold T45b h45b
    generalize lenTI L L.length = n at *
    generalize (L.take L.length).flatten = W at *
    rcases hX with rfl | rfl <;> simp [L45_1, hf.ne] <;> exact ⟨g, hG.elim (fun h => .inl ⟨rfl, h⟩) fun h => .inr ⟨⟨h.1, List.length_eq_zero_iff.1 h.2⟩, rfl⟩⟩
theorem ev45c (L : List (List Int)) (hL : L.length ≤ 4096) (hL0 : L ≠ []) (hN : L.flatten.length ≤ 100000) : ev pg (.call (.fn 45 [] []) [llsI L] []) = some { v := .sl 0 0 1 0 L.flatten.length, st := ⟨[], [⟨0, .arr 1 (L.flatten.map nrow)⟩]⟩ } := by
  have hla := @loop45a L hL hN
  have hlb := fun X hX => @loop45b X hX L hL hN
  have hg := ev81g L.flatten.length hN
  have hn : lenTI L L.length = L.flatten.length := by unfold lenTI; rw [List.take_length]
  have h0 : lenTI L 0 = 0 := by simp [lenTI]
  have ha0 : ∀ st : St, At ([some (llsI L), none, some (.sl 0 0 0 0 0), some (num 0)] ++ List.replicate 5 none ++ [some (llsI L), some (num L.length), some (num 0)] ++ List.replicate 24 none) [⟨0, .arr 0 []⟩] st → At (T45a L 0) [⟨0, .arr 0 []⟩] st := fun st h => by
    unfold T45a
    rw [h0]
    exact h
  unfold h45b at hlb
  simp only [List.take_length, List.take_zero] at hlb
  unfold T45b at hlb
  simp only [hn, h0] at hlb
  have hle : ∀ f, fill f 0 (T45a L L.length) = fill f 0 ([some (llsI L), none, some (.sl 0 0 0 0 0), some (num L.flatten.length)] ++ List.replicate 5 none ++ [some (llsI L), some (num L.length), some (num L.length)] ++ List.replicate 24 none) := fun f => by
    unfold T45a
    rw [hn]
  have hlen : (L.flatten.map nrow).length = L.flatten.length := List.length_map ..
  generalize L.flatten.map nrow = W at *
  generalize L.flatten.length = N at *
  rw [ev_call, pg45]
  simp [ir45, ev_loop]
  generalize hr : ev pg (.code (.going _ L45_0) _) = o
  obtain ⟨r, rfl, f, hf, rfl⟩ : ∃ r, o = some r ∧ _ := by rw [← hr]; exact hla (ha0 _ (by simp))
  clear hr
  rw [hle]
  by_cases hz : N = 0
  · rw [if_pos hz] at hg
    simp [hg, hf.ne, ev_loop]
    generalize hr : ev pg (.code (.going _ L45_1) _) = o
    obtain ⟨r, rfl, ⟨g, m⟩, hm, f, hf, rfl⟩ : ∃ r, o = some r ∧ _ := by rw [← hr]; exact hlb [⟨0, .arr 0 []⟩] (.inr rfl) (0, 0) (.inr ⟨rfl, trivial⟩) (by simp [hf.ne])
    obtain rfl : m = 1 := hm.elim id fun h => absurd (List.length_eq_zero_iff.1 h.2) hL0
    simp [moveVs, moveV, move1, hlen]
  · rw [if_neg hz] at hg
    simp [hg, hf.ne, ev_loop]
    generalize hr : ev pg (.code (.going _ L45_1) _) = o
    obtain ⟨r, rfl, ⟨g, m⟩, hm, f, hf, rfl⟩ : ∃ r, o = some r ∧ _ := by rw [← hr]; exact hlb [] (.inl rfl) (0, 1) (.inl rfl) (by simp [hf.ne])
    obtain rfl : m = 1 := hm.elim id fun h => absurd (List.length_eq_zero_iff.1 h.2) hL0
    simp [moveVs, moveV, move1, hlen]

end Go.Proofs.YtopjiafdimoeiaaGreat
