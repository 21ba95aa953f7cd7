/- Places in the blocks of a beginning, in plain words. -/
import Derived.Test.YtopjiafdimoeiaaNo1
namespace Go.Proofs.Ytopjiafdimoeiaa
open Go Go.Am Go.Proofs
set_option maxRecDepth 100000
theorem eats_prefix : ∀ {a b l left : List Sk}, eats l (a ++ b) = some left → ∃ l', eats l a = some l' ∧ eats l' b = some left
  | [], b, l, left, h => ⟨l, rfl, h⟩
  | x :: a, b, l, left, h => by
    simp only [List.cons_append, eats] at h
    split at h
    · rename_i hx
      obtain ⟨l', h1, h2⟩ := eats_prefix h
      exact ⟨l', by simp only [eats]; rw [if_pos hx]; exact h1, h2⟩
    · cases h
theorem isFull_take {s : Sq} : ∀ {full : List (List Sk)} {m : Nat} (b : Nat), isFull s m full → isFull s m (full.take b)
  | [], m, b, _ => by simp [isFull]
  | d :: full, m, 0, _ => trivial
  | d :: full, m, b + 1, h => ⟨h.1, isFull_take b h.2⟩
theorem isFull_at {s : Sq} : ∀ {full : List (List Sk)} {m b : Nat} (hb : b < full.length), isFull s m full → eats (skOf s ((m + b) % s.steps.length)) full[b] = some []
  | [], m, b, hb, _ => by simp at hb
  | d :: full, m, 0, hb, h => h.1
  | d :: full, m, b + 1, hb, h => by
    have := isFull_at (b := b) (by simpa using hb) h.2
    rw [show m + (b + 1) = m + 1 + b by omega]
    exact this
theorem flat_at {α : Type} {L : List (List α)} {b : Nat} (hb : b < L.length) : L.flatten = (L.take b).flatten ++ (L[b] ++ (L.drop (b + 1)).flatten) := by
  conv => lhs; rw [← List.take_append_drop b L]
  rw [List.flatten_append, List.drop_eq_getElem_cons hb, List.flatten_cons]
/-- The blocks of what is walked. -/
abbrev blocks (full : List (List Sk)) (done : List Sk) : List (List Sk) := full ++ [done]
theorem blocks_flat (full : List (List Sk)) (done : List Sk) : (blocks full done).flatten = full.flatten ++ done := by simp [blocks]
theorem isWalk.blk {s : Sq} {w : List Sk} {k : Nat} {full : List (List Sk)} {done left : List Sk} (h : isWalk s w k full done left) {b : Nat} (hb : b < (blocks full done).length) : ∃ e, eats (skOf s (b % s.steps.length)) (blocks full done)[b] = some e ∧ (b < full.length → e = []) ∧ (b = full.length → e ≠ []) := by
  by_cases hbf : b < full.length
  · refine ⟨[], ?_, fun _ => rfl, fun h => by omega⟩
    have := isFull_at hbf h.whole
    rw [Nat.zero_add] at this
    rw [List.getElem_append_left hbf]
    exact this
  · have hbe : b = full.length := by
      simp only [blocks, List.length_append, List.length_singleton] at hb
      omega
    subst hbe
    refine ⟨left, ?_, fun h => absurd h hbf, fun _ => h.rest⟩
    have e : (blocks full done)[full.length] = done := by simp [blocks]
    rw [e]
    exact h.part
theorem isWalk.good {s : Sq} (hs : okSq s) {w : List Sk} {k : Nat} {full : List (List Sk)} {done left : List Sk} (h : isWalk s w k full done left) : ∀ l ∈ blocks full done, Go.Proofs.Ytopjiafdimoeiaa.good l := by
  intro l hl
  obtain ⟨b, hb, rfl⟩ := List.getElem_of_mem hl
  obtain ⟨e, he, _⟩ := h.blk hb
  have hm := hs.mod b
  have hsub := (eats_sub he).2
  have hnd := hs.nodup hm
  have hlen := (eats_nodup he hnd).2
  have h6 := hs.six hm
  refine ⟨?_, fun y hy => hs.rg hm (hsub y hy), by omega⟩
  have hd : (blocks full done)[b].Nodup := eats_nodupd he hnd
  have ha := asc_diff (hs.asc hm)
  refine List.Pairwise.imp_of_mem (fun {x y} hx hy hne e => hne ?_) hd
  exact diff_inj ha (hsub x hx) (hsub y hy) e
where
  eats_nodupd : ∀ {d l left : List Sk}, eats l d = some left → l.Nodup → d.Nodup
  | [], l, left, _, _ => List.Pairwise.nil
  | x :: d, l, left, h, hn => by
    simp only [eats] at h
    split at h
    · rename_i hx
      refine List.Pairwise.cons (fun y hy e => ?_) (eats_nodupd h (minus_nodup hn))
      subst e
      exact (mem_minus.1 ((eats_sub h).2 x hy)).2 rfl
    · cases h
  diff_inj {l : List Sk} (hd : diff l) {x y : Sk} (hx : x ∈ l) (hy : y ∈ l) (e : x.act = y.act) : x = y := by
    obtain ⟨i, hi⟩ := List.mem_iff_getElem?.1 hx
    obtain ⟨j, hj⟩ := List.mem_iff_getElem?.1 hy
    obtain ⟨hil, hie⟩ := List.getElem?_eq_some_iff.1 hi
    obtain ⟨hjl, hje⟩ := List.getElem?_eq_some_iff.1 hj
    have hp := List.pairwise_iff_getElem.1 hd
    rcases Nat.lt_trichotomy i j with hlt | he | hlt
    · exact absurd (by rw [hie, hje]; exact e) (hp i j hil hjl hlt)
    · subst he; rw [hi] at hj; exact Option.some.inj hj
    · exact absurd (by rw [hie, hje]; exact e.symm) (hp j i hjl hil hlt)
abbrev startB (L : List (List Sk)) (b : Nat) : Nat := (L.take b).flatten.length
theorem startB_succ {L : List (List Sk)} {b : Nat} (hb : b < L.length) : startB L (b + 1) = startB L b + L[b].length := by
  unfold startB
  rw [List.take_succ_eq_append_getElem hb, List.flatten_append, List.length_append]
  simp
theorem place_at {s : Sq} (hs : okSq s) {w : List Sk} {k : Nat} {full : List (List Sk)} {done left : List Sk} (h : isWalk s w k full done left) {b o : Nat} (hb : b < (blocks full done).length) (ho : o ≤ (blocks full done)[b].length) (hlt : b < full.length → o < (blocks full done)[b].length) :
    startB (blocks full done) b + o ≤ k ∧ ∃ l, walkN s w (startB (blocks full done) b + o) = some (b / s.steps.length, b % s.steps.length, l) := by
  have hflat : (blocks full done).flatten = w.take k := by rw [blocks_flat]; exact h.flat
  have hfa := flat_at hb
  have hlen : (w.take k).length = k := by rw [List.length_take]; have := h.le; omega
  have hk : startB (blocks full done) b + o ≤ k := by
    have h1 := congrArg List.length hfa
    rw [hflat, hlen, List.length_append, List.length_append] at h1
    unfold startB
    omega
  refine ⟨hk, ?_⟩
  have htake : w.take (startB (blocks full done) b + o) = (full.take b).flatten ++ (blocks full done)[b].take o := by
    have e1 : w.take (startB (blocks full done) b + o) = (w.take k).take (startB (blocks full done) b + o) := by rw [List.take_take, Nat.min_eq_left hk]
    have hbl : b ≤ full.length := by
      simp only [blocks, List.length_append, List.length_singleton] at hb
      omega
    have e2 : (blocks full done).take b = full.take b := List.take_append_of_le_length hbl
    rw [e1, ← hflat, hfa]
    unfold startB
    rw [e2, List.take_length_add_append, List.take_append_of_le_length ho]
  obtain ⟨e, he, he1, he2⟩ := h.blk hb
  rw [← List.take_append_drop o (blocks full done)[b]] at he
  obtain ⟨l', h1, h2⟩ := eats_prefix he
  have hne : l' ≠ [] := by
    intro e0
    subst e0
    obtain ⟨q1, q2⟩ := eats_nil h2
    have hol : (blocks full done)[b].length ≤ o := List.drop_eq_nil_iff.1 q1
    by_cases hbf : b < full.length
    · have := hlt hbf; omega
    · have hbe : b = full.length := by
        simp only [blocks, List.length_append, List.length_singleton] at hb
        omega
      exact he2 hbe q2
  refine ⟨l', ?_⟩
  have hm := hs.mod b
  have hw1 := walk_flat hs (full.take b) 0 (isFull_take b h.whole)
  rw [Nat.zero_add, place0] at hw1
  have hbl : (full.take b).length = b := by
    simp only [blocks, List.length_append, List.length_singleton] at hb
    rw [List.length_take]
    omega
  rw [hbl] at hw1
  unfold walkN
  rw [htake, walkP_append, hw1]
  exact walk_part (hs.nodup hm) h1 hne
theorem blk_ne {s : Sq} (hs : okSq s) {w : List Sk} {k : Nat} {full : List (List Sk)} {done left : List Sk} (h : isWalk s w k full done left) {b : Nat} (hb' : b < (blocks full done).length) (hb : b < full.length) : 0 < (blocks full done)[b].length := by
  obtain ⟨e, he, he1, _⟩ := h.blk hb'
  have hm := hs.mod b
  have h1 := (eats_nodup he (hs.nodup hm)).2
  have h2 : (skOf s (b % s.steps.length)).length ≠ 0 := fun e => hs.ne hm (List.length_eq_zero_iff.1 e)
  rw [he1 hb] at h1
  simp only [List.length_nil] at h1
  omega
/-- The next place of a stroke that is put in: its block, and how many of it are before. -/
theorem next_in {s : Sq} (hs : okSq s) {w : List Sk} {full : List (List Sk)} {done left : List Sk} (h : isWalk s w w.length full done left) {b o i : Nat} (hb : b < (blocks full done).length) (ho : o ≤ (blocks full done)[b].length) (hi : i = startB (blocks full done) b + o) (hiw : i < w.length) :
    ∃ b' o', ∃ hb' : b' < (blocks full done).length, o' < (blocks full done)[b'].length ∧ i = startB (blocks full done) b' + o' ∧ normW ((blocks full done).take b) ++ srt ((blocks full done)[b].take o) = normW ((blocks full done).take b') ++ srt ((blocks full done)[b'].take o') ∧ w[i]? = (blocks full done)[b'][o']? := by
  have hflat : (blocks full done).flatten = w := by rw [blocks_flat, h.flat, List.take_length]
  have hget : ∀ (b' o' : Nat) (hb' : b' < (blocks full done).length), o' < (blocks full done)[b'].length → i = startB (blocks full done) b' + o' → w[i]? = (blocks full done)[b'][o']? := by
    intro b' o' hb' ho' hi'
    have hfa := flat_at hb'
    rw [hflat] at hfa
    conv => lhs; rw [hfa]
    rw [hi', List.getElem?_append_right (by unfold startB; omega)]
    rw [show startB (blocks full done) b' + o' - ((blocks full done).take b').flatten.length = o' by unfold startB; omega]
    rw [List.getElem?_append_left ho']
  by_cases hol : o < (blocks full done)[b].length
  · exact ⟨b, o, hb, hol, hi, rfl, hget b o hb hol hi⟩
  · have hoe : o = (blocks full done)[b].length := by omega
    have hst := startB_succ hb
    have hb1 : b + 1 < (blocks full done).length := by
      have h1 := congrArg List.length (flat_at hb)
      rw [hflat, List.length_append, List.length_append] at h1
      by_cases hlt : b + 1 < (blocks full done).length
      · exact hlt
      · rw [List.drop_eq_nil_of_le (by omega), List.flatten_nil, List.length_nil] at h1
        unfold startB at hi
        omega
    have hpos : 0 < (blocks full done)[b + 1].length := by
      by_cases hbf : b + 1 < full.length
      · exact blk_ne hs h hb1 hbf
      · have hbe : b + 1 = full.length := by
          simp only [blocks, List.length_append, List.length_singleton] at hb1
          omega
        have h1 := congrArg List.length (flat_at hb1)
        rw [hflat, List.length_append, List.length_append] at h1
        have h2 : (blocks full done).drop (b + 1 + 1) = [] := List.drop_eq_nil_of_le (by simp only [blocks, List.length_append, List.length_singleton]; omega)
        rw [h2] at h1
        have h3 : startB (blocks full done) (b + 1) = ((blocks full done).take (b + 1)).flatten.length := rfl
        simp only [List.flatten_nil, List.length_nil] at h1
        omega
    refine ⟨b + 1, 0, hb1, hpos, by omega, ?_, hget (b + 1) 0 hb1 hpos (by omega)⟩
    rw [normW_take hb, hoe, List.take_length, List.take_zero]
    simp [srt]
end Go.Proofs.Ytopjiafdimoeiaa
