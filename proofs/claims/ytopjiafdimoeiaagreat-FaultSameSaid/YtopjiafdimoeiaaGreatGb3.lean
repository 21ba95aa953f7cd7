/- The law of lines that are stuck where they are holds of Am. -/
import Derived.Test.YtopjiafdimoeiaaGreatGb2
namespace Go.Proofs.YtopjiafdimoeiaaGreat
open Go Go.Am Go.Proofs
set_option maxRecDepth 100000
def T21 (a b : List Bool) (k : Nat) : Tm := [some (bools a), some (bools b)] ++ List.replicate 10 none ++ [some (num a.length), some (num k)] ++ List.replicate 12 none
def T21r : Tm := [none, none, none, none, some (.bool false)] ++ List.replicate 21 none
theorem lp21 (a b : List Bool) (hab : b.length = a.length) (ha : a.length ≤ 4096) {st : St} (h0 : At (T21 a b 0) [] st) : ∃ r, ev pg (.code (.going 0 L21_0) st) = some r ∧ Finds a.length (fun k => a[k]? != b[k]?) (fun _ => EndsAs .ret T21r []) (EndsAs (.exit 0) (List.replicate 26 none) []) r := by
  refine loop_first _ _ (T21 a b) [] _ _ ?_ ?_ ?_ h0
  · intro k f hf hk hp
    have hk' : (k : Int) < a.length := by omega
    have hkb : k < b.length := by omega
    have wk := wrap_id (n := (k : Int) + 1) (by omega) (by omega)
    have hb : a[k] = b[k] := by simpa [hk, hkb] using hp
    simp [T21, L21_0, hk, hk', hkb, hb, wk, hf.ne]
  · intro k f hf hk hp
    have hk' : (k : Int) < a.length := by omega
    have hkb : k < b.length := by omega
    have hb : a[k] ≠ b[k] := by simpa [hk, hkb] using hp
    have hb' : (a[k] == b[k]) = false := by simpa using hb
    simp [T21, T21r, L21_0, hk, hk', hkb, hb', hf.ne]
  · intro f hf
    simp [T21, L21_0, hf.ne]
theorem ev21 (a b : List Bool) (ha : a.length ≤ 4096) : ev pg (.call (.fn 21 [] []) [bools a, bools b] []) = some { v := .bool (decide (a = b)), st := ⟨[], []⟩ } := by
  rw [ev_call, pg21]
  by_cases hab : b.length = a.length
  · have hloop := @lp21 a b hab ha
    have hab' : (b.length : Int) = a.length := by omega
    simp [ir21, ev_loop, hab']
    generalize hr : ev pg (.code (.going _ L21_0) _) = o
    obtain ⟨r, rfl, hQ⟩ : ∃ r, o = some r ∧ _ := by rw [← hr]; exact hloop (by simp [T21])
    rcases hQ with ⟨k, hk, hp, -, f, hf, rfl⟩ | ⟨hp, f, hf, rfl⟩
    · have : a ≠ b := by rintro rfl; simp at hp
      simp [T21r, this]
    · have : a = b := by
        refine List.ext_getElem hab.symm fun k h1 h2 => ?_
        have := hp k h1
        simpa [h1, h2] using this
      simp [this]
  · have hne : ((a.length : Int) != (b.length : Int)) = true := by rw [bne_iff_ne]; omega
    have : a ≠ b := fun e => hab (by rw [e])
    simp [ir21, hne, this]
theorem ev17 (c : Ct) (k i : Int) : ev pg (.call (.fn 17 [] []) [c.v, fv k i] []) = some { v := .bool (c.few && decide (fltE c k i = 0)), st := ⟨[], []⟩ } := by
  have h13 := ev6 c
  rw [ev_call, pg17]
  by_cases hfew : c.few = true
  · have h20 := ev31 c (few_small hfew) k i
    rw [hfew] at h13 ⊢
    generalize fltE c k i = e at *
    by_cases he : e = 0
    · subst he
      simp [ir17, h13, h20]
    · have hb : (e == 0) = false := by simpa using he
      simp [ir17, h13, h20, hb, he]
  · have hb : c.few = false := by simpa using hfew
    rw [hb] at h13 ⊢
    simp [ir17, h13]
theorem flt_both {c : Ct} {i : Int} (h : fltE c 3 i = 0) : fltE c 2 i = 0 := by
  unfold fltE at h ⊢
  split at h
  · rename_i hc
    rw [if_pos hc]
    unfold rightE at h ⊢
    simpa using h
  · rename_i hc
    exact absurd h hc
theorem flt_line {c : Ct} {i : Int} (h : fltE c 3 i = 0) : 0 ≤ i ∧ i < countN c c.act.toNat := by
  unfold fltE at h
  split at h
  · unfold rightE at h
    rw [if_neg (show ¬ ((3 : Int) < 0 ∨ 6 ≤ (3 : Int)) by omega), if_pos (show (3 : Int) = 2 ∨ (3 : Int) = 3 from .inr rfl)] at h
    by_cases h2 : i < 0 ∨ (countN c c.act.toNat : Int) ≤ i
    · rw [if_pos h2] at h; cases h
    · omega
  · rename_i hc
    exact absurd h hc
theorem ev5 (c : Ct) (line : Int) (s : Ste) : ∃ r, ev pg (.call (.fn 5 [] []) [c.v, num line, s.v] []) = some r ∧ r.v = .bool true := by
  refine ⟨{ v := .bool true, st := ⟨[], []⟩ }, ?_, rfl⟩
  have h13 := ev13 c s
  have h7 := ev7
  have h17 := ev17 c 3 line
  rw [ev_call, pg5]
  by_cases hfew : (c.few && s.few) = true
  · rw [hfew] at h13
    simp only [Bool.and_eq_true] at hfew
    rw [hfew.1] at h17
    have hs := few_small hfew.1
    have hss := few_smallS hfew.2
    by_cases hflt : fltE c 3 line = 0
    · rw [hflt] at h17
      simp at h17
      have h18 : ev pg (.call (.fn 18 [] []) [c.v, s.v] []) = some { v := num (stE c s), st := ⟨[], []⟩ } := ev18 c s hs hss
      by_cases hst : stE c s = 0
      · rw [hst] at h18
        obtain ⟨hc, hS⟩ := stE_zero hst
        obtain ⟨hl0, hl1⟩ := flt_line hflt
        obtain ⟨n, rfl⟩ : ∃ n : Nat, line = n := ⟨line.toNat, by omega⟩
        have hg := gated_right hst
        have hgs : (gated c s).small := ⟨hss.e, hss.w, hss.i, by rw [gated_len]; exact hss.v, hss.t⟩
        have hgf : (gated c s).few = true := by
          unfold Ste.few at hfew ⊢
          rw [gated_len]
          exact hfew.2
        have h19 := ev19 c hs s hss
        rw [hst] at h19
        have hgd : gatD c s = gated c s := by unfold gatD; rw [if_pos hst]
        rw [hgd] at h19
        have h20 := ev20 c hs (gated c s) hgs n (by omega) hg
        have hnl : n < (linesV (gated c s)).length := by
          rw [gated_lines, gatesL, gatesTo_len, shp_lines hS]; omega
        have hget : (linesV (gated c s))[n]? = some ((linesV (gated c s))[n]) := List.getElem?_eq_getElem hnl
        generalize hB : (linesV (gated c s))[n] = B at hget
        rw [hget] at h20
        simp only [Option.getD_some] at h20
        -- the kind of the fault
        obtain ⟨k, hk, hkB⟩ : ∃ k : Int, (k = 2 ∨ k = 3) ∧ (k == 2) = B := by
          cases B
          · exact ⟨3, .inr rfl, rfl⟩
          · exact ⟨2, .inl rfl, rfl⟩
        have hflk : fltE c k n = 0 := by
          rcases hk with rfl | rfl
          · exact flt_both hflt
          · exact hflt
        have h8 := ev8 c hs k n
        have h14 := ev14 c hs (gated c s) hgs k n
        have hcar : carE c k n (gated c s) = injE c k n := by unfold carE; rw [if_pos hflk, if_pos hg]
        rw [hcar] at h14
        have hinj : injE c k n = if (faultyF c k n).d.check = 0 then 0 else 12 := by unfold injE; rw [if_pos hflk]
        have hkb : (B = true ∧ k = 2) ∨ (B = false ∧ k = 3) := by
          rcases hk with rfl | rfl
          · exact .inl ⟨hkB.symm, rfl⟩
          · exact .inr ⟨hkB.symm, rfl⟩
        by_cases hd : (faultyF c k n).d.check = 0
        · rw [if_pos hd] at hinj
          have hD : injD c k n = (faultyF c k n).d := by unfold injD; rw [if_pos hinj]
          have hX : carD c k n (gated c s) = carS c k n (gated c s) := by unfold carD; rw [hcar, if_pos hinj]
          rw [hinj, hD] at h8
          rw [hinj, hX] at h14
          have hdr := carried_right hg hd
          have hds := faulty_small hs hc k n
          have hxs : (carS c k n (gated c s)).small := by rw [← hX]; exact carD_small hgf k n
          have h19b := ev19 _ hds _ hxs
          rw [hdr] at h19b
          have hgd2 : gatD (faultyF c k n).d (carS c k n (gated c s)) = gated (faultyF c k n).d (carS c k n (gated c s)) := by unfold gatD; rw [if_pos hdr]
          rw [hgd2] at h19b
          have hsame := stuck_same hs hst hd hk (by rw [hget, hkB])
          have hlen2 : (gated c s).values.length ≤ (gated (faultyF c k n).d (carS c k n (gated c s))).values.length := by
            rw [gated_len (c := (faultyF c k n).d)]
            unfold carS
            simp
          have h21 := ev21 (gated c s).values (gated c s).values hgs.v
          simp at h21
          generalize gated (faultyF c k n).d (carS c k n (gated c s)) = Y at *
          generalize carS c k n (gated c s) = X at *
          generalize (faultyF c k n).d = D at *
          generalize gated c s = G at *
          have hmt : List.take G.values.length (Y.values.map brow) = G.values.map brow := by rw [← List.map_take, hsame]
          have hle2 : (G.values.length : Int) ≤ Y.values.length := by omega
          rcases hkb with ⟨rfl, rfl⟩ | ⟨rfl, rfl⟩
          · simp [ir5, h13, h17, h18, h19, h20, h8, h14, h19b, h7, hlen2, hle2, hmt, h21]
          · simp [ir5, h13, h17, h18, h19, h20, h8, h14, h19b, h7, hlen2, hle2, hmt, h21]
        · rw [if_neg hd] at hinj
          rw [hinj] at h8 h14
          generalize injD c k n = D at *
          generalize carD c k n (gated c s) = X at *
          generalize gated c s = G at *
          rcases hkb with ⟨rfl, rfl⟩ | ⟨rfl, rfl⟩
          · simp [ir5, h13, h17, h18, h19, h20, h8, h14, h7]
          · simp [ir5, h13, h17, h18, h19, h20, h8, h14, h7]
      · generalize stE c s = e at *
        simp [ir5, h13, h17, h18, h7, hst]
    · rw [decide_eq_false hflt] at h17
      simp at h17
      simp [ir5, h13, h17, h7]
  · have hb : (c.few && s.few) = false := by simpa using hfew
    rw [hb] at h13
    simp [ir5, h13, h7]
end Go.Proofs.YtopjiafdimoeiaaGreat
