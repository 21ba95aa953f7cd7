/- Sequences checked by the program. -/
import Derived.Test.YtopjiafdimoeiaaSq2
namespace Go.Proofs.Ytopjiafdimoeiaa
open Go Go.Am Go.Proofs
set_option maxRecDepth 100000
/-! ### is false among the moved ones -/
abbrev h140 (s : Sq) (x m : List Bool) : H := [⟨0, .box s.cells⟩, ⟨0, .box (bcells x)⟩, ⟨0, .box (bcells m)⟩]
def I198 (s : Sq) (x m : List Bool) (n k : Nat) (st : St) : Prop := st.h = h140 s x m ∧ st.s.length = 19 ∧ getS st.s 0 = .bsl 2 0 1 n ∧ getS st.s 1 = .bool false ∧ getS st.s 7 = num n ∧ getS st.s 8 = num k ∧ ∀ j, j < k → m[j]? = some true
def Q198 (s : Sq) (x m : List Bool) (n : Nat) (r : R) : Prop := r.st.h = h140 s x m ∧ r.st.s.length = 19 ∧ ((r.x = .exit 0 ∧ ∀ j, j < n → m[j]? = some true) ∨ (r.x = .ret ∧ ∃ j : Nat, getS r.st.s 4 = num j ∧ j < n ∧ m[j]? = some false))
theorem loop198 (s0 : Sq) (x m : List Bool) (n : Nat) (hn : n ≤ 6) (hm : m.length = 6) (st : St) (h0 : I198 s0 x m n 0 st) : ∃ r, ev pg (.code (.going 3 L198_0) st) = some r ∧ Q198 s0 x m n r := by
  refine loop_from (I198 s0 x m n) n (Q198 s0 x m n) h0 ?_ ?_
  · rintro k ⟨s, h⟩ hk ⟨rfl, hl, e0, e1, e7, e8, he⟩
    simp only at hl e0 e1 e7 e8
    have hk' : (k : Int) < (n : Int) := by omega
    have wk := wrap_id (n := (k : Int) + 1) (by omega) (by omega)
    have hg : m[k]? = some m[k] := List.getElem?_eq_getElem (by omega)
    rw [getS_expand hl]
    by_cases ha : m[k] = true
    · have hnext : ∀ j, j < k + 1 → m[j]? = some true := by
        intro j hj
        by_cases hjk : j = k
        · subst hjk; rw [hg, ha]
        · exact he j (by omega)
      simp [L198_0, I198, Q198, List.range, List.range.loop, e0, e1, e7, e8, hk, hk', hg, ha, wk]
      exact hnext
    · have ha' : m[k] = false := by simpa using ha
      simp [L198_0, I198, Q198, List.range, List.range.loop, e0, e1, e7, e8, hk, hk', hg, ha']
      exact ⟨k, rfl, hk, by rw [hg, ha']⟩
  · rintro ⟨s, h⟩ ⟨rfl, hl, e0, e1, e7, e8, he⟩
    simp only at hl e0 e1 e7 e8
    rw [getS_expand hl]
    simp [L198_0, Q198, List.range, List.range.loop, e7, e8]
    exact he
theorem ev198 (s0 : Sq) (x m : List Bool) (n : Nat) (hn : n ≤ 6) (hm : m.length = 6) : ∃ i : Int, ev pg (.call (.fn 198 [] []) [.bsl 2 0 1 n, .bool false] (h140 s0 x m)) = some { v := num i, st := ⟨[], h140 s0 x m⟩ } ∧ (0 ≤ i ↔ false ∈ m.take n) := by
  rw [ev_call, pg198]
  simp [ir198, ev_loop]
  generalize hr : ev pg (.code (.going 3 L198_0) _) = o
  obtain ⟨r, rfl, hh, hl, hQ⟩ : ∃ r, o = some r ∧ Q198 s0 x m n r := by rw [← hr]; exact loop198 s0 x m n hn hm _ (by simp [I198])
  rcases hQ with ⟨hx0, hE⟩ | ⟨hx0, j, h4, hj, hE⟩
  · have hc : ¬ false ∈ m.take n := by
      intro hh
      obtain ⟨j, hj⟩ := List.mem_iff_getElem?.1 hh
      have hjn : j < n := by
        have := (List.getElem?_eq_some_iff.1 hj).1
        simp at this
        omega
      rw [List.getElem?_take_of_lt hjn, hE j hjn] at hj
      cases hj
    simp [hx0, hh, hl, hc]
  · have hc : false ∈ m.take n := by
      refine List.mem_iff_getElem?.2 ⟨j, ?_⟩
      rw [List.getElem?_take_of_lt hj]
      exact hE
    simp [hx0, hh, h4, hc]
theorem ev181 (s0 : Sq) (x m : List Bool) (n : Nat) (hn : n ≤ 6) (hm : m.length = 6) : ev pg (.call (.fn 181 [] []) [.bsl 2 0 1 n, .bool false] (h140 s0 x m)) = some { v := .bool (decide (false ∈ m.take n)), st := ⟨[], h140 s0 x m⟩ } := by
  obtain ⟨i, hi, hc⟩ := ev198 s0 x m n hn hm
  rw [ev_call, pg181]
  by_cases h : false ∈ m.take n
  · have := hc.2 h
    simp [ir181, hi, h, this]
  · have : ¬ (0 ≤ i) := fun hh => h (hc.1 hh)
    simp [ir181, hi, h, this]
/-! ### the actuators that moved -/
def mov (m : List Bool) (w : List Sk) : List Bool := w.foldl (fun m y => m.set y.act.toNat true) m
theorem mov_take {m : List Bool} {w : List Sk} {k : Nat} (hk : k < w.length) : mov m (w.take (k + 1)) = (mov m (w.take k)).set w[k].act.toNat true := by
  unfold mov
  rw [List.take_succ_eq_append_getElem hk, List.foldl_append]
  rfl
theorem mov_len : ∀ (w : List Sk) (m : List Bool), (mov m w).length = m.length
  | [], _ => rfl
  | y :: w, m => by
    show (mov (m.set y.act.toNat true) w).length = _
    rw [mov_len w]; simp
structure Keep (s : Sq) (k : Nat) (st : List V) : Prop where
  nn : noNil st
  len : st.length = 65
  t1 : getS st 1 = .bptr 0 0
  t3 : getS st 3 = .bptr 1 0
  t4 : getS st 4 = .bptr 2 0
  t30 : getS st 30 = .imm (s.steps.map Stp.row)
  t31 : getS st 31 = num s.steps.length
  t32 : getS st 32 = num k
def I140a (s0 : Sq) (t : Stp) (x m : List Bool) (k j : Nat) (st : St) : Prop := st.h = h140 s0 x (mov m (t.sk.take j)) ++ [⟨0, .arr 0 []⟩, ⟨0, .box t.row⟩] ∧ Keep s0 k st.s ∧ getS st.s 47 = words t.sk ∧ getS st.s 48 = num t.sk.length ∧ getS st.s 49 = num j
def Q140a (s0 : Sq) (t : Stp) (x m : List Bool) (k : Nat) (r : R) : Prop := r.st.h = h140 s0 x (mov m t.sk) ++ [⟨0, .arr 0 []⟩, ⟨0, .box t.row⟩] ∧ Keep s0 k r.st.s ∧ r.x = .exit 3
theorem loop140a (s0 : Sq) (t : Stp) (x m : List Bool) (k : Nat) (hm : m.length = 6) (hp : ∀ y ∈ t.sk, ∃ p : Nat, y.act = p ∧ p < 6) (hw : t.sk.length ≤ 6) (st : St) (h0 : I140a s0 t x m k 0 st) : ∃ r, ev pg (.code (.going 5 L140_0) st) = some r ∧ Q140a s0 t x m k r := by
  refine loop_from (I140a s0 t x m k) t.sk.length (Q140a s0 t x m k) h0 ?_ ?_
  · rintro j ⟨s, h⟩ hj ⟨rfl, ⟨hn, hl, e1, e3, e4, e30, e31, e32⟩, e47, e48, e49⟩
    simp only at hl e1 e3 e4 e30 e31 e32 e47 e48 e49
    have hn : ∀ j, getS s j ≠ .nils := noNil_get hn
    have hj' : (j : Int) < t.sk.length := by omega
    have wj := wrap_id (n := (j : Int) + 1) (by omega) (by omega)
    obtain ⟨p, hpa, hp6⟩ := hp t.sk[j] (List.getElem_mem hj)
    have hb := mov_take (m := m) hj
    rw [hpa, Int.toNat_natCast] at hb
    have hbl := mov_len (t.sk.take j) m
    have hp1 : p + 1 ≤ (mov m (t.sk.take j)).length := by omega
    rw [getS_expand hl]
    simp [L140_0, I140a, Q140a, List.range, List.range.loop, e1, e3, e4, e30, e31, e32, e47, e48, e49, hj, hj', hpa, hp6, wj, hb, hp1, putL_one]
    exact ⟨by simp [noNil, hn], rfl, rfl, rfl, rfl, rfl, rfl, rfl⟩
  · rintro ⟨s, h⟩ ⟨rfl, ⟨hn, hl, e1, e3, e4, e30, e31, e32⟩, e47, e48, e49⟩
    simp only [List.take_length] at hl e1 e3 e4 e30 e31 e32 e47 e48 e49
    have hn : ∀ j, getS s j ≠ .nils := noNil_get hn
    rw [getS_expand hl]
    simp [L140_0, Q140a, List.range, List.range.loop, e1, e3, e4, e30, e31, e32, e48, e49]
    exact ⟨by simp [noNil, hn], rfl, rfl, rfl, rfl, rfl, rfl, rfl⟩
/-! ### all steps -/
def seqGo (n : Int) : List Bool → List Bool → List Stp → Int × List Bool × List Bool
  | x, m, [] => (0, x, m)
  | x, m, t :: r => if fitErr n x t = 0 then seqGo n (beh x t.sk) (mov m t.sk) r else (fitErr n x t, x, m)
theorem seqGo_at {n : Int} {x m : List Bool} {w : List Stp} {k : Nat} (hk : k < w.length) : seqGo n x m (w.drop k) = if fitErr n x w[k] = 0 then seqGo n (beh x w[k].sk) (mov m w[k].sk) (w.drop (k + 1)) else (fitErr n x w[k], x, m) := by
  rw [List.drop_eq_getElem_cons hk]; rfl
abbrev no6 : List Bool := List.replicate 6 false
def seqErr (s : Sq) : Int := if s.act < 1 ∨ 6 < s.act then 2 else if s.steps.length = 0 then 13 else if 64 < s.steps.length then 5 else
  if (seqGo s.act no6 no6 s.steps).1 = 0 then (if (seqGo s.act no6 no6 s.steps).2.1 = no6 then (if false ∈ (seqGo s.act no6 no6 s.steps).2.2.take s.act.toNat then 13 else 0) else 9) else (seqGo s.act no6 no6 s.steps).1
def I140 (s0 : Sq) (k : Nat) (st : St) : Prop := ∃ x m, st.h = h140 s0 x m ∧ x.length = 6 ∧ m.length = 6 ∧ Keep s0 k st.s ∧ seqGo s0.act no6 no6 s0.steps = seqGo s0.act x m (s0.steps.drop k)
def Q140 (s0 : Sq) (r : R) : Prop := r.st.s.length = 65 ∧ ((r.x = .exit 1 ∧ ∃ x m, r.st.h = h140 s0 x m ∧ x.length = 6 ∧ m.length = 6 ∧ getS r.st.s 1 = .bptr 0 0 ∧ getS r.st.s 3 = .bptr 1 0 ∧ getS r.st.s 4 = .bptr 2 0 ∧ seqGo s0.act no6 no6 s0.steps = (0, x, m)) ∨
  (r.x = .ret ∧ getS r.st.s 2 = num (seqGo s0.act no6 no6 s0.steps).1 ∧ (seqGo s0.act no6 no6 s0.steps).1 ≠ 0))
theorem loop140 (s0 : Sq) (hw : s0.steps.length ≤ 64) (st : St) (h0 : I140 s0 0 st) : ∃ r, ev pg (.code (.going 3 L140_1) st) = some r ∧ Q140 s0 r := by
  refine loop_from (I140 s0) s0.steps.length (Q140 s0) h0 ?_ ?_
  · rintro k ⟨s, h⟩ hk ⟨x, m, rfl, hx, hm, ⟨hn, hl, e1, e3, e4, e30, e31, e32⟩, he⟩
    simp only at hl e1 e3 e4 e30 e31 e32
    have hn : ∀ j, getS s j ≠ .nils := noNil_get hn
    have hk' : (k : Int) < s0.steps.length := by omega
    have wk := wrap_id (n := (k : Int) + 1) (by omega) (by omega)
    have hf := ev179 s0 s0.steps[k] x hx
    have ht6 : List.take 6 (bcells x) = bcells x := by rw [List.take_of_length_le]; simp [hx]
    rw [seqGo_at hk] at he
    rw [getS_expand hl]
    by_cases ha : fitErr s0.act x s0.steps[k] = 0
    · rw [if_pos ha] at he
      have hse : stepErr s0.steps[k] = 0 := by
        unfold fitErr at ha
        split at ha
        · assumption
        · contradiction
      obtain ⟨hw6, _, _, hp⟩ := stepErr_ok hse
      have hb := ev180 x s0.steps[k] hx hp hw6
      have hbl := beh_len s0.steps[k].sk x
      have hml := mov_len s0.steps[k].sk m
      obtain ⟨c0, c1, c2, c3, c4, c5, hy⟩ := six (show (beh x s0.steps[k].sk).length = 6 by omega)
      have hpx : putL (bcells x) 0 (bcells [c0, c1, c2, c3, c4, c5]) = bcells [c0, c1, c2, c3, c4, c5] := putL_all _ _ (by simp [hx])
      rw [hy] at hb
      simp only [bcells, List.map_cons, List.map_nil] at hb hpx
      simp [L140_1, List.range, List.range.loop, e1, e3, e4, e30, e31, e32, hk, hk', hf, ha, hb, hx, ht6, hpx, ev_loop, hn]
      generalize hr : ev pg (.code (.going 5 L140_0) _) = o
      obtain ⟨r, rfl, hh, ⟨gn, g0, g1, g3, g4, g30, g31, g32⟩, hxx⟩ : ∃ r, o = some r ∧ Q140a s0 s0.steps[k] (beh x s0.steps[k].sk) m k r := by
        rw [← hr, hy]
        exact loop140a s0 s0.steps[k] [c0, c1, c2, c3, c4, c5] m k hm hp hw6 _ (by simp [I140a, mov]; exact ⟨by simp [noNil, hn], rfl, rfl, rfl, rfl, rfl, rfl, rfl⟩)
      simp [hxx, hh, g0, g32, wk, I140]
      refine ⟨_, _, ⟨rfl, rfl⟩, by rw [hbl, hx], by rw [hml, hm], ⟨noNil_scrub (noNil_set (noNil_set gn (by simp)) (by simp)), ?_, ?_, ?_, ?_, ?_, ?_, ?_⟩, he⟩
      all_goals simp [g0, g1, g3, g4, g30, g31]
    · rw [if_neg ha] at he
      simp [L140_1, I140, Q140, List.range, List.range.loop, e1, e3, e4, e30, e31, e32, hk, hk', hf, ha, he, hx, ht6]
  · rintro ⟨s, h⟩ ⟨x, m, rfl, hx, hm, ⟨hn, hl, e1, e3, e4, e30, e31, e32⟩, he⟩
    simp only [List.drop_length] at hl e1 e3 e4 e30 e31 e32 he
    rw [getS_expand hl]
    simp [L140_1, Q140, List.range, List.range.loop, e1, e3, e4, e30, e31, e32, he, seqGo]
    exact ⟨x, m, ⟨rfl, rfl⟩, hx, hm, rfl, rfl⟩
theorem ev140 (s0 : Sq) : ev pg (.call (.fn 140 [] []) [s0.v] []) = some { v := num (seqErr s0), st := ⟨[], []⟩ } := by
  rw [ev_call, pg140]
  by_cases h1 : s0.act < 1
  · simp [ir140, seqErr, h1]
  · by_cases h2 : 6 < s0.act
    · simp [ir140, seqErr, h1, h2]
    · by_cases h3 : s0.steps.length = 0
      · simp [ir140, seqErr, h1, h2, h3]
      · have h3' : ¬ ((s0.steps.length : Int) = 0) := by omega
        by_cases h4 : 64 < s0.steps.length
        · have h4' : (64 : Int) < (s0.steps.length : Int) := by omega
          simp [ir140, seqErr, h1, h2, h3, h3', h4, h4']
        · have h4' : ¬ ((64 : Int) < (s0.steps.length : Int)) := by omega
          obtain ⟨n, hn⟩ : ∃ n : Nat, s0.act = n := ⟨s0.act.toNat, by omega⟩
          simp [ir140, seqErr, h1, h2, h3, h3', h4, h4', ev_loop]
          generalize hr : ev pg (.code (.going 3 L140_1) _) = o
          obtain ⟨r, rfl, hl, hQ⟩ : ∃ r, o = some r ∧ Q140 s0 r := by
            rw [← hr]
            exact loop140 s0 (by omega) _ ⟨no6, no6, by simp [List.replicate], by simp, by simp, ⟨by simp [noNil], by simp, by simp, by simp, by simp, by simp, by simp, by simp⟩, by simp⟩
          rcases hQ with ⟨hx0, x, m, hh, hx, hm, t1, t3, t4, hE⟩ | ⟨hx0, h2r, hE⟩
          · have he6 := eqL_bools x no6 (by simp [hx])
            rw [hx] at he6
            have hc := ev181 s0 x m n (by omega) hm
            have ht6 : List.take 6 (bcells x) = bcells x := by rw [List.take_of_length_le]; simp [hx]
            simp only [bcells] at ht6
            have hac : n ≤ 6 := by omega
            simp only [List.replicate, bcells, no6, List.map_cons, List.map_nil] at he6
            by_cases hxn : x = no6
            · simp only [no6, List.replicate] at hxn
              subst hxn
              rw [hn] at hE
              by_cases hmm : false ∈ m.take n
              · simp [hmm] at hc
                simp [hx0, hh, hl, t1, t3, t4, hE, hn, hc, hmm, hac]
                rfl
              · simp [hmm] at hc
                simp [hx0, hh, hl, t1, t3, t4, hE, hn, hc, hmm, hac]
                rfl
            · have hxn' := hxn
              simp only [no6, List.replicate] at hxn
              simp [hx0, hh, hl, t1, t3, t4, hE, he6, hxn, hx, ht6]
              exact fun h => absurd h hxn'
          · simp [hx0, h2r, hE]
end Go.Proofs.Ytopjiafdimoeiaa
