/- The walk of the program: steps again and again. -/
import Derived.Test.YtopjiafdimoeiaaWp3
namespace Go.Proofs.Ytopjiafdimoeiaa
open Go Go.Am Go.Proofs
set_option maxRecDepth 100000
/-- The heap at the end of the walk. -/
def atEnd (s0 : Sq) (w : List Sk) (k : Nat) (full : List (List Sk)) (done left : List Sk) (p : Option X) (h : H) : Prop := ∃ gs g E gd md t, rowsE E left ∧ h = hF s0 w k gs (full ++ [done]) L100_0 L100_2 p t g E left.length ⟨gd, .frz md (done.map Sk.row)⟩
theorem ev_yield (s0 : Sq) (w : List Sk) (hw : w.length < 2 ^ 40) (k gs ms : Nat) (hk : k ≤ w.length) (full : List (List Sk)) (hf : full.length < 2 ^ 41) (hms : ms = 1 ∨ ms = 0) (t : Stp) (hnd : t.sk.Nodup) (h6 : t.sk.length ≤ 6) : ∃ done left, Eat w k t.sk done left ∧ (∀ y, w[k + done.length]? = some y → ¬ y ∈ left) ∧
    ((left = [] ∧ ev pg (.call (.yld 11) [words t.sk] (hB s0 w k gs ms full L100_0 L100_2 none [⟨0, .arr 0 []⟩, ⟨0, .box t.row⟩])) = some { v := .bool true, st := ⟨[], hB s0 w (k + done.length) (gs + 1) 1 (full ++ [done]) L100_0 L100_2 none [⟨0, .arr 0 []⟩, ⟨0, .box t.row⟩]⟩ }) ∨
     (left ≠ [] ∧ ∃ h', atEnd s0 w (k + done.length) full done left (some .ret) h' ∧ ev pg (.call (.yld 11) [words t.sk] (hB s0 w k gs ms full L100_0 L100_2 none [⟨0, .arr 0 []⟩, ⟨0, .box t.row⟩])) = some { v := .bool false, st := ⟨[], h'⟩ })) := by
  obtain ⟨r, hr, done, left, he, hst, hQ⟩ := body100 s0 w hw k gs ms hk full hf hms L100_0 L100_2 t hnd h6
  have h1 : ev pg (.code L100_0 ⟨setMany (sl100 s0 w) [15] [words t.sk], hB s0 w k gs ms full L100_0 L100_2 none [⟨0, .arr 0 []⟩, ⟨0, .box t.row⟩]⟩) = some { st := ⟨setS (setS (sl100 s0 w) 15 (words t.sk)) 9 (words t.sk), hB s0 w k gs ms full L100_0 L100_2 none [⟨0, .arr 0 []⟩, ⟨0, .box t.row⟩]⟩ } := by
    unfold L100_0
    simp only [ev_reg, exL, exI, wantedI, exO, putS, A.ev, setMany]
    rw [getS_setS (by simp [sl100])]
  refine ⟨done, left, he, hst, ?_⟩
  rcases hQ with ⟨h0, hx, hh⟩ | ⟨h0, hx, g, E, gd, md, hE, hh⟩
  · refine .inl ⟨h0, ?_⟩
    have := ev_yld (P := pg) (l := 11) (args := [words t.sk]) (h := hB s0 w k gs ms full L100_0 L100_2 none [⟨0, .arr 0 []⟩, ⟨0, .box t.row⟩]) rfl rfl h1 hr (g2 := 0) (sl2 := sl100 s0 w) (ps2 := [15]) (as2 := L100_0) (bd2 := L100_2) (p2 := some .normal) (by
      show (cutK 14 r.st.h)[11]? = _
      rw [hh]; rfl)
    rw [this]
    show some ({ v := _, st := ⟨[], (cutK 14 r.st.h).set 11 _⟩ } : R) = _
    rw [hh, hx]
    rfl
  · refine .inr ⟨h0, _, ⟨gs + 1, g, E, gd, md, t, hE, rfl⟩, ?_⟩
    have := ev_yld (P := pg) (l := 11) (args := [words t.sk]) (h := hB s0 w k gs ms full L100_0 L100_2 none [⟨0, .arr 0 []⟩, ⟨0, .box t.row⟩]) rfl rfl h1 hr (g2 := 0) (sl2 := sl100 s0 w) (ps2 := [15]) (as2 := L100_0) (bd2 := L100_2) (p2 := some .normal) (by
      show (cutK 14 r.st.h)[11]? = _
      rw [hh]; rfl)
    rw [this]
    show some ({ v := _, st := ⟨[], (cutK 14 r.st.h).set 11 _⟩ } : R) = _
    rw [hh, hx]
    rfl
/-- Whole steps of the word are behind. -/
structure Whole (s : Sq) (w : List Sk) (k : Nat) (full : List (List Sk)) : Prop where
  le : k ≤ w.length
  flat : full.flatten = w.take k
  full : isFull s 0 full
theorem Whole.few {s : Sq} (hs : okSq s) {w : List Sk} {k : Nat} {full : List (List Sk)} (h : Whole s w k full) : full.length ≤ w.length := by
  have h1 := full_len hs full 0 h.full
  rw [h.flat, List.length_take] at h1
  omega
structure Keep182 (s0 : Sq) (st : List V) : Prop where
  len : st.length = 18
  t0 : getS st 0 = .yld 11
  t1 : getS st 1 = .bptr 10 0
def I182a (s0 : Sq) (w : List Sk) (c i : Nat) (st : St) : Prop := ∃ k full gs ms, st.h = hB s0 w k gs ms full L100_0 L100_2 none [] ∧ Whole s0 w k full ∧ full.length = c * s0.steps.length + i ∧ (ms = 1 ∨ ms = 0) ∧ noNil st.s ∧ Keep182 s0 st.s ∧ getS st.s 6 = .imm (s0.steps.map Stp.row) ∧ getS st.s 7 = num s0.steps.length ∧ getS st.s 8 = num i
def isEnd (s0 : Sq) (w : List Sk) (h : H) : Prop := ∃ k full done left, isWalk s0 w k full done left ∧ atEnd s0 w k full done left (some .ret) h
def Q182a (s0 : Sq) (w : List Sk) (c : Nat) (r : R) : Prop := (r.x = .exit 2 ∧ ∃ k full gs ms, r.st.h = hB s0 w k gs ms full L100_0 L100_2 none [] ∧ Whole s0 w k full ∧ full.length = (c + 1) * s0.steps.length ∧ (ms = 1 ∨ ms = 0) ∧ noNil r.st.s ∧ Keep182 s0 r.st.s) ∨ (r.x = .ret ∧ isEnd s0 w r.st.h)
theorem loop182a (s0 : Sq) (hs : okSq s0) (w : List Sk) (hw : w.length < 2 ^ 40) (c : Nat) (st : St) (h0 : I182a s0 w c 0 st) : ∃ r, ev pg (.code (.going 12 L182_0) st) = some r ∧ Q182a s0 w c r := by
  refine loop_from (I182a s0 w c) s0.steps.length (Q182a s0 w c) h0 ?_ ?_
  · rintro i ⟨s, h⟩ hi ⟨k, full, gs, ms, rfl, hW, hlen, hms, hn, ⟨hl, e0, e1⟩, e6, e7, e8⟩
    simp only at hl e0 e1 e6 e7 e8
    have hn : ∀ j, getS s j ≠ .nils := noNil_get hn
    have hsl := hs.st.2.1
    have hi' : (i : Int) < s0.steps.length := by omega
    have wk := wrap_id (n := (i : Int) + 1) (by omega) (by omega)
    have hm : full.length % s0.steps.length = i := by rw [hlen, Nat.add_comm, Nat.add_mul_mod_self_right, Nat.mod_eq_of_lt hi]
    have hfew := hW.few hs
    obtain ⟨q1, q2⟩ := skOf_at hi
    have hnd := hs.nodup hi
    rw [q2] at hnd
    have h6 := hs.st.2.2 _ (List.getElem_mem hi)
    obtain ⟨done, left, he, hstop, hy⟩ := ev_yield s0 w hw k gs ms hW.le full (by omega) hms s0.steps[i] hnd h6
    rw [getS_expand hl]
    rcases hy with ⟨rfl, hy⟩ | ⟨hne, h', hat, hy⟩
    · have hW2 : Whole s0 w (k + done.length) (full ++ [done]) := ⟨he.le, by rw [List.flatten_append, hW.flat, he.tk]; simp, isFull_snoc hW.full (by rw [Nat.zero_add, hm, q2]; exact he.eat)⟩
      simp at hy
      simp [L182_0, List.range, List.range.loop, e0, e1, e6, e7, e8, hi, hi', q1, wk, hy]
      exact ⟨k + done.length, full ++ [done], gs + 1, 1, by simp, hW2, by rw [List.length_append, List.length_singleton, hlen]; omega, .inl rfl, by simp [noNil, hn], ⟨by simp, by simp, by simp⟩, by simp, by simp, by simp⟩
    · have hE : isEnd s0 w h' := ⟨k + done.length, full, done, left, ⟨he.le, by rw [hW.flat, he.tk], hW.full, by rw [hm, q2]; exact he.eat, hne, hstop⟩, hat⟩
      simp at hy
      simp [L182_0, List.range, List.range.loop, e0, e1, e6, e7, e8, hi, hi', q1, hy]
      exact .inr ⟨rfl, hE⟩
  · rintro ⟨s, h⟩ ⟨k, full, gs, ms, rfl, hW, hlen, hms, hn, ⟨hl, e0, e1⟩, e6, e7, e8⟩
    simp only at hl e0 e1 e6 e7 e8
    have hn : ∀ j, getS s j ≠ .nils := noNil_get hn
    rw [getS_expand hl]
    simp [L182_0, List.range, List.range.loop, e0, e1, e6, e7, e8]
    exact .inl ⟨rfl, k, full, gs, ms, rfl, hW, by rw [hlen, Nat.add_mul, Nat.one_mul], hms, by simp [noNil, hn], ⟨by simp, by simp, by simp⟩⟩
def I182 (s0 : Sq) (w : List Sk) (c : Nat) (st : St) : Prop := ∃ k full gs ms, st.h = hB s0 w k gs ms full L100_0 L100_2 none [] ∧ Whole s0 w k full ∧ full.length = c * s0.steps.length ∧ (ms = 1 ∨ ms = 0) ∧ noNil st.s ∧ Keep182 s0 st.s
theorem loop182 (s0 : Sq) (hs : okSq s0) (w : List Sk) (hw : w.length < 2 ^ 40) (st : St) (h0 : I182 s0 w 0 st) : ∃ r, ev pg (.code (.going 12 L182_1) st) = some r ∧ r.x = .ret ∧ isEnd s0 w r.st.h := by
  refine loop_from (I182 s0 w) (w.length + 1) (fun r => r.x = .ret ∧ isEnd s0 w r.st.h) h0 ?_ ?_
  · rintro c ⟨s, h⟩ hc ⟨k, full, gs, ms, rfl, hW, hlen, hms, hn, ⟨hl, e0, e1⟩⟩
    simp only at hl e0 e1
    have hn : ∀ j, getS s j ≠ .nils := noNil_get hn
    rw [getS_expand hl]
    simp [L182_1, List.range, List.range.loop, e0, e1, ev_loop, hn]
    generalize hr : ev pg (.code (.going 12 L182_0) _) = o
    obtain ⟨r, rfl, hQ⟩ : ∃ r, o = some r ∧ Q182a s0 w c r := by
      rw [← hr]
      exact loop182a s0 hs w hw c _ ⟨k, full, gs, ms, by simp, hW, by simpa using hlen, hms, by simp [noNil, hn], ⟨by simp, by simp, by simp⟩, by simp, by simp, by simp⟩
    rcases hQ with ⟨hx, k', full', gs', ms', hh, hW', hlen', hms', hnn, ⟨gl, g0, g1⟩⟩ | ⟨hx, hE⟩
    · simp [hx, hh]
      refine ⟨k', full', gs', ms', by simp, hW', hlen', hms', noNil_scrub hnn, ⟨?_, ?_, ?_⟩⟩
      all_goals simp [gl, g0, g1]
    · simp [hx, hE]
  · rintro ⟨s, h⟩ ⟨k, full, gs, ms, rfl, hW, hlen, hms, hn, hK⟩
    exfalso
    have h1 := hW.few hs
    have h2 := hs.st.1
    have h3 : (w.length + 1) * 1 ≤ (w.length + 1) * s0.steps.length := Nat.mul_le_mul_left _ h2
    omega
theorem ev182 (s0 : Sq) (hs : okSq s0) (w : List Sk) (hw : w.length < 2 ^ 40) : ∃ h', isEnd s0 w h' ∧ ev pg (.call (.fn 182 [] [.bptr 10 0]) [.yld 11] (hB s0 w 0 0 0 [] L100_0 L100_2 none [])) = some { v := .tup [], st := ⟨[], h'⟩ } := by
  rw [ev_call, pg182]
  simp [ir182, ev_loop]
  generalize hr : ev pg (.code (.going 12 L182_1) _) = o
  obtain ⟨r, rfl, hx, k, full, done, left, hWk, gs, g, E, gd, md, t, hE, hh⟩ : ∃ r, o = some r ∧ r.x = .ret ∧ isEnd s0 w r.st.h := by
    rw [← hr]
    exact loop182 s0 hs w hw _ ⟨0, [], 0, 0, by simp, ⟨Nat.zero_le _, by simp, trivial⟩, by simp, .inr rfl, by simp [noNil], ⟨by simp, by simp, by simp⟩⟩
  refine ⟨_, ⟨k, full, done, left, hWk, gs, g, E, gd, md, t, hE, rfl⟩, ?_⟩
  simp [hx, hh]
theorem ev141 (s0 : Sq) (h : H) : ev pg (.call (.fn 141 [] []) [s0.v] h) = some { v := .fn 182 [] [.bptr h.length 0], st := ⟨[], h ++ [⟨0, .box s0.cells⟩]⟩ } := by
  rw [ev_call, pg141]
  simp [ir141]
theorem ev100 (s0 : Sq) (hs : okSq s0) (w : List Sk) (hw : w.length < 2 ^ 40) : ∃ k full done left, isWalk s0 w k full done left ∧ ev pg (.call (.fn 100 [] []) [s0.v, words w] []) = some { v := .tup [num k, .sl 0 0 1 0 (full ++ [done]).length, .sl 1 0 2 0 left.length], st := ⟨[], [⟨0, .arr 1 (stepsR (full ++ [done]))⟩, ⟨0, .arr 2 (left.map Sk.row)⟩]⟩ } := by
  obtain ⟨h', ⟨k, full, done, left, hWk, gs, g, E, gd, md, t, hE, rfl⟩, h182⟩ := ev182 s0 hs w hw
  refine ⟨k, full, done, left, hWk, ?_⟩
  have h141 := ev141 s0
  have hle := hE.len
  have htk : (if left.length = E.length then E else List.take left.length E) = left.map Sk.row := by
    split
    · rename_i hh
      rw [← hE.take, hh, List.take_length]
    · exact hE.take
  simp [sl100] at h182
  rw [ev_call, pg100]
  simp [-windowE, ir100, h141, ev_range, h182, moveVs, moveV, move1, hle, htk]
end Go.Proofs.Ytopjiafdimoeiaa
