/- Strokes gathered and sorted by the program. -/
import Derived.Test.YtopjiafdimoeiaaSo2
namespace Go.Proofs.Ytopjiafdimoeiaa
open Go Go.Am Go.Proofs
set_option maxRecDepth 100000
theorem ev_yld2 {P : Prg} {l : Nat} {args : List V} {h : H} {g : Nat} {sl : List V} {ps : List Nat} {a b : C} (hl : h[l]? = some ⟨g, .loop sl ps a b none⟩) (hn : args.length = ps.length) {s1 : List V} {h1 : H} (e1 : ev P (.code a ⟨setMany sl ps args, h⟩) = some { st := ⟨s1, h1⟩ }) {g1 : Nat} {sl1 : List V} {ps1 : List Nat} {a1 b1 : C} (hl1 : h1[l]? = some ⟨g1, .loop sl1 ps1 a1 b1 none⟩) {r2 : R} (e2 : ev P (.code b ⟨s1, h1.set l ⟨g1, .loop sl1 ps1 a1 b1 (some .normal)⟩⟩) = some r2) {g2 : Nat} {sl2 : List V} {ps2 : List Nat} {as2 bd2 : C} {p2 : Option X} (h3 : (cutK h.length r2.st.h)[l]? = some ⟨g2, .loop sl2 ps2 as2 bd2 p2⟩) : ev P (.call (.yld l) args h) = some { v := .bool (decide (r2.x = .normal)), st := ⟨[], (cutK h.length r2.st.h).set l ⟨g2, .loop sl2 ps2 as2 bd2 (if r2.x = .normal then none else some r2.x)⟩⟩ } := by
  rw [ev_eq]
  simp only [stepQ, hl, hn, if_true, e1, hl1, e2, h3]
  cases r2.x <;> rfl
abbrev sl199 : List V := [.sl 5 0 0 0 0, .fn 184 [] [.bptr 2 0], .bptr 4 0, .undef, .sl 6 0 0 0 0, .undef, .fn 184 [] [.bptr 2 0], .undef, .undef, .undef, .undef, .undef, .undef]
abbrev hC (g m : Nat) (R : List (List V)) (l : List Sk) (gc mc : Nat) (d : List Sk) (p : Option X) (x : H) : H := [⟨0, .arr 0 []⟩, ⟨g, .arr m R⟩, ⟨0, .box [words l]⟩, ⟨gc, .arr mc (d.map Sk.row)⟩, ⟨0, .box [.sl 3 gc mc 0 d.length]⟩, ⟨0, .arr 0 []⟩, ⟨0, .arr 0 []⟩, ⟨0, .loop sl199 [7] L199_0 L199_1 p⟩] ++ x
theorem ev_yield199 (g m : Nat) (R : List (List V)) (l : List Sk) (gc mc : Nat) (d : List Sk) (y : Sk) (hm : mc = 2 ∨ mc = 0) (hd : d.length ≤ 6) : ev pg (.call (.yld 7) [.agg y.row] (hC g m R l gc mc d none [⟨0, .box y.row⟩])) = some { v := .bool true, st := ⟨[], hC g m R l (gc + 1) 2 (d ++ [y]) none [⟨0, .box y.row⟩]⟩ } := by
  have h47 : (d.length + 1) * 16 ≤ 140737488355328 := by omega
  have e1 : ev pg (.code L199_0 ⟨setMany sl199 [7] [.agg y.row], hC g m R l gc mc d none [⟨0, .box y.row⟩]⟩) = some { st := ⟨setS (setS sl199 7 (.agg y.row)) 5 (.bptr 9 0), hC g m R l gc mc d none [⟨0, .box y.row⟩, ⟨0, .box y.row⟩]⟩ } := by
    simp [L199_0]
  have e2 : ev pg (.code L199_1 ⟨setS (setS sl199 7 (.agg y.row)) 5 (.bptr 9 0), (hC g m R l gc mc d none [⟨0, .box y.row⟩, ⟨0, .box y.row⟩]).set 7 ⟨0, .loop sl199 [7] L199_0 L199_1 (some .normal)⟩⟩) = some { st := ⟨[.sl 5 0 0 0 0, .fn 184 [] [.bptr 2 0], .bptr 4 0, .undef, .sl 6 0 0 0 0, .bptr 9 0, .fn 184 [] [.bptr 2 0], .agg y.row, .sl 3 gc mc 0 d.length, .agg y.row, .imm [y.row], .sl 3 (gc + 1) 2 0 (d.length + 1), .undef], hC g m R l (gc + 1) 2 (d ++ [y]) (some .normal) [⟨0, .box y.row⟩, ⟨0, .box y.row⟩]⟩ } := by
    simp [L199_1, hm, h47]
  rw [ev_yld2 rfl rfl e1 rfl e2 (g2 := 0) (sl2 := sl199) (ps2 := [7]) (as2 := L199_0) (bd2 := L199_1) (p2 := some .normal) (by simp)]
  simp
structure Keep184 (l : List Sk) (j : Nat) (st : List V) : Prop where
  nn : noNil st
  len : st.length = 16
  t0 : getS st 0 = .yld 7
  t5 : getS st 5 = words l
  t6 : getS st 6 = num l.length
  t7 : getS st 7 = num j
def I184 (g m : Nat) (R : List (List V)) (l : List Sk) (j : Nat) (st : St) : Prop := ∃ gc mc, st.h = hC g m R l gc mc (l.take j) none [] ∧ (mc = 2 ∨ mc = 0) ∧ (0 < j → mc = 2) ∧ (j = 0 → gc = 0 ∧ mc = 0) ∧ Keep184 l j st.s
def Q184 (g m : Nat) (R : List (List V)) (l : List Sk) (r : Am.R) : Prop := r.x = .exit 0 ∧ ∃ gc mc, r.st.h = hC g m R l gc mc l none [] ∧ ((l ≠ [] ∧ mc = 2) ∨ (l = [] ∧ mc = 0))
theorem loop184 (g m : Nat) (R : List (List V)) (l : List Sk) (hl6 : l.length ≤ 6) (st : St) (h0 : I184 g m R l 0 st) : ∃ r, ev pg (.code (.going 8 L184_0) st) = some r ∧ Q184 g m R l r := by
  refine loop_from (I184 g m R l) l.length (Q184 g m R l) h0 ?_ ?_
  · rintro j ⟨s, h⟩ hj ⟨gc, mc, rfl, hmc, hmj, hm0, ⟨hnn, hl, e0, e5, e6, e7⟩⟩
    simp only at hl e0 e5 e6 e7
    have hn : ∀ j, getS s j ≠ .nils := noNil_get hnn
    have hj' : (j : Int) < l.length := by omega
    have wk := wrap_id (n := (j : Int) + 1) (by omega) (by omega)
    have hy := ev_yield199 g m R l gc mc (l.take j) l[j] hmc (by rw [List.length_take]; omega)
    have ht : l.take (j + 1) = l.take j ++ [l[j]] := List.take_succ_eq_append_getElem hj
    rw [← ht] at hy
    generalize l.take j = d at hy
    simp at hy
    rw [getS_expand hl]
    simp [L184_0, List.range, List.range.loop, e0, e5, e6, e7, hj, hj', wk, hy]
    exact ⟨gc + 1, 2, by simp, .inl rfl, fun _ => rfl, fun h => by omega, ⟨by simp [noNil, hn], rfl, rfl, rfl, rfl, rfl⟩⟩
  · rintro ⟨s, h⟩ ⟨gc, mc, rfl, hmc, hmj, hm0, ⟨hnn, hl, e0, e5, e6, e7⟩⟩
    simp only at hl e0 e5 e6 e7
    rw [getS_expand hl]
    simp [L184_0, Q184, List.range, List.range.loop, e0, e5, e6, e7]
    by_cases hl0 : l = []
    · subst hl0
      exact ⟨gc, mc, ⟨rfl, rfl⟩, .inr ⟨rfl, (hm0 rfl).2⟩⟩
    · exact ⟨gc, mc, ⟨rfl, rfl⟩, .inl ⟨hl0, hmj (List.length_pos_iff.2 hl0)⟩⟩
theorem ev184 (g m : Nat) (R : List (List V)) (l : List Sk) (hl6 : l.length ≤ 6) : ∃ gc mc, ((l ≠ [] ∧ mc = 2) ∨ (l = [] ∧ mc = 0)) ∧ ev pg (.call (.fn 184 [] [.bptr 2 0]) [.yld 7] (hC g m R l 0 0 [] none [])) = some { v := .tup [], st := ⟨[], hC g m R l gc mc l none []⟩ } := by
  rw [ev_call, pg184]
  simp [ir184, ev_loop]
  generalize hr : ev pg (.code (.going 8 L184_0) _) = o
  obtain ⟨r, rfl, hx, gc, mc, hh, hm⟩ : ∃ r, o = some r ∧ Q184 g m R l r := by
    rw [← hr]
    exact loop184 g m R l hl6 _ ⟨0, 0, by simp, .inr rfl, fun h => by omega, fun _ => ⟨rfl, rfl⟩, ⟨by simp [noNil], by simp, by simp, by simp, by simp, by simp⟩⟩
  refine ⟨gc, mc, hm, ?_⟩
  simp [hx, hh]
abbrev hD (g m : Nat) (R : List (List V)) (l : List Sk) : H := [⟨0, .arr 0 []⟩, ⟨g, .arr m R⟩, ⟨0, .box [words l]⟩]
theorem ev199 (g m : Nat) (R : List (List V)) (l : List Sk) (hl6 : l.length ≤ 6) : ∃ mc, ((l ≠ [] ∧ mc = 2) ∨ (l = [] ∧ mc = 0)) ∧ ev pg (.call (.fn 199 [] []) [.nils, .fn 184 [] [.bptr 2 0]] (hD g m R l)) = some { v := .sl 3 0 mc 0 l.length, st := ⟨[], hD g m R l ++ [⟨0, .arr mc (l.map Sk.row)⟩]⟩ } := by
  obtain ⟨gc, mc, hm, h184⟩ := ev184 g m R l hl6
  refine ⟨mc, hm, ?_⟩
  simp at h184
  rw [ev_call, pg199]
  simp [ir199, ev_range, h184, moveVs, moveV, move1]
theorem ev183 (g m : Nat) (R : List (List V)) (l : List Sk) (hl6 : l.length ≤ 6) : ∃ mc, ((l ≠ [] ∧ mc = 2) ∨ (l = [] ∧ mc = 0)) ∧ ev pg (.call (.fn 183 [] []) [.fn 184 [] [.bptr 2 0]] (hD g m R l)) = some { v := .sl 3 0 mc 0 l.length, st := ⟨[], hD g m R l ++ [⟨0, .arr mc (l.map Sk.row)⟩]⟩ } := by
  obtain ⟨mc, hm, h199⟩ := ev199 g m R l hl6
  refine ⟨mc, hm, ?_⟩
  simp at h199
  rw [ev_call, pg183]
  simp [ir183, h199, moveVs, moveV, move1]
theorem ev143 (g m : Nat) (R : List (List V)) (l : List Sk) (hl : good l) : ∃ mc, ev pg (.call (.fn 143 [] []) [.fn 184 [] [.bptr 2 0], .fn 98 [] []] (hD g m R l)) = some { v := .sl 3 0 mc 0 l.length, st := ⟨[], hD g m R l ++ [⟨0, .arr mc ((srt l).map Sk.row)⟩]⟩ } := by
  obtain ⟨mc, hm, h183⟩ := ev183 g m R l hl.six
  refine ⟨mc, ?_⟩
  simp at h183
  have hsl := srt_length l
  rcases hm with ⟨h0, rfl⟩ | ⟨rfl, rfl⟩
  · have h97 := ev97_srt (hD g m R l ++ [⟨0, .arr 2 (l.map Sk.row)⟩]) 3 0 l (by simp [calm]) rfl hl
    simp at h97
    rw [ev_call, pg143]
    simp [ir143, h183, h97, moveVs, moveV, move1, hsl]
  · have h97 := ev97_nil (hD g m R [] ++ [⟨0, .arr 0 []⟩]) 3 0 (by simp [calm])
    simp at h97 h183
    rw [ev_call, pg143]
    simp [ir143, h183, h97, moveVs, moveV, move1, srt]
end Go.Proofs.Ytopjiafdimoeiaa
