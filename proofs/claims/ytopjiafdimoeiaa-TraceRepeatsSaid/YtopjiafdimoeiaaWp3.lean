/- The walk of the program: one step, as what the loop is asked. -/
import Derived.Test.YtopjiafdimoeiaaWp2
namespace Go.Proofs.Ytopjiafdimoeiaa
open Go Go.Am Go.Proofs
set_option maxRecDepth 100000
theorem ev_yld {P : Prg} {l : Nat} {args : List V} {h : H} {g : Nat} {sl : List V} {ps : List Nat} {a b : C} (hl : h[l]? = some ⟨g, .loop sl ps a b none⟩) (hn : args.length = ps.length) {s1 : List V} (h1 : ev P (.code a ⟨setMany sl ps args, h⟩) = some { st := ⟨s1, h⟩ }) {r2 : R} (h2 : ev P (.code b ⟨s1, h.set l ⟨g, .loop sl ps a b (some .normal)⟩⟩) = some r2) {g2 : Nat} {sl2 : List V} {ps2 : List Nat} {as2 bd2 : C} {p2 : Option X} (h3 : (cutK h.length r2.st.h)[l]? = some ⟨g2, .loop sl2 ps2 as2 bd2 p2⟩) : ev P (.call (.yld l) args h) = some { v := .bool (decide (r2.x = .normal)), st := ⟨[], (cutK h.length r2.st.h).set l ⟨g2, .loop sl2 ps2 as2 bd2 (if r2.x = .normal then none else some r2.x)⟩⟩ } := by
  rw [ev_eq]
  simp only [stepQ, hl, hn, if_true, h1, h2, h3]
  cases r2.x <;> rfl
theorem ev_range {P : Prg} (f : A) (ps : List Nat) (a b : C) (st : St) : ev P (.code (.range f ps a b) st) = (match f.ev (adoptS st).s with
    | .fn fid first caps =>
      match ev P (.call (.fn fid first caps) [.yld (adoptS st).h.length] ((adoptS st).h ++ [⟨0, .loop (adoptS st).s ps a b none⟩])) with
      | some r => match r.st.h[(adoptS st).h.length]? with
        | some ⟨g, .loop sl2 ps2 as2 bd2 p⟩ =>
          match p with
          | none => some { st := ⟨(adoptS st).s, cutK (adoptS st).h.length (r.st.h.set (adoptS st).h.length ⟨g, .loop sl2 ps2 as2 bd2 (some .normal)⟩)⟩ }
          | some .normal => none
          | some x => some { x := x, st := ⟨(adoptS st).s, cutK (adoptS st).h.length (r.st.h.set (adoptS st).h.length ⟨g, .loop sl2 ps2 as2 bd2 (some .normal)⟩)⟩ }
        | _ => none
      | none => none
    | _ => none) := by rw [ev_eq]; rfl
/-- Memory when the walk is at its end. -/
abbrev hF (s0 : Sq) (w : List Sk) (k gs : Nat) (steps : List (List Sk)) (a b : C) (p : Option X) (t : Stp) (g : Nat) (E : List (List V)) (n : Nat) (o : Ob) : H := [⟨0, .box s0.cells⟩, ⟨0, .box [words w]⟩, ⟨0, .box [num k]⟩, ⟨0, .arr 0 []⟩, ⟨0, .box [.sl 8 gs 1 0 steps.length]⟩, ⟨0, .arr 0 []⟩, ⟨0, .box [.sl 14 g 2 0 n]⟩, ⟨0, .box [num k]⟩, ⟨gs, .arr 1 (stepsR steps)⟩, ⟨0, .box [.sl 8 gs 1 0 steps.length]⟩, ⟨0, .box s0.cells⟩, ⟨0, .loop (sl100 s0 w) [15] a b p⟩, ⟨0, .arr 0 []⟩, ⟨0, .box t.row⟩, ⟨g, .arr 2 E⟩, o]
def Q100b (s0 : Sq) (w : List Sk) (k0 gs : Nat) (steps : List (List Sk)) (a b : C) (t : Stp) (r : R) : Prop := ∃ done left, Eat w k0 t.sk done left ∧ (∀ y, w[k0 + done.length]? = some y → ¬ y ∈ left) ∧
  ((left = [] ∧ r.x = .normal ∧ cutK 14 r.st.h = hB s0 w (k0 + done.length) (gs + 1) 1 (steps ++ [done]) a b (some .normal) [⟨0, .arr 0 []⟩, ⟨0, .box t.row⟩]) ∨
   (left ≠ [] ∧ r.x = .ret ∧ ∃ g E gd md, rowsE E left ∧ cutK 14 r.st.h = hF s0 w (k0 + done.length) (gs + 1) (steps ++ [done]) a b (some .normal) t g E left.length ⟨gd, .frz md (done.map Sk.row)⟩))
theorem body100 (s0 : Sq) (w : List Sk) (hw : w.length < 2 ^ 40) (k0 gs ms : Nat) (hk0 : k0 ≤ w.length) (steps : List (List Sk)) (hst : steps.length < 2 ^ 41) (hms : ms = 1 ∨ ms = 0) (a b : C) (t : Stp) (hnd : t.sk.Nodup) (h6 : t.sk.length ≤ 6) : ∃ r, ev pg (.code L100_2 ⟨setS (setS (sl100 s0 w) 15 (words t.sk)) 9 (words t.sk), hB s0 w k0 gs ms steps a b (some .normal) [⟨0, .arr 0 []⟩, ⟨0, .box t.row⟩]⟩) = some r ∧ Q100b s0 w k0 gs steps a b t r := by
  have hsl : setS (setS (sl100 s0 w) 15 (words t.sk)) 9 (words t.sk) = [s0.v, words w, .bptr 0 0, .bptr 1 0, .bptr 2 0, .bptr 4 0, .bptr 6 0, .bptr 7 0, .bptr 9 0, words t.sk, .undef, .undef, .undef, s0.v, .fn 182 [] [.bptr 10 0], words t.sk, .undef, .undef, .undef, .undef, .undef, .undef, .undef, .undef, .undef, .undef, .undef, .undef, .undef, .undef, .undef, .undef, .undef, .undef, .undef, .undef, .undef, .undef, .undef, .undef, .undef, .undef, .undef, .undef, .undef, .undef, .undef, .undef, .undef, .undef, .undef, .undef, .undef, .undef, .undef, .undef, .undef, .undef, .undef, .undef, .undef] := rfl
  have h50 := ev50 t.sk (by omega)
  rw [hsl]
  simp [-windowE, L100_2, h50, ev_loop]
  generalize hr : ev pg (.code (.going 16 L100_1) _) = o
  obtain ⟨r, rfl, hx, done, left, g, E, gd, md, hh, he, hE, ⟨hnn, gl, g3, g4, g5, g6, g7, g8⟩, g10, g11, hstop⟩ : ∃ r, o = some r ∧ Q100a s0 w k0 gs ms steps a b t r := by
    rw [← hr]
    refine loop100a s0 w hw k0 gs ms steps a b t hnd h6 _ ⟨[], t.sk, 0, t.sk.map Sk.row, 0, 0, ?_, rfl, ⟨hk0, by simp, rfl⟩, .inr rfl, rowsE_row _, ⟨?_, ?_, ?_, ?_, ?_, ?_, ?_, ?_⟩, ?_, ?_⟩
    all_goals simp [noNil]
  have h24 : (steps.length + 1) * 24 ≤ 140737488355328 := by omega
  have hwin := hE.win
  have hwd : windowE (done.map Sk.row) 0 done.length = some (done.map Sk.row) := by simp
  by_cases hl : left = []
  · subst hl
    simp [-windowE, hx, hh, gl, g4, g5, g6, g7, g8, g10, g11, hms, h24, hwd, Q100b]
    exact ⟨done, [], he, hstop, rfl, rfl, rfl⟩
  · have hl0 : left.length ≠ 0 := fun e => hl (List.length_eq_zero_iff.1 e)
    have hl1 : 0 < left.length := by omega
    simp [-windowE, hx, hh, gl, g4, g5, g6, g7, g8, g10, g11, hms, h24, hwd, ev_draw1, exT, chkOk, hl1, ev_draw1, exT, chkOk, Q100b]
    exact ⟨done, left, he, hstop, hl, g, E, hE, rfl, ⟨rfl, rfl⟩, rfl, rfl, ⟨rfl, rfl⟩, rfl⟩
end Go.Proofs.Ytopjiafdimoeiaa
