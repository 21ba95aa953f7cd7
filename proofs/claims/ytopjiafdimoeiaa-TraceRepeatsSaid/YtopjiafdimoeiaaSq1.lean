/- Sequences: steps checked by the program. -/
import Derived.Test.YtopjiafdimoeiaaTr4
namespace Go.Proofs.Ytopjiafdimoeiaa
open Go Go.Am Go.Proofs
set_option maxRecDepth 100000
structure Stp where
  sk : List Sk
  wait : Int
abbrev Stp.row (x : Stp) : List V := [words x.sk, num x.wait]
structure Sq where
  act : Int
  steps : List Stp
abbrev Sq.cells (s : Sq) : List V := [num s.act, .imm (s.steps.map Stp.row)]
abbrev Sq.v (s : Sq) : V := .agg s.cells
/-! ### no slot is a nil slice -/
def noNil (s : List V) : Prop := ∀ v ∈ s, v ≠ .nils
theorem noNil_get : ∀ {s : List V}, noNil s → ∀ j, getS s j ≠ .nils
  | [], _, j => by simp [getS]
  | v :: s, h, 0 => h v (by simp)
  | v :: s, h, j + 1 => noNil_get (s := s) (fun w hw => h w (by simp [hw])) j
theorem noNil_set : ∀ {s : List V} {k : Nat} {v : V}, noNil s → v ≠ .nils → noNil (setS s k v)
  | [], _, _, h, _ => h
  | x :: s, 0, v, h, hv => fun w hw => by
    rcases List.mem_cons.1 hw with rfl | hw
    · exact hv
    · exact h w (by simp [hw])
  | x :: s, k + 1, v, h, hv => fun w hw => by
    rcases List.mem_cons.1 hw with rfl | hw
    · exact h w (by simp)
    · exact noNil_set (s := s) (k := k) (fun u hu => h u (by simp [hu])) hv w hw
@[simp] theorem getS_scrub (n : Nat) : ∀ (s : List V) (k : Nat), getS (s.map (scrub1 n)) k = scrub1 n (getS s k)
  | [], k => by simp [getS]
  | v :: s, 0 => rfl
  | v :: s, k + 1 => by simp only [List.map_cons, getS]; exact getS_scrub n s k
theorem noNil_scrub {n : Nat} {s : List V} (h : noNil s) : noNil (s.map (scrub1 n)) := by
  intro v hv
  obtain ⟨w, hw, rfl⟩ := List.mem_map.1 hv
  have := h w hw
  unfold scrub1
  split
  · exact this
  · simp
theorem adopt_none : ∀ {s : List V} (h : H), noNil s → adoptL h s = (s, h)
  | [], h, _ => rfl
  | v :: s, h, hn => by
    have hv := hn v (by simp)
    have ih := adopt_none (s := s) h fun w hw => hn w (by simp [hw])
    cases v <;> first | exact absurd rfl hv | simp only [adoptL, ih]
@[simp] theorem ite_nils {p : Prop} [Decidable p] {v : V} : ((if p then v else V.undef) = .nils) ↔ (p ∧ v = .nils) := by
  split <;> simp_all
/-! ### cells that are bools -/
abbrev bcells (l : List Bool) : List V := l.map V.bool
@[simp] theorem scrub_bool (n : Nat) : scrub1 n ∘ V.bool = V.bool := by funext b; rfl
@[simp] theorem reify_bool (h : H) : reify1 h ∘ V.bool = V.bool := by funext b; rfl
@[simp] theorem shiftVL_bools (n : Nat) : ∀ l : List Bool, shiftVL n (bcells l) = bcells l
  | [] => rfl
  | b :: l => by simp only [List.map_cons, shiftVL, shiftV, shiftVL_bools n l]
@[simp] theorem lowL_bools (n : Nat) : ∀ l : List Bool, lowL n (bcells l) = true
  | [] => rfl
  | b :: l => by simp only [List.map_cons, lowL, V.low, lowL_bools n l, Bool.and_self]
@[simp] theorem bindN_bools (h : H) : ∀ l : List Bool, bindN h (bcells l) = (bcells l, h)
  | [] => rfl
  | b :: l => by simp only [List.map_cons, bindN, bindN_bools h l]
theorem putL_one : ∀ (l : List V) (p : Nat) (v : V), putL l p [v] = l.set p v
  | [], 0, v => rfl
  | [], p + 1, v => rfl
  | x :: l, 0, v => by cases l <;> rfl
  | x :: l, p + 1, v => by simp only [putL, List.set_cons_succ, putL_one l p v]
theorem putL_all : ∀ (l vs : List V), vs.length = l.length → putL l 0 vs = vs
  | [], [], _ => rfl
  | [], _ :: _, h => by simp at h
  | _ :: _, [], h => by simp at h
  | x :: l, v :: vs, h => by simp only [putL, putL_all l vs (by simpa using h)]
theorem eqL_bools : ∀ (x y : List Bool), x.length = y.length → eqL (List.replicate x.length 0) (bcells x) (bcells y) = some (decide (x = y))
  | [], [], _ => rfl
  | [], _ :: _, h => by simp at h
  | _ :: _, [], h => by simp at h
  | a :: x, b :: y, h => by
    have ih := eqL_bools x y (by simpa using h)
    simp only [List.length_cons, List.replicate_succ, List.map_cons, eqL, kindV, eqS, beq_self_eq_true, if_true, ih]
    by_cases hab : a = b
    · subst hab; simp
    · have : (a == b) = false := by simpa using hab
      rw [this]
      simp [hab]
theorem set_cells (l : List Bool) (p : Nat) (b : Bool) : (bcells l).set p (.bool b) = bcells (l.set p b) := by simp only [bcells, List.map_set]
@[simp] theorem lowL_set_bools (n : Nat) (l : List Bool) (p : Nat) (b : Bool) : lowL n ((bcells l).set p (.bool b)) = true := by rw [set_cells]; exact lowL_bools n _
/-! ### a step alone -/
def ordErr : Int → List Sk → Int
  | _, [] => 0
  | last, y :: r => if okAct y.act = true then (if y.act = last then 7 else if y.act < last then 9 else ordErr y.act r) else 2
theorem ordErr_at {w : List Sk} {k : Nat} {last : Int} (hk : k < w.length) : ordErr last (w.drop k) = if okAct w[k].act = true then (if w[k].act = last then 7 else if w[k].act < last then 9 else ordErr w[k].act (w.drop (k + 1))) else 2 := by
  rw [List.drop_eq_getElem_cons hk]; rfl
def okWait (n : Int) : Bool := decide (0 ≤ n) && decide (n ≤ 1000000)
def stepErr (x : Stp) : Int := if x.sk.length = 0 then 13 else if 6 < x.sk.length then 5 else if ordErr (-1) x.sk = 0 then (if okWait x.wait then 0 else 2) else ordErr (-1) x.sk
def I197 (x : Stp) (k : Nat) (st : St) : Prop := ∃ last, st.h = [⟨0, .box x.row⟩] ∧ st.s.length = 49 ∧ getS st.s 1 = .bptr 0 0 ∧ getS st.s 4 = num last ∧ getS st.s 17 = words x.sk ∧ getS st.s 18 = num x.sk.length ∧ getS st.s 19 = num k ∧ ordErr (-1) x.sk = ordErr last (x.sk.drop k)
def Q197 (x : Stp) (r : R) : Prop := r.st.s.length = 49 ∧ ((r.x = .exit 1 ∧ r.st.h = [⟨0, .box x.row⟩] ∧ getS r.st.s 1 = .bptr 0 0 ∧ ordErr (-1) x.sk = 0) ∨ (r.x = .ret ∧ getS r.st.s 2 = num (ordErr (-1) x.sk) ∧ ordErr (-1) x.sk ≠ 0))
theorem loop197 (x : Stp) (hw : x.sk.length ≤ 6) (st : St) (h0 : I197 x 0 st) : ∃ r, ev pg (.code (.going 1 L197_0) st) = some r ∧ Q197 x r := by
  refine loop_from (I197 x) x.sk.length (Q197 x) h0 ?_ ?_
  · rintro k ⟨s, h⟩ hk ⟨last, rfl, hl, e1, e4, e17, e18, e19, he⟩
    simp only at hl e1 e4 e17 e18 e19
    have hc := ev164 x.sk[k].act
    have hk' : (k : Int) < x.sk.length := by omega
    have wk := wrap_id (n := (k : Int) + 1) (by omega) (by omega)
    rw [ordErr_at hk] at he
    rw [getS_expand hl]
    by_cases ha : okAct x.sk[k].act = true
    · rw [if_pos ha] at he
      by_cases hb : x.sk[k].act = last
      · rw [if_pos hb] at he
        rw [hb] at hc ha
        simp [L197_0, I197, Q197, List.range, List.range.loop, e1, e4, e17, e18, e19, hk, hk', hc, ha, hb, he]
      · rw [if_neg hb] at he
        by_cases hd : x.sk[k].act < last
        · rw [if_pos hd] at he
          simp [L197_0, I197, Q197, List.range, List.range.loop, e1, e4, e17, e18, e19, hk, hk', hc, ha, hb, hd, he]
        · rw [if_neg hd] at he
          simp [L197_0, I197, Q197, List.range, List.range.loop, e1, e4, e17, e18, e19, hk, hk', hc, ha, hb, hd, he, wk]
    · rw [if_neg ha] at he
      simp [L197_0, I197, Q197, List.range, List.range.loop, e1, e4, e17, e18, e19, hk, hk', hc, ha, he]
  · rintro ⟨s, h⟩ ⟨last, rfl, hl, e1, e4, e17, e18, e19, he⟩
    simp only [List.drop_length] at hl e1 e4 e17 e18 e19 he
    rw [getS_expand hl]
    simp [L197_0, Q197, List.range, List.range.loop, e1, e4, e17, e18, e19, he, ordErr]
theorem ev197 (x : Stp) : ev pg (.call (.fn 197 [] []) [.agg x.row] []) = some { v := num (stepErr x), st := ⟨[], []⟩ } := by
  rw [ev_call, pg197]
  by_cases h0 : x.sk.length = 0
  · simp [ir197, stepErr, h0]
  · by_cases h6 : 6 < x.sk.length
    · have hi : (6 : Int) < (x.sk.length : Int) := by omega
      have hz : ¬ ((x.sk.length : Int) = 0) := by omega
      simp [ir197, stepErr, h0, h6, hi, hz]
    · have hi : ¬ ((6 : Int) < (x.sk.length : Int)) := by omega
      have hz : ¬ ((x.sk.length : Int) = 0) := by omega
      simp [ir197, stepErr, h0, h6, hi, hz, ev_loop]
      generalize hr : ev pg (.code (.going 1 L197_0) _) = o
      obtain ⟨r, rfl, hl, hQ⟩ : ∃ r, o = some r ∧ Q197 x r := by rw [← hr]; exact loop197 x (by omega) _ (by simp [I197])
      rcases hQ with ⟨hx, hh, h1, hE⟩ | ⟨hx, h2, hE⟩
      · by_cases hw1 : x.wait < 0
        · have hw2 : okWait x.wait = false := by simp [okWait]; omega
          simp [hx, hh, h1, hE, hl, hw1, hw2]
        · by_cases hw3 : 1000000 < x.wait
          · have hw2 : okWait x.wait = false := by simp [okWait]; omega
            simp [hx, hh, h1, hE, hl, hw1, hw2, hw3]
          · have hw2 : okWait x.wait = true := by simp [okWait]; omega
            simp [hx, hh, h1, hE, hl, hw1, hw2, hw3]
      · simp [hx, h2, hE]
end Go.Proofs.Ytopjiafdimoeiaa
