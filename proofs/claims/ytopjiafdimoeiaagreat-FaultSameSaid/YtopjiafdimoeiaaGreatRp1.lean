/- An expression with a constant in place of a variable, by the program. -/
import Derived.Test.YtopjiafdimoeiaaGreatPi2
namespace Go.Proofs.YtopjiafdimoeiaaGreat
open Go Go.Am Go.Proofs
set_option maxRecDepth 100000
mutual
def Ex.repl (n v : Int) : Ex → Ex
  | .mk o i l => if o = 1 ∧ i = n then .mk 0 v [] else .mk o i (replL n v l)
def replL (n v : Int) : List Ex → List Ex
  | [] => []
  | x :: l => x.repl n v :: replL n v l
end
mutual
def Ex.had (n : Int) : Ex → Bool
  | .mk o i l => if o = 1 ∧ i = n then true else hadL n l
def hadL (n : Int) : List Ex → Bool
  | [] => false
  | x :: l => x.had n || hadL n l
end
theorem repl_eq (n v : Int) (x : Ex) : x.repl n v = if x.op = 1 ∧ x.idx = n then .mk 0 v [] else .mk x.op x.idx (replL n v x.args) := by cases x; rw [Ex.repl]; rfl
theorem had_eq (n : Int) (x : Ex) : x.had n = if x.op = 1 ∧ x.idx = n then true else hadL n x.args := by cases x; rw [Ex.had]; rfl
theorem replL_map (n v : Int) : ∀ l : List Ex, replL n v l = l.map (Ex.repl n v)
  | [] => rfl
  | x :: l => by rw [replL, replL_map n v l]; rfl
theorem hadL_at {n : Int} {l : List Ex} {k : Nat} (hk : k < l.length) : hadL n (l.drop k) = (l[k].had n || hadL n (l.drop (k + 1))) := by
  rw [List.drop_eq_getElem_cons hk, hadL]
abbrev bR (x0 : Ex) (n v : Int) (b : Bool) : H := [⟨0, .box x0.cells⟩, ⟨0, .box [num n]⟩, ⟨0, .box [num v]⟩, ⟨0, .arr 0 []⟩, ⟨0, .box [num 0, num 0, .sl 3 0 0 0 0]⟩, ⟨0, .box [.bool b]⟩, ⟨0, .box [.fn 87 [] [.bptr 1 0, .bptr 5 0, .bptr 2 0, .bptr 6 0]]⟩]
theorem nx0 {α : Type} (a : α) (z : List α) : (a :: z)[0]? = some a := rfl
theorem atN {G : H} {N : Nat} (hn : G.length = N) (k : Nat) (z : H) : (G ++ z)[N + k]? = z[k]? := by
  rw [List.getElem?_append_right (by omega), hn, Nat.add_sub_cancel_left]
theorem at0 {G : H} {N : Nat} (hn : G.length = N) (a : Ob) (z : H) : (G ++ a :: z)[N]? = some a := atN hn 0 (a :: z)
theorem at2 {G : H} {N : Nat} (hn : G.length = N) (a b c : Ob) (z : H) : (G ++ a :: b :: c :: z)[N + 2]? = some c := atN hn 2 (a :: b :: c :: z)
theorem at3 {G : H} {N : Nat} (hn : G.length = N) (a b c d : Ob) (z : H) : (G ++ a :: b :: c :: d :: z)[N + 3]? = some d := atN hn 3 (a :: b :: c :: d :: z)
theorem at4 {G : H} {N : Nat} (hn : G.length = N) (a b c d e : Ob) (z : H) : (G ++ a :: b :: c :: d :: e :: z)[N + 4]? = some e := atN hn 4 (a :: b :: c :: d :: e :: z)
theorem setN {G : H} {N : Nat} (hn : G.length = N) (k : Nat) (z : H) (o : Ob) : (G ++ z).set (N + k) o = G ++ z.set k o := by
  rw [List.set_append_right _ _ (by omega), hn, Nat.add_sub_cancel_left]
theorem set2 {G : H} {N : Nat} (hn : G.length = N) (a b c : Ob) (z : H) (o : Ob) : (G ++ a :: b :: c :: z).set (N + 2) o = G ++ a :: b :: o :: z := setN hn 2 (a :: b :: c :: z) o
theorem set4 {G : H} {N : Nat} (hn : G.length = N) (a b c d e : Ob) (z : H) (o : Ob) : (G ++ a :: b :: c :: d :: e :: z).set (N + 4) o = G ++ a :: b :: c :: d :: o :: z := setN hn 4 (a :: b :: c :: d :: e :: z) o
theorem at5 {G : H} {N : Nat} (hn : G.length = N) (a b c d e f : Ob) (z : H) : (G ++ a :: b :: c :: d :: e :: f :: z)[N + 5]? = some f := atN hn 5 (a :: b :: c :: d :: e :: f :: z)
theorem at7 {G : H} {N : Nat} (hn : G.length = N) (a b c d e f g h : Ob) (z : H) : (G ++ a :: b :: c :: d :: e :: f :: g :: h :: z)[N + 7]? = some h := atN hn 7 (a :: b :: c :: d :: e :: f :: g :: h :: z)
theorem set5 {G : H} {N : Nat} (hn : G.length = N) (a b c d e f : Ob) (z : H) (o : Ob) : (G ++ a :: b :: c :: d :: e :: f :: z).set (N + 5) o = G ++ a :: b :: c :: d :: e :: o :: z := setN hn 5 (a :: b :: c :: d :: e :: f :: z) o
theorem set7 {G : H} {N : Nat} (hn : G.length = N) (a b c d e f g h : Ob) (z : H) (o : Ob) : (G ++ a :: b :: c :: d :: e :: f :: g :: h :: z).set (N + 7) o = G ++ a :: b :: c :: d :: e :: f :: g :: o :: z := setN hn 7 (a :: b :: c :: d :: e :: f :: g :: h :: z) o
abbrev mid118 (N : Nat) (x : Ex) (g m len : Nat) (rows : List (List V)) (z : H) : H := ⟨0, .box x.cells⟩ :: ⟨0, .arr 0 []⟩ :: ⟨0, .box [num 0, num 0, .sl (N + 1) 0 0 0 0]⟩ :: ⟨0, .arr 0 []⟩ :: ⟨0, .box [num x.op, num x.idx, .sl (N + 5) g m 0 len]⟩ :: ⟨g, .arr m rows⟩ :: z
structure Keep118 (N : Nat) (x : Ex) (k : Nat) (st : List V) : Prop where
  nn : noNil st
  len : st.length = 43
  t4 : getS st 4 = .bptr 6 0
  t6 : getS st 6 = .bptr (N + 2) 0
  t7 : getS st 7 = .bptr (N + 4) 0
  t27 : getS st 27 = .imm (x.args.map Ex.row)
  t28 : getS st 28 = num x.args.length
  t29 : getS st 29 = num k
def I118 (x0 : Ex) (n v : Int) (x : Ex) (r : H) (b0 : Bool) (k : Nat) (st : St) : Prop := ∃ b g m, st.h = bR x0 n v b ++ r ++ mid118 (7 + r.length) x g m k ((x.args.take k).map fun y => (y.repl n v).row) [] ∧ (m = 3 ∨ m = 0) ∧ Keep118 (7 + r.length) x k st.s ∧ (b0 || hadL n x.args) = (b || hadL n (x.args.drop k))
def Q118 (x0 : Ex) (n v : Int) (x : Ex) (r : H) (b0 : Bool) (q : Am.R) : Prop := q.x = .exit 0 ∧ ∃ g m, q.st.h = bR x0 n v (b0 || hadL n x.args) ++ r ++ mid118 (7 + r.length) x g m x.args.length (x.args.map fun y => (y.repl n v).row) [] ∧ (m = 3 ∨ m = 0) ∧ Keep118 (7 + r.length) x x.args.length q.st.s
theorem loop118 (x0 : Ex) (n v : Int) (x : Ex) (hx : x.nodes ≤ 256) (r : H) (hr : ∀ b, calm (bR x0 n v b ++ r))
    (ih : ∀ y ∈ x.args, ∀ (b : Bool) (r : H), y.nodes ≤ 256 → (∀ b, calm (bR x0 n v b ++ r)) → ev pg (.call (.fn 87 [] [.bptr 1 0, .bptr 5 0, .bptr 2 0, .bptr 6 0]) [y.v] (bR x0 n v b ++ r)) = some { v := (y.repl n v).v, st := ⟨[], bR x0 n v (b || y.had n) ++ r⟩ })
    (b0 : Bool) (N : Nat) (hN : N = 7 + r.length) (st : St) (h0 : I118 x0 n v x r b0 0 st) : ∃ q, ev pg (.code (.going (N + 6) L87_0) st) = some q ∧ Q118 x0 n v x r b0 q := by
  have hfew := args_few hx
  refine loop_from (I118 x0 n v x r b0) x.args.length (Q118 x0 n v x r b0) h0 ?_ ?_
  · rintro k ⟨sl, h⟩ hk ⟨b, g, m, rfl, hm, ⟨hnn, hl, e4, e6, e7, e27, e28, e29⟩, hw⟩
    simp only at hl e4 e6 e7 e27 e28 e29
    have hnl : ∀ j, getS sl j ≠ .nils := noNil_get hnn
    have hk' : (k : Int) < x.args.length := by omega
    have wk := wrap_id (n := (k : Int) + 1) (by omega) (by omega)
    have hmem := List.getElem_mem hk
    have hgk := List.getElem?_eq_getElem hk
    have h47 : (k + 1) * 40 ≤ 140737488355328 := by omega
    have hkl : ((x.args.take k).map fun y => (y.repl n v).row).length = k := by simp; omega
    have hsuc : (x.args.take (k + 1)).map (fun y => (y.repl n v).row) = (x.args.take k).map (fun y => (y.repl n v).row) ++ [(x.args[k].repl n v).row] := by rw [List.take_succ_eq_append_getElem hk, List.map_append]; rfl
    generalize hrows : (x.args.take k).map (fun y => (y.repl n v).row) = rows at *
    have hry : ∀ b, calm (bR x0 n v b ++ (r ++ mid118 N x g m k rows [⟨0, .arr 0 []⟩, ⟨0, .box x.args[k].cells⟩])) := fun b => by
      rw [← List.append_assoc]
      have h8 : (bR x0 n v b ++ r : H).length = N := by simp; omega
      refine calm_app (hr b) ?_
      rw [h8]
      simp [scrubO]
    have hc := ih x.args[k] hmem b _ (args_nodes hx hmem) hry
    rw [← List.append_assoc, ← List.append_assoc] at hc
    rw [hadL_at hk, ← Bool.or_assoc] at hw
    rw [← hN] at e6 e7 ⊢
    have hl0 : (bR x0 n v b ++ r : H).length = N := by simp; omega
    have g6 : ∀ z, (bR x0 n v b ++ r ++ z)[6]? = some ⟨0, .box [.fn 87 [] [.bptr 1 0, .bptr 5 0, .bptr 2 0, .bptr 6 0]]⟩ := fun z => rfl
    generalize hs2 : (b || x.args[k].had n) = b2 at *
    have hl2 : (bR x0 n v b2 ++ r : H).length = N := by simp; omega
    have hcut : ∀ g m k (rows : List (List V)) z, cutL (N + 6) ((bR x0 n v b2 ++ r) ++ mid118 N x g m k rows z) = (bR x0 n v b2 ++ r) ++ mid118 N x g m k rows [] := fun g m k rows z => by
      have hcl : calm ((bR x0 n v b2 ++ r) ++ mid118 N x g m k rows []) := by
        refine calm_app (hr b2) ?_
        rw [hl2]
        simp [scrubO]
      have := cutL_app hcl z
      rw [List.length_append, hl2, List.append_assoc] at this
      exact this
    generalize hG : bR x0 n v b ++ r = G at *
    generalize hG2 : bR x0 n v b2 ++ r = G2 at *
    generalize hrow : (x.args[k].repl n v) = y' at *
    rw [getS_expand hl]
    simp [-cutL, -getElem?_pos, ev_draw1, exT, chkOk, L87_0, List.range, List.range.loop, e4, e6, e7, e27, e28, e29, hgk, hk', wk, hl0, at4 hl0, at7 hl0, set7 hl0, at5 hl2, at4 hl2, set5 hl2, set4 hl2, g6, hc, hm, h47, hkl, nx0]
    rw [hcut]
    have hN0 : 0 < N := by omega
    simp only [if_pos hN0]
    refine ⟨b2, g + 1, 3, ?_, .inl rfl, ⟨?_, rfl, rfl, ?_, ?_, rfl, rfl, rfl⟩, hw⟩
    · rw [hsuc, ← hN, hG2, row_eq]
    · simp [noNil, hnl]
    · rw [← hN]; rfl
    · rw [← hN]; rfl
  · rintro ⟨sl, h⟩ ⟨b, g, m, rfl, hm, ⟨hnn, hl, e4, e6, e7, e27, e28, e29⟩, hw⟩
    simp only [List.drop_length] at hl e4 e6 e7 e27 e28 e29 hw
    rw [hadL, Bool.or_false] at hw
    have hnl : ∀ j, getS sl j ≠ .nils := noNil_get hnn
    rw [getS_expand hl]
    simp [L87_0, List.range, List.range.loop, e4, e6, e7, e27, e28, e29]
    refine ⟨rfl, g, m, ?_, hm, ⟨?_, rfl, rfl, rfl, rfl, rfl, rfl, rfl⟩⟩
    · rw [hw]; simp
    · simp [noNil, hnl]
theorem ev87 (x0 : Ex) (n v : Int) : ∀ (x : Ex) (b : Bool) (r : H), x.nodes ≤ 256 → (∀ b, calm (bR x0 n v b ++ r)) → ev pg (.call (.fn 87 [] [.bptr 1 0, .bptr 5 0, .bptr 2 0, .bptr 6 0]) [x.v] (bR x0 n v b ++ r)) = some { v := (x.repl n v).v, st := ⟨[], bR x0 n v (b || x.had n) ++ r⟩ } := by
  refine Ex.ind fun x ih b r hx hr => ?_
  have hl0 : (bR x0 n v b ++ r : H).length = 7 + r.length := by simp; omega
  have g1 : ∀ z, (bR x0 n v b ++ r ++ z)[1]? = some ⟨0, .box [num n]⟩ := fun z => rfl
  have g2 : ∀ z, (bR x0 n v b ++ r ++ z)[2]? = some ⟨0, .box [num v]⟩ := fun z => rfl
  have g2' : ∀ z, (bR x0 n v true ++ r ++ z)[2]? = some ⟨0, .box [num v]⟩ := fun z => rfl
  have s5 : ∀ z, (bR x0 n v b ++ r ++ z).set 5 ⟨0, .box [.bool true]⟩ = bR x0 n v true ++ r ++ z := fun z => rfl
  have g5 : ∀ z, (bR x0 n v b ++ r ++ z)[5]? = some ⟨0, .box [.bool b]⟩ := fun z => rfl
  rw [ev_call, pg87, repl_eq, had_eq]
  by_cases hm : x.op = 1 ∧ x.idx = n
  · have hck := cutK_app (hr true)
    have hl1 : (bR x0 n v true ++ r : H).length = 7 + r.length := by simp; omega
    rw [if_pos hm, if_pos hm, Bool.or_true]
    rw [hl1] at hck
    generalize bR x0 n v true ++ r = G1 at *
    generalize bR x0 n v b ++ r = G at *
    generalize 7 + r.length = N at *
    obtain ⟨h1, h2⟩ := hm
    have h1b : (x.op == 1) = true := by simpa using h1
    have h2b : (x.idx == n) = true := by simpa using h2
    simp [-cutK, -getElem?_pos, ir87, hl0, hl1, at0 hl0, at2 hl1, at3 hl1, set2 hl1, g1, g2', g5, s5, h1b, h2b, hck]
    exact ⟨rfl, rfl, rfl⟩
  · have hck := cutK_app (hr (b || hadL n x.args))
    have hl1 : (bR x0 n v (b || hadL n x.args) ++ r : H).length = 7 + r.length := by simp; omega
    have hloop := loop118 x0 n v x hx r hr ih b (7 + r.length) rfl
    have hI : ∀ st : St, (st.h = bR x0 n v b ++ r ++ mid118 (7 + r.length) x 0 0 0 [] [] ∧ Keep118 (7 + r.length) x 0 st.s) → I118 x0 n v x r b 0 st := fun st hst => ⟨b, 0, 0, hst.1, .inr rfl, hst.2, rfl⟩
    unfold Q118 at hloop
    rw [if_neg hm, if_neg hm]
    rw [hl1] at hck
    rw [replL_map]
    generalize bR x0 n v (b || hadL n x.args) ++ r = G1 at *
    generalize bR x0 n v b ++ r = G at *
    generalize 7 + r.length = N at *
    by_cases h1 : x.op = 1
    · have h2 : ¬ x.idx = n := fun h2 => hm ⟨h1, h2⟩
      have h1b : (x.op == 1) = true := by simpa using h1
      have h2b : (x.idx == n) = false := by simpa using h2
      simp [-cutK, -getElem?_pos, ir87, hl0, at0 hl0, at4 hl0, set4 hl0, g1, h1b, h2b, ev_loop]
      generalize hq : ev pg (.code (.going _ L87_0) _) = o
      obtain ⟨q, rfl, hqx, g, m, hh, hm3, ⟨hqn, hql, q4, q6, q7, q27, q28, q29⟩⟩ : ∃ q, o = some q ∧ _ := by
        rw [← hq]
        exact hloop _ (hI _ ⟨rfl, ⟨by simp [noNil], rfl, rfl, rfl, rfl, rfl, rfl, rfl⟩⟩)
      simp [-cutK, -getElem?_pos, hqx, hh, hql, q6, q7, hl1, at4 hl1, at2 hl1, set2 hl1, at5 hl1, hck]
      refine ⟨rfl, rfl, ?_⟩
      show _ = List.map Ex.row (List.map (Ex.repl n v) x.args)
      rw [List.map_map]
      exact List.map_congr_left fun y _ => (row_eq _).symm
    · have h1b : (x.op == 1) = false := by simpa using h1
      simp [-cutK, -getElem?_pos, ir87, hl0, at0 hl0, at4 hl0, set4 hl0, h1b, ev_loop]
      generalize hq : ev pg (.code (.going _ L87_0) _) = o
      obtain ⟨q, rfl, hqx, g, m, hh, hm3, ⟨hqn, hql, q4, q6, q7, q27, q28, q29⟩⟩ : ∃ q, o = some q ∧ _ := by
        rw [← hq]
        exact hloop _ (hI _ ⟨rfl, ⟨by simp [noNil], rfl, rfl, rfl, rfl, rfl, rfl, rfl⟩⟩)
      simp [-cutK, -getElem?_pos, hqx, hh, hql, q6, q7, hl1, at4 hl1, at2 hl1, set2 hl1, at5 hl1, hck]
      refine ⟨rfl, rfl, ?_⟩
      show _ = List.map Ex.row (List.map (Ex.repl n v) x.args)
      rw [List.map_map]
      exact List.map_congr_left fun y _ => (row_eq _).symm
theorem ev57 (x : Ex) (n v : Int) (hx : x.nodes ≤ 256) : ev pg (.call (.fn 57 [] []) [x.v, num n, num v] []) = some { v := .tup [(x.repl n v).v, .bool (x.had n)], st := ⟨[], []⟩ } := by
  have h118 := ev87 x n v x false [] hx (fun b => by simp [calm, scrubO])
  rw [List.append_nil, List.append_nil, Bool.false_or] at h118
  generalize x.had n = b at *
  generalize x.repl n v = y at *
  rw [ev_call, pg57]
  simp [ev_draw1, exT, chkOk, ir57, h118]
end Go.Proofs.YtopjiafdimoeiaaGreat
