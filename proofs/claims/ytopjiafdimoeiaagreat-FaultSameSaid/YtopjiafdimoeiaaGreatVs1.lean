/- The nodes of an expression, one after the other, by the program. -/
import Derived.Test.YtopjiafdimoeiaaGreatCm1
namespace Go.Proofs.YtopjiafdimoeiaaGreat
open Go Go.Am Go.Proofs
set_option maxRecDepth 100000
section
variable {S : Type} (step : S → Nat → Ex → S) (run : S → Bool)
mutual
def walkE (d : Nat) : Ex → S → S
  | .mk o i l, s => if run (step s d (.mk o i l)) = true then walkLs (d + 1) l (step s d (.mk o i l)) else step s d (.mk o i l)
def walkLs (d : Nat) : List Ex → S → S
  | [], s => s
  | y :: r, s => if run (walkE d y s) = true then walkLs d r (walkE d y s) else walkE d y s
end
theorem walkE_eq (d : Nat) (x : Ex) (s : S) : walkE step run d x s = if run (step s d x) = true then walkLs step run (d + 1) x.args (step s d x) else step s d x := by
  cases x; rw [walkE]; rfl
theorem walkLs_at {d : Nat} {l : List Ex} {k : Nat} {s : S} (hk : k < l.length) : walkLs step run d (l.drop k) s = if run (walkE step run d l[k] s) = true then walkLs step run d (l.drop (k + 1)) (walkE step run d l[k] s) else walkE step run d l[k] s := by
  rw [List.drop_eq_getElem_cons hk, walkLs]
structure Yld (l : Nat) (base : S → H) : Prop where
  len : ∀ s, (base s).length = l + 3
  g8 : ∀ s, (base s)[l + 1]? = some ⟨0, .box [.yld l]⟩
  g9 : ∀ s, (base s)[l + 2]? = some ⟨0, .box [.fn 133 [] [.bptr (l + 1) 0, .bptr (l + 2) 0]]⟩
  yld : ∀ s (d : Nat) y r, run s = true → d ≤ 16 → y.nodes ≤ 256 → (∀ s, calm (base s ++ r)) → ev pg (.call (.yld l) [num d, y.v] (base s ++ r)) = some { v := .bool (run (step s d y)), st := ⟨[], base (step s d y) ++ r⟩ }
variable {step run}
theorem app1 {h : H} {n : Nat} (hn : h.length = n) (a b : Ob) : (h ++ [a, b])[n + 1]? = some b := by
  rw [List.getElem?_append_right (by omega), hn, Nat.add_sub_cancel_left]; rfl
theorem app0 {h : H} {n : Nat} (hn : h.length = n) (a : Ob) : (h ++ [a])[n]? = some a := by
  rw [List.getElem?_append_right (by omega), hn, Nat.sub_self]; rfl
theorem set1 {h : H} {n : Nat} (hn : h.length = n) (a b c : Ob) : (h ++ [a, b]).set (n + 1) c = h ++ [a, c] := by
  rw [List.set_append_right _ _ (by omega), hn, Nat.add_sub_cancel_left]; rfl
theorem app_low {h : H} {k : Nat} {o : Ob} (r : H) (hk : h[k]? = some o) : (h ++ r)[k]? = some o := by
  rw [List.getElem?_append_left (List.getElem?_eq_some_iff.1 hk).1]; exact hk
structure Keep202 (l : Nat) (x : Ex) (d k : Nat) (st : List V) : Prop where
  nn : noNil st
  len : st.length = 32
  t1 : getS st 1 = num d
  t3 : getS st 3 = .bptr (l + 2) 0
  t15 : getS st 15 = .imm (x.args.map Ex.row)
  t16 : getS st 16 = num x.args.length
  t17 : getS st 17 = num k
def I202 (l : Nat) (step : S → Nat → Ex → S) (run : S → Bool) (base : S → H) (x : Ex) (d : Nat) (r : H) (s1 : S) (k : Nat) (st : St) : Prop := ∃ s, run s = true ∧ st.h = base s ++ (r ++ [⟨0, .box x.cells⟩]) ∧ Keep202 l x d k st.s ∧ walkLs step run (d + 1) x.args s1 = walkLs step run (d + 1) (x.args.drop k) s
def Q202 (step : S → Nat → Ex → S) (run : S → Bool) (base : S → H) (x : Ex) (d : Nat) (r : H) (s1 : S) (q : Am.R) : Prop := q.st.s.length = 32 ∧ ∃ z, q.st.h = base (walkLs step run (d + 1) x.args s1) ++ (r ++ z) ∧ ((q.x = .exit 0 ∧ run (walkLs step run (d + 1) x.args s1) = true) ∨ (q.x = .ret ∧ getS q.st.s 6 = .bool false ∧ run (walkLs step run (d + 1) x.args s1) = false))
theorem loop202 {l : Nat} {base : S → H} (hY : Yld step run l base) (x : Ex) (d : Nat) (hd : d + x.depth ≤ 17) (hx : x.nodes ≤ 256) (r : H) (hr : ∀ s, calm (base s ++ r))
    (ih : ∀ y ∈ x.args, ∀ (d : Nat) (s : S) (r : H), run s = true → d + y.depth ≤ 17 → y.nodes ≤ 256 → (∀ s, calm (base s ++ r)) → ev pg (.call (.fn 133 [] [.bptr (l + 1) 0, .bptr (l + 2) 0]) [y.v, num d] (base s ++ r)) = some { v := .bool (run (walkE step run d y s)), st := ⟨[], base (walkE step run d y s) ++ r⟩ })
    (s1 : S) (n : Nat) (hn : n = l + 3 + (r.length + 1)) (st : St) (h0 : I202 l step run base x d r s1 0 st) : ∃ q, ev pg (.code (.going n L133_0) st) = some q ∧ Q202 step run base x d r s1 q := by
  have hfew := args_few hx
  have hrx : ∀ s, calm (base s ++ (r ++ [⟨0, .box x.cells⟩])) := fun s => by
    rw [← List.append_assoc]
    exact calm_app (hr s) (by simp)
  refine loop_from (I202 l step run base x d r s1) x.args.length (Q202 step run base x d r s1) h0 ?_ ?_
  · rintro k ⟨sl, h⟩ hk ⟨s, hrun, rfl, ⟨hnn, hl, e1, e3, e15, e16, e17⟩, hw⟩
    simp only at hl e1 e3 e15 e16 e17
    have hnl : ∀ j, getS sl j ≠ .nils := noNil_get hnn
    have hk' : (k : Int) < x.args.length := by omega
    have wk := wrap_id (n := (k : Int) + 1) (by omega) (by omega)
    have hmem := List.getElem_mem hk
    have hyd : x.args[k].depth + 1 ≤ x.depth := by
      have h1 := depth_eq x
      have h2 := depthL_le.1 (Nat.le_refl (depthL x.args)) _ hmem
      omega
    have hyp := depth_pos x.args[k]
    have hd16 : (d : Int) ≤ 16 := by omega
    have wd := wrap_id (n := (d : Int) + 1) (by omega) (by omega)
    have hry : ∀ s, calm (base s ++ (r ++ [⟨0, .box x.cells⟩, ⟨0, .arr 0 []⟩, ⟨0, .box x.args[k].cells⟩])) := fun s => by
      have e : base s ++ (r ++ [⟨0, .box x.cells⟩, ⟨0, .arr 0 []⟩, ⟨0, .box x.args[k].cells⟩]) = (base s ++ (r ++ [⟨0, .box x.cells⟩])) ++ [⟨0, .arr 0 []⟩, ⟨0, .box x.args[k].cells⟩] := by simp
      rw [e]
      exact calm_app (hrx s) (by simp [scrubO])
    have hc := ih x.args[k] hmem (d + 1) s _ hrun (by omega) (args_nodes hx hmem) hry
    have e0 : ∀ s, base s ++ (r ++ [⟨0, .box x.cells⟩, ⟨0, .arr 0 []⟩, ⟨0, .box x.args[k].cells⟩]) = (base s ++ (r ++ [⟨0, .box x.cells⟩])) ++ [⟨0, .arr 0 []⟩, ⟨0, .box x.args[k].cells⟩] := fun s => by simp
    rw [e0, e0] at hc
    rw [walkLs_at step run hk] at hw
    generalize hs2 : walkE step run (d + 1) x.args[k] s = s2 at *
    have hl0 : (base s ++ (r ++ [⟨0, .box x.cells⟩]) : H).length = n := by simp [hY.len, hn]
    have hl2 : (base s2 ++ (r ++ [⟨0, .box x.cells⟩]) : H).length = n := by simp [hY.len, hn]
    have g9 := app_low (r ++ [⟨0, .box x.cells⟩]) (hY.g9 s)
    have hc0 := hrx s
    have hc2 := hrx s2
    have hfin : base s2 ++ (r ++ [⟨0, .box x.cells⟩, ⟨0, .arr 0 []⟩, ⟨0, .box x.args[k].cells⟩]) = (base s2 ++ (r ++ [⟨0, .box x.cells⟩])) ++ [⟨0, .arr 0 []⟩, ⟨0, .box x.args[k].cells⟩] := e0 s2
    have hcut := cutL_app hc2
    rw [hl2] at hcut
    generalize hG : base s ++ (r ++ [⟨0, .box x.cells⟩]) = G at *
    generalize hG2 : base s2 ++ (r ++ [⟨0, .box x.cells⟩]) = G2 at *
    have g9' : ∀ z, (G ++ z)[l + 2]? = some ⟨0, .box [.fn 133 [] [.bptr (l + 1) 0, .bptr (l + 2) 0]]⟩ := fun z => app_low z g9
    have t1 := set1 hl0
    simp at hc
    rw [getS_expand hl]
    by_cases hb : run s2 = true
    · rw [hb] at hc
      rw [if_pos hb] at hw
      simp [-cutL, L133_0, List.range, List.range.loop, e1, e3, e15, e16, e17, hk, hk', hd16, wd, wk, hl0, t1, g9', hc, hcut]
      have h9 : l + 2 < n := by omega
      exact ⟨s2, hb, hG2.symm, ⟨by simp [noNil, hnl], rfl, rfl, by simp [h9], rfl, rfl, rfl⟩, hw⟩
    · have hb' : run s2 = false := by simpa using hb
      rw [hb'] at hc
      rw [if_neg hb] at hw
      simp [-cutL, L133_0, List.range, List.range.loop, e1, e3, e15, e16, e17, hk, hk', hd16, wd, hl0, t1, g9', hc]
      refine ⟨rfl, [⟨0, .box x.cells⟩, ⟨0, .arr 0 []⟩, ⟨0, .box x.args[k].cells⟩], ?_, .inr ⟨rfl, rfl, by rw [hw]; exact hb'⟩⟩
      rw [hw, hfin]
  · rintro ⟨sl, h⟩ ⟨s, hrun, rfl, ⟨hnn, hl, e1, e3, e15, e16, e17⟩, hw⟩
    simp only [List.drop_length] at hl e1 e3 e15 e16 e17 hw
    rw [walkLs] at hw
    rw [getS_expand hl]
    simp [L133_0, Q202, List.range, List.range.loop, e1, e3, e15, e16, e17, hw, hrun]
theorem ev133 {l : Nat} {base : S → H} (hY : Yld step run l base) : ∀ (x : Ex) (d : Nat) (s : S) (r : H), run s = true → d + x.depth ≤ 17 → x.nodes ≤ 256 → (∀ s, calm (base s ++ r)) → ev pg (.call (.fn 133 [] [.bptr (l + 1) 0, .bptr (l + 2) 0]) [x.v, num d] (base s ++ r)) = some { v := .bool (run (walkE step run d x s)), st := ⟨[], base (walkE step run d x s) ++ r⟩ } := by
  refine Ex.ind fun x ih d s r hrun hd hx hr => ?_
  have hp := depth_pos x
  have hrx : ∀ s, calm (base s ++ (r ++ [⟨0, .box x.cells⟩])) := fun s => by
    rw [← List.append_assoc]
    exact calm_app (hr s) (by simp)
  have hy := hY.yld s d x (r ++ [⟨0, .box x.cells⟩]) hrun (by omega) hx hrx
  have hloop := loop202 hY x d hd hx r hr ih (step s d x) (l + 3 + (r.length + 1)) rfl
  rw [walkE_eq]
  generalize hs1 : step s d x = s1 at *
  have hl0 : (base s ++ r : H).length = l + 3 + r.length := by simp [hY.len]
  have g8 := app_low r (hY.g8 s)
  have gx := app0 (h := base s ++ r) hl0 ⟨0, .box x.cells⟩
  have e0 : ∀ s, base s ++ (r ++ [⟨0, .box x.cells⟩]) = (base s ++ r) ++ [⟨0, .box x.cells⟩] := fun s => by simp
  have hcut : ∀ s z, cutK (l + 3 + r.length) (base s ++ (r ++ z)) = base s ++ r := fun s z => by
    have := cutK_app (hr s) z
    rw [List.append_assoc] at this
    rw [show (base s ++ r : H).length = l + 3 + r.length by simp [hY.len]] at this
    exact this
  rw [e0] at hy
  rw [ev_call, pg133]
  have g8' := app_low [⟨0, .box x.cells⟩] g8
  rw [List.append_assoc] at g8' gx
  rw [← e0] at hy
  by_cases hb : run s1 = true
  · rw [hb] at hy
    simp [-cutK, ir133, hY.len, g8', hy, ev_loop]
    generalize hq : ev pg (.code (.going _ L133_0) _) = o
    obtain ⟨q, rfl, hl, z, hh, hQ⟩ : ∃ q, o = some q ∧ Q202 step run base x d r s1 q := by
      rw [← hq]
      refine hloop _ ⟨s1, hb, rfl, ⟨?_, ?_, ?_, ?_, ?_, ?_, ?_⟩, rfl⟩
      all_goals simp [noNil]
    rcases hQ with ⟨hx, hw⟩ | ⟨hx, h6, hw⟩
    · simp [-cutK, hx, hh, hl, hw, hb, hcut]
    · simp [-cutK, hx, hh, h6, hw, hb, hcut]
  · have hb' : run s1 = false := by simpa using hb
    rw [hb'] at hy
    simp [-cutK, ir133, hY.len, g8', hy, hb', hcut]
end
end Go.Proofs.YtopjiafdimoeiaaGreat
