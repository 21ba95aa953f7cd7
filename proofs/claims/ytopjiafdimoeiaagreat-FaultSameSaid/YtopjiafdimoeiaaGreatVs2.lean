/- All nodes of an expression; how many, and how deep; the errors of an expression, by the program. -/
import Derived.Test.YtopjiafdimoeiaaGreatVs1
namespace Go.Proofs.YtopjiafdimoeiaaGreat
open Go Go.Am Go.Proofs
set_option maxRecDepth 100000
section
variable {S : Type} {step : S → Nat → Ex → S} {run : S → Bool}
abbrev two202 (l : Nat) : H := [⟨0, .box [.yld l]⟩, ⟨0, .box [.fn 133 [] [.bptr (l + 1) 0, .bptr (l + 2) 0]]⟩]
theorem ev132 {l : Nat} {b7 : S → H} (hY : Yld step run l (fun s => b7 s ++ two202 l)) (hlen : ∀ s, (b7 s).length = l + 1) (hc : ∀ s, calm (b7 s)) (x : Ex) (k : Nat) (hk : ∀ s, (b7 s)[k]? = some ⟨0, .box x.cells⟩) (hx : x.light = true) (s : S) (hrun : run s = true) : ev pg (.call (.fn 132 [] [.bptr k 0]) [.yld l] (b7 s)) = some { v := .tup [], st := ⟨[], b7 (walkE step run 1 x s)⟩ } := by
  obtain ⟨h1, h2⟩ := light_nodes hx
  have hcb : ∀ s, calm ((b7 s ++ two202 l) ++ []) := fun s => by
    rw [List.append_nil]
    exact calm_app (hc s) (by simp [hlen]; omega)
  have hv := ev133 hY x 1 s [] hrun (by omega) h1 hcb
  simp only [List.append_nil] at hv
  generalize walkE step run 1 x s = s2 at *
  have t1 := set1 (hlen s)
  have gk : ∀ z, (b7 s ++ z)[k]? = some ⟨0, .box x.cells⟩ := fun z => app_low z (hk s)
  have hcut : ∀ z, cutK (l + 1) (b7 s2 ++ z) = b7 s2 := fun z => by
    have := cutK_app (hc s2) z
    rwa [hlen] at this
  rw [ev_call, pg132]
  simp at hv
  simp [-cutK, ir132, hlen, t1, gk, hv, hcut]
end
/-! ### how many nodes, how deep -/
abbrev sl162 (x : Ex) : List V := [x.v, .bptr 0 0, .bptr 1 0, .bptr 2 0, .bptr 3 0, .bptr 4 0, .bptr 5 0, .undef, x.v, .fn 132 [] [.bptr 6 0], .undef, .undef, .undef, .undef, .undef, .undef, .undef, .undef, .undef, .undef, .undef, .undef, .undef, .undef, .undef]
def m7 (x : Ex) (s : Nat × Nat) : H := [⟨0, .box x.cells⟩, ⟨0, .box [num 0]⟩, ⟨0, .box [num 0]⟩, ⟨0, .box [.bool false]⟩, ⟨0, .box [num s.1]⟩, ⟨0, .box [num s.2]⟩, ⟨0, .box x.cells⟩, ⟨0, .loop (sl162 x) [10, 11] L122_0 L122_1 (if s.1 ≤ 256 then none else some .ret)⟩]
def step162 (s : Nat × Nat) (d : Nat) (_ : Ex) : Nat × Nat := (s.1 + 1, max s.2 d)
def run162 (s : Nat × Nat) : Bool := decide (s.1 ≤ 256)
theorem calm_loop {h : H} {k g : Nat} {sl : List V} {ps : List Nat} {a b : C} {p : Option X} (hc : calm h) (hk : h[k]? = some ⟨g, .loop sl ps a b p⟩) (p' : Option X) : calm (h.set k ⟨g, .loop sl ps a b p'⟩) := by
  rw [calm_iff] at hc ⊢
  have h1 := hc _ (List.mem_of_getElem? hk)
  intro o ho
  rw [List.length_set]
  rcases List.mem_or_eq_of_mem_set ho with ho | rfl
  · exact hc o ho
  · simp only [scrubO, Ob.mk.injEq, K.loop.injEq, and_true, true_and] at h1 ⊢
    exact h1
theorem yld162 (x : Ex) : Yld step162 run162 7 (fun s => m7 x s ++ two202 7) := by
  refine ⟨fun s => rfl, fun s => rfl, fun s => rfl, fun s d y r hrun hd hy hr => ?_⟩
  have h256 : s.1 ≤ 256 := by simpa [run162] using hrun
  have e1 : ev pg (.code L122_0 ⟨setMany (sl162 x) [10, 11] [num d, y.v], (m7 x s ++ two202 7) ++ r⟩) = some { st := ⟨setS (setS (setS (sl162 x) 10 (num d)) 11 y.v) 7 (num d), (m7 x s ++ two202 7) ++ r⟩ } := by
    simp [L122_0]
  have wa := wrap_id (n := (s.1 : Int) + 1) (by omega) (by omega)
  have hd' : ¬ ((16 : Int) < (d : Int)) := by omega
  have e2 : ∃ S2, ev pg (.code L122_1 ⟨setS (setS (setS (sl162 x) 10 (num d)) 11 y.v) 7 (num d), ((m7 x s ++ two202 7) ++ r).set 7 ⟨0, .loop (sl162 x) [10, 11] L122_0 L122_1 (some .normal)⟩⟩) = some { x := if s.1 + 1 ≤ 256 then .normal else .ret, st := ⟨S2, ((m7 x (step162 s d y) ++ two202 7) ++ r).set 7 ⟨0, .loop (sl162 x) [10, 11] L122_0 L122_1 (some .normal)⟩⟩ } := by
    by_cases h : s.1 + 1 ≤ 256
    · have h' : ¬ ((256 : Int) < (s.1 : Int) + 1) := by omega
      simp [m7, L122_1, step162, wa, h, h', hd']
      split <;> omega
    · have h' : (256 : Int) < (s.1 : Int) + 1 := by omega
      simp [m7, L122_1, step162, wa, h, h']
      split <;> omega
  obtain ⟨S2, e2⟩ := e2
  have hr2 := hr (step162 s d y)
  have hcl := calm_loop hr2 (k := 7) (g := 0) (sl := sl162 x) (ps := [10, 11]) (a := L122_0) (b := L122_1) (p := if (step162 s d y).1 ≤ 256 then none else some .ret) rfl (some .normal)
  have hck := calm_cutK hcl
  rw [List.length_set] at hck
  have hlen : ((m7 x s ++ two202 7) ++ r : H).length = ((m7 x (step162 s d y) ++ two202 7) ++ r : H).length := rfl
  rw [← hlen] at hck
  have hy2 := ev_yld2 (P := pg) (l := 7) (args := [num d, y.v]) (h := (m7 x s ++ two202 7) ++ r) (g := 0) (sl := sl162 x) (ps := [10, 11]) (a := L122_0) (b := L122_1) (by simp [m7, h256]) rfl e1 (g1 := 0) (sl1 := sl162 x) (ps1 := [10, 11]) (a1 := L122_0) (b1 := L122_1) (by simp [m7, h256]) e2 (g2 := 0) (sl2 := sl162 x) (ps2 := [10, 11]) (as2 := L122_0) (bd2 := L122_1) (p2 := some .normal) (by
    rw [hck]; rfl)
  rw [hck] at hy2
  rw [hy2]
  by_cases h : s.1 + 1 ≤ 256
  · simp [run162, step162, h, m7]
  · simp [run162, step162, h, m7]
theorem walk162 : ∀ (x : Ex) (d : Nat) (s : Nat × Nat), s.1 + x.nodes ≤ 256 → walkE step162 run162 d x s = (s.1 + x.nodes, max s.2 (d + x.depth - 1)) := by
  refine Ex.ind fun x ih d s hs => ?_
  have hn := nodes_eq x
  have hd := depth_eq x
  have hl : ∀ (l : List Ex) (s : Nat × Nat), (∀ y ∈ l, y ∈ x.args) → d ≤ s.2 → s.1 + nodesL l ≤ 256 → walkLs step162 run162 (d + 1) l s = (s.1 + nodesL l, max s.2 (d + depthL l)) := by
    intro l
    induction l with
    | nil =>
      intro s _ hds h
      have e : max s.2 d = s.2 := by omega
      simp [walkLs, nodesL, depthL, e]
    | cons y l ihl =>
      intro s hsub hds h
      rw [nodesL] at h
      rw [walkLs, ih y (hsub y (by simp)) (d + 1) s (by omega)]
      have hrun : run162 (s.1 + y.nodes, max s.2 (d + 1 + y.depth - 1)) = true := by simp [run162]; omega
      rw [if_pos hrun, ihl _ (fun z hz => hsub z (by simp [hz])) (by simp only; omega) (by simp only; omega)]
      have hyp := depth_pos y
      rw [nodesL, depthL]
      simp only [Prod.mk.injEq]
      omega
  rw [walkE_eq]
  have hrun : run162 (step162 s d x) = true := by
    have := nodes_pos x
    simp [run162, step162]; omega
  rw [if_pos hrun, hl x.args _ (fun y hy => hy) (by simp only [step162]; omega) (by simp only [step162]; omega), hn, hd]
  simp only [step162, Prod.mk.injEq]
  omega
end Go.Proofs.YtopjiafdimoeiaaGreat
