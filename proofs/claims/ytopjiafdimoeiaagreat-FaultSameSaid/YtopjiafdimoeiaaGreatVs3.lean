/- The errors of an expression, by the program. -/
import Derived.Test.YtopjiafdimoeiaaGreatVs2
namespace Go.Proofs.YtopjiafdimoeiaaGreat
open Go Go.Am Go.Proofs
set_option maxRecDepth 100000
theorem ev124 (x : Ex) (h : H) : ev pg (.call (.fn 124 [] []) [x.v] h) = some { v := .fn 132 [] [.bptr h.length 0], st := ⟨[], h ++ [⟨0, .box x.cells⟩]⟩ } := by
  rw [ev_call, pg124]
  simp [ir124]
theorem ev122 (x : Ex) (hx : x.light = true) : ev pg (.call (.fn 122 [] []) [x.v] []) = some { v := .tup [num x.nodes, num x.depth, .bool true], st := ⟨[], []⟩ } := by
  obtain ⟨h1, h2⟩ := light_nodes hx
  have hd := depth_pos x
  have h187 := ev124 x
  have h201 := ev132 (yld162 x) (fun _ => rfl) (fun s => by simp [calm, m7, scrubO]) x 6 (fun _ => rfl) hx (0, 0) rfl
  rw [walk162 x 1 (0, 0) (by simp only; omega)] at h201
  have hm : max 0 (1 + x.depth - 1) = x.depth := by omega
  rw [hm] at h201
  simp [m7, h1] at h201
  rw [ev_call, pg122]
  simp [ir122, h187, ev_range, h201, ev_draw1, exT, chkOk]
abbrev sl157 (x : Ex) (n : Int) : List V := [x.v, num n, .bptr 0 0, .bptr 1 0, .bptr 2 0, num x.nodes, num x.depth, .bool true, .undef, .undef, .undef, num n, .bool false, .bool false, num n, .bool false, .bool false, .tup [num x.nodes, num x.depth, .bool true], x.v, .tup [num x.nodes, num x.depth, .bool true], num x.nodes, num x.depth, .bool true, .bool true, .bool false, x.v, .fn 132 [] [.bptr 3 0], .undef, .undef, .undef, .undef, .undef, .undef, .undef, .undef]
def m4 (x : Ex) (n : Int) (e : Int) : H := [⟨0, .box x.cells⟩, ⟨0, .box [num n]⟩, ⟨0, .box [num e]⟩, ⟨0, .box x.cells⟩, ⟨0, .loop (sl157 x n) [27, 28] L111_0 L111_1 (if e = 0 then none else some .ret)⟩]
def step157 (n : Int) (_ : Int) (_ : Nat) (y : Ex) : Int := nodeE y.op y.idx y.args.length n
def run157 (e : Int) : Bool := decide (e = 0)
abbrev twoY (y : Ex) : H := [⟨0, .arr 0 []⟩, ⟨0, .box y.cells⟩]
theorem yld157 (x : Ex) (n : Int) (hn : 0 ≤ n ∧ n ≤ 256) : Yld (step157 n) run157 4 (fun e => m4 x n e ++ two202 4) := by
  refine ⟨fun s => rfl, fun s => rfl, fun s => rfl, fun s d y r hrun hd hy hr => ?_⟩
  obtain rfl : s = 0 := by simpa [run157] using hrun
  have h188 := ev125 y n hy hn
  have e1 : ∃ S1, getS S1 3 = .bptr 1 0 ∧ getS S1 4 = .bptr 2 0 ∧ getS S1 9 = .bptr (7 + r.length + 1) 0 ∧ S1.length = 35 ∧ ev pg (.code L111_0 ⟨setMany (sl157 x n) [27, 28] [num d, y.v], (m4 x n 0 ++ two202 4) ++ r⟩) = some { st := ⟨S1, ((m4 x n 0 ++ two202 4) ++ r) ++ [⟨0, .arr 0 []⟩, ⟨0, .box y.cells⟩]⟩ } := by
    have hl0 : ((m4 x n 0 ++ two202 4) ++ r : H).length = 7 + r.length := by simp [m4]; omega
    generalize (m4 x n 0 ++ two202 4) ++ r = G at *
    have t1 := set1 hl0
    simp [L111_0, hl0, t1]
    exact ⟨_, rfl, rfl, rfl, rfl, rfl⟩
  obtain ⟨S1, g3, g4, g9, hl, e1⟩ := e1
  have e2 : ∃ S2, ev pg (.code L111_1 ⟨S1, (((m4 x n 0 ++ two202 4) ++ r) ++ twoY y).set 4 ⟨0, .loop (sl157 x n) [27, 28] L111_0 L111_1 (some .normal)⟩⟩) = some { x := if nodeE y.op y.idx y.args.length n = 0 then .normal else .ret, st := ⟨S2, (((m4 x n (nodeE y.op y.idx y.args.length n) ++ two202 4) ++ r).set 4 ⟨0, .loop (sl157 x n) [27, 28] L111_0 L111_1 (some .normal)⟩) ++ twoY y⟩ } := by
    generalize nodeE y.op y.idx y.args.length n = e at *
    have k1 : (((m4 x n 0 ++ two202 4) ++ r).set 4 ⟨0, .loop (sl157 x n) [27, 28] L111_0 L111_1 (some .normal)⟩)[1]? = some ⟨0, .box [num n]⟩ := rfl
    have k2 : (((m4 x n 0 ++ two202 4) ++ r).set 4 ⟨0, .loop (sl157 x n) [27, 28] L111_0 L111_1 (some .normal)⟩)[2]? = some ⟨0, .box [num 0]⟩ := rfl
    have hl0 : (((m4 x n 0 ++ two202 4) ++ r).set 4 ⟨0, .loop (sl157 x n) [27, 28] L111_0 L111_1 (some .normal)⟩ : H).length = 7 + r.length := by simp [m4]; omega
    have s2 : ∀ z, ((((m4 x n 0 ++ two202 4) ++ r).set 4 ⟨0, .loop (sl157 x n) [27, 28] L111_0 L111_1 (some .normal)⟩) ++ z).set 2 ⟨0, .box [num e]⟩ = ((m4 x n e ++ two202 4) ++ r).set 4 ⟨0, .loop (sl157 x n) [27, 28] L111_0 L111_1 (some .normal)⟩ ++ z := fun z => rfl
    have h0 : e = 0 → ((m4 x n 0 ++ two202 4) ++ r).set 4 ⟨0, .loop (sl157 x n) [27, 28] L111_0 L111_1 (some .normal)⟩ = ((m4 x n e ++ two202 4) ++ r).set 4 ⟨0, .loop (sl157 x n) [27, 28] L111_0 L111_1 (some .normal)⟩ := fun h => by rw [h]
    rw [List.set_append_left _ _ (by simp [m4])]
    generalize ((m4 x n 0 ++ two202 4) ++ r).set 4 ⟨0, .loop (sl157 x n) [27, 28] L111_0 L111_1 (some .normal)⟩ = G at *
    generalize ((m4 x n e ++ two202 4) ++ r).set 4 ⟨0, .loop (sl157 x n) [27, 28] L111_0 L111_1 (some .normal)⟩ = G2 at *
    have a1 := app1 hl0
    have k1' := fun z => app_low z k1
    have k2' := fun z => app_low z k2
    rw [getS_expand hl]
    by_cases he : e = 0
    · rw [h0 he] at *
      simp [-getElem?_pos, L111_1, List.range, List.range.loop, g3, g4, g9, a1, k1', h188, he]
    · simp [-getElem?_pos, L111_1, List.range, List.range.loop, g3, g4, g9, a1, k1', k2', s2, h188, he]
  obtain ⟨S2, e2⟩ := e2
  have hr2 := hr (step157 n 0 d y)
  have hcl := calm_loop hr2 (k := 4) (g := 0) (sl := sl157 x n) (ps := [27, 28]) (a := L111_0) (b := L111_1) (p := if step157 n 0 d y = 0 then none else some .ret) rfl (some .normal)
  have hck := cutK_app hcl [⟨0, .arr 0 []⟩, ⟨0, .box y.cells⟩]
  rw [List.length_set] at hck
  have hlen : ((m4 x n 0 ++ two202 4) ++ r : H).length = ((m4 x n (step157 n 0 d y) ++ two202 4) ++ r : H).length := rfl
  rw [← hlen] at hck
  have hy2 := ev_yld2 (P := pg) (l := 4) (args := [num d, y.v]) (h := (m4 x n 0 ++ two202 4) ++ r) (g := 0) (sl := sl157 x n) (ps := [27, 28]) (a := L111_0) (b := L111_1) (by simp [m4]) rfl e1 (g1 := 0) (sl1 := sl157 x n) (ps1 := [27, 28]) (a1 := L111_0) (b1 := L111_1) (by simp [m4]) e2 (g2 := 0) (sl2 := sl157 x n) (ps2 := [27, 28]) (as2 := L111_0) (bd2 := L111_1) (p2 := some .normal) (by
    show (cutK _ (((m4 x n (step157 n 0 d y) ++ two202 4) ++ r).set 4 _ ++ _))[4]? = _
    rw [hck]; rfl)
  rw [hy2]
  show some ({ v := _, st := ⟨[], (cutK _ (((m4 x n (step157 n 0 d y) ++ two202 4) ++ r).set 4 _ ++ _)).set 4 _⟩ } : Am.R) = _
  rw [hck]
  by_cases h : nodeE y.op y.idx y.args.length n = 0
  · simp [run157, step157, h, m4]
  · simp [run157, step157, h, m4]
theorem walk157 (n : Int) : ∀ (x : Ex) (d : Nat) (e : Int), walkE (step157 n) run157 d x e = x.err n := by
  refine Ex.ind fun x ih d e => ?_
  rw [walkE_eq, err_eq]
  have hl : ∀ (l : List Ex), (∀ y ∈ l, y ∈ x.args) → walkLs (step157 n) run157 (d + 1) l 0 = errL n l := by
    intro l
    induction l with
    | nil => intro _; simp [walkLs, errL]
    | cons y l ihl =>
      intro hsub
      rw [walkLs, ih y (hsub y (by simp)), errL]
      by_cases h : y.err n = 0
      · rw [h, if_pos (by rfl), if_pos rfl]
        exact ihl fun z hz => hsub z (by simp [hz])
      · rw [if_neg (by simp [run157, h]), if_neg h]
  show (if run157 (nodeE x.op x.idx x.args.length n) = true then walkLs (step157 n) run157 (d + 1) x.args (nodeE x.op x.idx x.args.length n) else nodeE x.op x.idx x.args.length n) = _
  by_cases h : nodeE x.op x.idx x.args.length n = 0
  · rw [h, if_pos rfl]
    show walkLs (step157 n) run157 (d + 1) x.args 0 = _
    exact hl x.args fun y hy => hy
  · rw [if_neg (by simp [run157, h]), if_neg h]
theorem ev111 (x : Ex) (n : Int) (hx : x.light = true) : ev pg (.call (.fn 111 [] []) [x.v, num n] []) = some { v := num (x.check n), st := ⟨[], []⟩ } := by
  have h162 := ev122 x hx
  have h187 := ev124 x
  rw [ev_call, pg111]
  by_cases h1 : n < 0
  · simp [ir111, Ex.check, h1]
  · by_cases h2 : 256 < n
    · simp [ir111, Ex.check, h1, h2]
    · have h201 := ev132 (yld157 x n ⟨by omega, by omega⟩) (fun _ => rfl) (fun s => by simp [calm, m4, scrubO]) x 3 (fun _ => rfl) hx 0 rfl
      rw [walk157] at h201
      have hc : x.check n = x.err n := by simp [Ex.check, h1, h2, hx]
      rw [hc]
      generalize x.err n = e at *
      by_cases he : e = 0
      · subst he
        simp [m4] at h201
        simp [ir111, h1, h2, h162, h187, ev_range, h201]
      · simp [m4, he] at h201
        simp [ir111, h1, h2, h162, h187, ev_range, h201]
end Go.Proofs.YtopjiafdimoeiaaGreat
