/- The sorted list as a function; strokes gathered and sorted by the program; the normal form of steps. -/
import Derived.Test.YtopjiafdimoeiaaNl1
import Derived.Test.YtopjiafdimoeiaaWp3
namespace Go.Proofs.Ytopjiafdimoeiaa
open Go Go.Am Go.Proofs
set_option maxRecDepth 100000
def insS (x : Sk) : List Sk → List Sk
  | [] => [x]
  | y :: p => if x.act < y.act then x :: y :: p else y :: insS x p
def srt : List Sk → List Sk
  | [] => []
  | x :: l => insS x (srt l)
theorem insS_perm (x : Sk) : ∀ p : List Sk, (insS x p).Perm (x :: p)
  | [] => List.Perm.refl _
  | y :: p => by
    simp only [insS]
    split
    · exact List.Perm.refl _
    · exact ((insS_perm x p).cons y).trans (List.Perm.swap x y p)
theorem srt_perm : ∀ l : List Sk, (srt l).Perm l
  | [] => List.Perm.refl _
  | x :: l => (insS_perm x _).trans ((srt_perm l).cons x)
theorem insS_asc {x : Sk} : ∀ {p : List Sk}, asc p → (∀ y ∈ p, y.act ≠ x.act) → asc (insS x p)
  | [], _, _ => List.pairwise_singleton _ _
  | y :: p, h, hne => by
    obtain ⟨h1, h2⟩ := List.pairwise_cons.1 h
    simp only [insS]
    split
    · rename_i hlt
      refine List.Pairwise.cons (fun z hz => ?_) h
      rcases List.mem_cons.1 hz with rfl | hz
      · exact hlt
      · have := h1 z hz
        omega
    · rename_i hlt
      have hy := hne y (by simp)
      refine List.Pairwise.cons (fun z hz => ?_) (insS_asc h2 fun z hz => hne z (by simp [hz]))
      rcases List.mem_cons.1 ((insS_perm x p).mem_iff.1 hz) with rfl | hz
      · omega
      · exact h1 z hz
abbrev diff (l : List Sk) : Prop := l.Pairwise (fun a b => a.act ≠ b.act)
theorem srt_asc : ∀ {l : List Sk}, diff l → asc (srt l)
  | [], _ => List.Pairwise.nil
  | x :: l, h => by
    obtain ⟨h1, h2⟩ := List.pairwise_cons.1 h
    exact insS_asc (srt_asc h2) fun y hy e => h1 y ((srt_perm l).mem_iff.1 hy) e.symm
theorem srt_length (l : List Sk) : (srt l).length = l.length := (srt_perm l).length_eq
theorem diff_distinct {l : List Sk} (h : diff l) (hr : ∀ y ∈ l, 0 ≤ y.act ∧ y.act < 6) : distinct l := by
  refine ⟨fun i j x y hx hy e => ?_, hr⟩
  obtain ⟨hi, e1⟩ := List.getElem?_eq_some_iff.1 hx
  obtain ⟨hj, e2⟩ := List.getElem?_eq_some_iff.1 hy
  have hp := List.pairwise_iff_getElem.1 h
  rcases Nat.lt_trichotomy i j with hlt | he | hlt
  · have := hp i j hi hj hlt
    rw [e1, e2] at this
    exact absurd e this
  · exact he
  · have := hp j i hj hi hlt
    rw [e1, e2] at this
    exact absurd e.symm this
theorem diff_perm {p l : List Sk} (h : p.Perm l) (hd : diff l) : diff p := (List.Perm.pairwise_iff (fun hab e => hab e.symm) h).2 hd
theorem asc_diff {l : List Sk} (h : asc l) : diff l := h.imp fun hab e => by omega
theorem srt_unique {p l : List Sk} (h : p.Perm l) (hp : asc p) (hd : diff l) : p = srt l :=
  asc_unique (h.trans (srt_perm l).symm) hp (srt_asc hd)
theorem srt_of_asc {l : List Sk} (h : asc l) : srt l = l := (srt_unique (List.Perm.refl _) h (asc_diff h)).symm
theorem srt_of_perm {p l : List Sk} (h : p.Perm l) (hd : diff l) : srt p = srt l :=
  srt_unique ((srt_perm p).trans h) (srt_asc (diff_perm h hd)) hd
structure good (l : List Sk) : Prop where
  diff : Go.Proofs.Ytopjiafdimoeiaa.diff l
  rg : ∀ y ∈ l, 0 ≤ y.act ∧ y.act < 6
  six : l.length ≤ 6
/-! ### the program's sort -/
theorem ev97_srt (h : H) (id g : Nat) (l : List Sk) (hc : calm h) (ho : h[id]? = some ⟨g, .arr 2 (l.map Sk.row)⟩) (hl : good l) : ev pg (.call (.fn 97 [] []) [.sl id g 2 0 l.length, .fn 98 [] []] h) = some { v := .tup [], st := ⟨[], hS h id g (srt l)⟩ } := by
  obtain ⟨p, hpm, hpa, h97⟩ := ev97 h id g l hc ho (diff_distinct hl.diff hl.rg) hl.six
  rw [← srt_unique hpm hpa hl.diff]
  exact h97
theorem ev169_nil (h : H) (id g : Nat) (hc : calm h) : ev pg (.call (.fn 169 [] []) [.sl id g 0 0 0, num 0, num 0, .fn 98 [] []] h) = some { v := .tup [], st := ⟨[], h⟩ } := by
  have hcut := calm_cutK hc
  have w1 := wrap_id (n := 1) (by omega) (by omega)
  rw [ev_call, pg169]
  simp [-cutK, ir169, ev_loop, ev_going, L169_1, hcut, w1]
theorem ev138_nil (h : H) (id g : Nat) (v : Int) (hc : calm h) : ev pg (.call (.fn 138 [] []) [.sl id g 0 0 0, num 0, num 0, num v, .fn 98 [] []] h) = some { v := .tup [], st := ⟨[], h⟩ } := by
  have hcut := calm_cutK hc
  have h169 := ev169_nil h id g hc
  have w0 := wrap_id (n := 0) (by omega) (by omega)
  rw [ev_call, pg138]
  simp [-cutK, ir138, ev_loop, ev_going, L138_0, h169, hcut, w0]
theorem ev97_nil (h : H) (id g : Nat) (hc : calm h) : ev pg (.call (.fn 97 [] []) [.sl id g 0 0 0, .fn 98 [] []] h) = some { v := .tup [], st := ⟨[], h⟩ } := by
  have hcut := calm_cutK hc
  obtain ⟨v, h139⟩ := ev139 0 (by omega)
  have h138 := ev138_nil h id g v hc
  have wu := wrapU (n := 0) (by omega) (by omega)
  rw [ev_call, pg97]
  simp at h139
  simp [-cutK, ir97, h139, h138, hcut, wu]
/-! ### values, one after the other -/
theorem ev144 (l : List Sk) (h : H) : ev pg (.call (.fn 144 [] []) [words l] h) = some { v := .fn 184 [] [.bptr h.length 0], st := ⟨[], h ++ [⟨0, .box [words l]⟩]⟩ } := by
  rw [ev_call, pg144]
  simp [ir144]
end Go.Proofs.Ytopjiafdimoeiaa
