/- A line that is stuck where it is: what the law says, with no program in sight. The law of states that are carried over holds of Am. -/
import Derived.Test.YtopjiafdimoeiaaGreatGa1
import Derived.Test.YtopjiafdimoeiaaGreatCa1
/- A line that is stuck where it is: what the law says, with no program in sight. -/
namespace Go.Proofs.YtopjiafdimoeiaaGreat
open Go Go.Am Go.Proofs
set_option maxRecDepth 100000
/-! ### values of expressions depend on what occurs in them -/
theorem occ_args {x y : Ex} {v : Int} (ho : x.op ≠ 1) (hy : y ∈ x.args) (h : y.occ v = true) : x.occ v = true := by
  rw [occ_eq, if_neg ho]
  have : ∀ l : List Ex, y ∈ l → occL v l = true := by
    intro l
    induction l with
    | nil => intro h; cases h
    | cons z l ih =>
      intro hm
      rw [occL]
      rcases List.mem_cons.1 hm with rfl | hm
      · rw [h]; rfl
      · rw [ih hm, Bool.or_true]
  exact this _ hy
theorem holds_congr {N : Int} {M M' : List Bool} : ∀ x : Ex, x.err N = 0 → (∀ v : Nat, x.occ v = true → M[v]? = M'[v]?) → x.holds M = x.holds M' := by
  refine Ex.ind fun x ih he h => ?_
  obtain ⟨hn, hargs⟩ := err_zero he
  rw [holds_eq, holds_eq]
  by_cases h1 : x.op = 1
  · obtain ⟨hi0, _⟩ := node_var hn h1
    have := h x.idx.toNat (by rw [occ_eq, if_pos h1, Int.toNat_of_nonneg hi0]; simp)
    rw [h1, this]
    simp
  · have hm : x.args.map (Ex.holds M) = x.args.map (Ex.holds M') := List.map_congr_left fun y hy => ih y hy (hargs y hy) fun v hv => h v (occ_args h1 hy hv)
    rw [if_neg h1, if_neg h1, hm]
theorem occ_lt {N : Nat} : ∀ x : Ex, x.err N = 0 → ∀ v : Nat, x.occ v = true → v < N := by
  refine Ex.ind fun x ih he v hv => ?_
  obtain ⟨hn, hargs⟩ := err_zero he
  rw [occ_eq] at hv
  by_cases h1 : x.op = 1
  · obtain ⟨_, hi1⟩ := node_var hn h1
    rw [if_pos h1] at hv
    have : x.idx = v := by simpa using hv
    omega
  · rw [if_neg h1] at hv
    have : ∀ l : List Ex, occL v l = true → ∃ y ∈ l, y.occ v = true := by
      intro l
      induction l with
      | nil => intro h; simp [occL] at h
      | cons z l ihl =>
        intro h
        rw [occL, Bool.or_eq_true] at h
        rcases h with h | h
        · exact ⟨z, by simp, h⟩
        · obtain ⟨y, hy, hh⟩ := ihl h
          exact ⟨y, by simp [hy], hh⟩
    obtain ⟨y, hy, hh⟩ := this _ hv
    exact ih y hy (hargs y hy) v hh
theorem holds_take {N : Nat} {M : List Bool} {x : Ex} (he : x.err N = 0) : x.holds M = x.holds (M.take N) :=
  holds_congr x he fun v hv => by rw [List.getElem?_take, if_pos (occ_lt x he v hv)]
theorem repl_holds {N : Int} {line : Nat} {v : Int} {M : List Bool} {b : Bool} (hb : M[line]? = some b) (hv : (v == 1) = b) : ∀ x : Ex, x.err N = 0 → (x.repl line v).holds M = x.holds M := by
  refine Ex.ind fun x ih he => ?_
  obtain ⟨hn, hargs⟩ := err_zero he
  rw [repl_eq]
  by_cases h : x.op = 1 ∧ x.idx = line
  · rw [if_pos h, holds_eq M x, if_neg (by omega), if_pos h.1, h.2]
    rw [holds_eq]
    simp [Ex.op, Ex.idx, hb, ← hv]
  · rw [if_neg h, holds_eq M x, holds_eq, replL_map]
    have e1 : ∀ l, (Ex.mk x.op x.idx l).op = x.op := fun _ => rfl
    have e2 : ∀ l, (Ex.mk x.op x.idx l).idx = x.idx := fun _ => rfl
    have e3 : ∀ l, (Ex.mk x.op x.idx l).args = l := fun _ => rfl
    have hm : (x.args.map (Ex.repl line v)).map (Ex.holds M) = x.args.map (Ex.holds M) := by
      rw [List.map_map]
      exact List.map_congr_left fun y hy => ih y hy (hargs y hy)
    rw [e1, e2, e3, hm]
/-! ### gates -/
theorem gateStep_no {c : Ct} {F i v : Nat} {L : List Bool} (h : v ≠ F + i ∨ (∀ x, c.signals[i]? = some x → x.kind ≠ 0)) : (gateStep c F i L)[v]? = L[v]? := by
  unfold gateStep
  split
  · rename_i x hx
    split
    · rename_i h0
      rcases h with h | h
      · rw [List.getElem?_set_ne (by omega)]
      · exact absurd h0 (h x hx)
    · rfl
  · rfl
theorem gatesTo_low {c : Ct} {F v : Nat} {L : List Bool} (hv : v < F) : ∀ k, (gatesTo c F k L)[v]? = L[v]?
  | 0 => rfl
  | k + 1 => by rw [gatesTo, gateStep_no (.inl (by omega)), gatesTo_low hv k]
theorem gatesTo_keep {c : Ct} {F v k : Nat} {L : List Bool} (h : ∀ j, k ≤ j → v ≠ F + j ∨ (∀ x, c.signals[j]? = some x → x.kind ≠ 0)) : ∀ d, (gatesTo c F (k + d) L)[v]? = (gatesTo c F k L)[v]?
  | 0 => rfl
  | d + 1 => by rw [← Nat.add_assoc, gatesTo, gateStep_no (h (k + d) (by omega)), gatesTo_keep h d]
/-- A gate of a right control uses no gate that is not before it. -/
def GatesIn (c : Ct) (F N : Nat) : Prop := ∀ (i : Nat) (x : Sg), c.signals[i]? = some x → x.on.err N = 0 ∧ (x.kind = 0 → ∀ (j : Nat) (y : Sg), i ≤ j → c.signals[j]? = some y → y.kind = 0 → x.on.occ (F + j : Nat) = false)
theorem gates_fix {c : Ct} {F N : Nat} (hg : GatesIn c F N) {L : List Bool} {i : Nat} {x : Sg} (hi : c.signals[i]? = some x) (h0 : x.kind = 0) (hF : F + i < L.length) : (gatesTo c F c.signals.length L)[F + i]? = some (x.on.holds (gatesTo c F c.signals.length L)) := by
  have hil : i < c.signals.length := by
    rcases Nat.lt_or_ge i c.signals.length with h | h
    · exact h
    · rw [List.getElem?_eq_none h] at hi; cases hi
  obtain ⟨d, hd⟩ : ∃ d, c.signals.length = (i + 1) + d := ⟨c.signals.length - (i + 1), by omega⟩
  have h1 : (gatesTo c F c.signals.length L)[F + i]? = (gatesTo c F (i + 1) L)[F + i]? := by
    rw [hd]
    exact gatesTo_keep (fun j hj => .inl (by omega)) d
  have h2 : (gatesTo c F (i + 1) L)[F + i]? = some (x.on.holds (gatesTo c F i L)) := by
    rw [gatesTo, gateStep, hi]
    simp only [h0, if_true]
    rw [List.getElem?_set_self (by rw [gatesTo_len]; exact hF)]
  have h3 : x.on.holds (gatesTo c F i L) = x.on.holds (gatesTo c F c.signals.length L) := by
    refine (holds_congr x.on (hg i x hi).1 fun v hv => ?_).symm
    have : c.signals.length = i + (d + 1) := by omega
    rw [this]
    refine gatesTo_keep (fun j hj => ?_) (d + 1)
    by_cases hvj : v = F + j
    · refine .inr fun y hy hk => ?_
      have := (hg i x hi).2 h0 j y hj hy hk
      rw [← hvj, hv] at this
      cases this
    · exact .inl hvj
  rw [h1, h2, h3]
theorem gated_lines (c : Ct) (s : Ste) : linesV (gated c s) = gatesL c s := by
  have h1 : (gatesL c s).take (firstS s) = endsB s.ends ++ s.inputs := by
    refine List.ext_getElem? fun v => ?_
    rw [List.getElem?_take]
    by_cases hv : v < firstS s
    · rw [if_pos hv, gatesL, gatesTo_low hv]
      unfold linesV
      rw [List.getElem?_append_left (by rw [List.length_append, endsB_len]; exact hv)]
    · rw [if_neg hv, List.getElem?_eq_none (by rw [List.length_append, endsB_len]; unfold firstS at hv; omega)]
  unfold gated
  show endsB s.ends ++ s.inputs ++ (gatesL c s).drop (firstS s) = _
  rw [← h1, List.take_append_drop]
/-- Where each gate has its value, computing another control's gates changes nothing, if these have the same values there. -/
theorem gates_same {c d : Ct} {F : Nat} {L w : List Bool} (hL : L.length = F + c.signals.length)
    (hd : ∀ k x, k < c.signals.length → d.signals[k]? = some x → x.kind = 0 → ∀ M : List Bool, M.take L.length = L → L[F + k]? = some (x.on.holds M)) : ∀ k, (gatesTo d F k (L ++ w)).take L.length = L
  | 0 => List.take_left' rfl
  | k + 1 => by
    have ih := gates_same hL hd k (w := w)
    have hlen := gatesTo_len d F (L ++ w) k
    rw [gatesTo]
    unfold gateStep
    split
    · rename_i x hx
      split
      · rename_i h0
        refine List.ext_getElem? fun v => ?_
        rw [List.getElem?_take]
        by_cases hv : v < L.length
        · rw [if_pos hv]
          by_cases hvk : v = F + k
          · subst hvk
            rw [List.getElem?_set_self (by rw [hlen, List.length_append]; omega), hd k x (by omega) hx h0 _ ih]
          · rw [List.getElem?_set_ne (by omega)]
            have := congrArg (fun l => l[v]?) ih
            simp only [List.getElem?_take, if_pos hv] at this
            exact this
        · rw [if_neg hv, List.getElem?_eq_none (by omega)]
      · exact ih
    · exact ih
end Go.Proofs.YtopjiafdimoeiaaGreat
/- The law of states that are carried over holds of Am. -/
namespace Go.Proofs.YtopjiafdimoeiaaGreat
open Go Go.Am Go.Proofs
set_option maxRecDepth 100000
theorem carD_small {c : Ct} {s : Ste} (h : s.few = true) (k i : Int) : (carD c k i s).small := by
  obtain ⟨h1, h2, h3, h4, h5⟩ := fewS_parts h
  have hw := w_two c k i
  unfold carD
  split
  · unfold carS
    exact ⟨by simp only; omega, by simp only; omega, by simp only; omega, by simp only [List.length_append]; omega, by simp only [List.length_append, List.length_replicate]; omega⟩
  · exact ⟨by simp [zeroS], by simp [zeroS], by simp [zeroS], by simp [zeroS], by simp [zeroS]⟩
end Go.Proofs.YtopjiafdimoeiaaGreat
