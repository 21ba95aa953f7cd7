/- Memory in which nothing above is held: what is cut off above it leaves it as it is. -/
import Derived.Test.YtopjiafdimoeiaaGreatEx3
import Derived.Test.YtopjiafdimoeiaaGreatEn2
namespace Go.Proofs.YtopjiafdimoeiaaGreat
open Go Go.Am Go.Proofs
set_option maxRecDepth 100000
def calm (h : H) : Prop := h.map (scrubO h.length) = h
theorem scrub1_low {n : Nat} {v : V} (h : scrub1 n v = v) : v.low n = true := by
  unfold scrub1 at h
  split at h
  · assumption
  · rw [← h]; rfl
theorem lowL_of {n : Nat} : ∀ {l : List V}, l.map (scrub1 n) = l → lowL n l = true
  | [], _ => rfl
  | v :: l, h => by
    simp only [List.map_cons, List.cons.injEq] at h
    simp only [lowL, scrub1_low h.1, lowL_of h.2, Bool.and_self]
theorem scrubO_mono {m n : Nat} (hmn : m ≤ n) {o : Ob} (h : scrubO m o = o) : scrubO n o = o := by
  unfold scrubO at h ⊢
  split <;> rename_i hk <;> simp only [hk] at h ⊢
  · rename_i cells
    have h2 := congrArg Ob.k h
    simp only [hk, K.box.injEq] at h2
    rw [scrub_low (lowL_mono hmn _ (lowL_of h2))]
    rw [← hk]
  · rename_i sl ps a b p
    have h2 := congrArg Ob.k h
    simp only [hk, K.loop.injEq, and_true] at h2
    rw [scrub_low (lowL_mono hmn _ (lowL_of h2))]
    rw [← hk]
theorem map_id_of {h : H} {f : Ob → Ob} : (h.map f = h) ↔ ∀ o ∈ h, f o = o := by
  induction h with
  | nil => simp
  | cons o h ih => simp [ih]
theorem calm_iff {h : H} : calm h ↔ ∀ o ∈ h, scrubO h.length o = o := map_id_of
theorem calm_app {h r : H} (hc : calm h) (hr : ∀ o ∈ r, scrubO (h.length + r.length) o = o) : calm (h ++ r) := by
  rw [calm_iff] at hc ⊢
  intro o ho
  rw [List.length_append]
  rcases List.mem_append.1 ho with ho | ho
  · exact scrubO_mono (Nat.le_add_right _ _) (hc o ho)
  · exact hr o ho
theorem cutH_app {h : H} (hc : calm h) (r : H) : cutH h.length (h ++ r) = h := by
  unfold cutH
  rw [List.take_left]
  exact hc
theorem okCut_app {h : H} (hc : calm h) (r : H) : okCut h.length (h ++ r) = true := by
  unfold okCut
  rw [List.take_left, List.all_eq_true]
  intro o ho
  have h1 := calm_iff.1 hc o ho
  unfold scrubO at h1
  split <;> try rfl
  rename_i cells hk
  rw [hk] at h1
  simp only at h1
  have h2 := congrArg Ob.k h1
  simp only [hk, K.box.injEq] at h2
  exact lowL_of h2
theorem cutL_app {h : H} (hc : calm h) (r : H) : cutL h.length (h ++ r) = h := by
  unfold cutL
  rw [if_pos (okCut_app hc r), cutH_app hc]
theorem cutK_app {h : H} (hc : calm h) (r : H) : cutK h.length (h ++ r) = h := by
  unfold cutK
  rw [if_pos (okCut_app hc r), cutH_app hc]
theorem calm_cutL {h : H} (hc : calm h) : cutL h.length h = h := by
  have := cutL_app hc []
  rwa [List.append_nil] at this
theorem calm_cutK {h : H} (hc : calm h) : cutK h.length h = h := by
  have := cutK_app hc []
  rwa [List.append_nil] at this
/-! ### no slot is a nil slice -/
def noNil (s : List V) : Prop := ∀ v ∈ s, v ≠ .nils
theorem noNil_get : ∀ {s : List V}, noNil s → ∀ j, getS s j ≠ .nils
  | [], _, j => by simp [getS]
  | v :: s, h, 0 => h v (by simp)
  | v :: s, h, j + 1 => noNil_get (s := s) (fun w hw => h w (by simp [hw])) j
theorem noNil_set : ∀ {s : List V} {k : Nat} {v : V}, noNil s → v ≠ .nils → noNil (setS s k v)
  | [], _, _, h, _ => h
  | x :: s, 0, v, h, hv => fun w hw => by
    rcases List.mem_cons.1 hw with rfl | hw
    · exact hv
    · exact h w (by simp [hw])
  | x :: s, k + 1, v, h, hv => fun w hw => by
    rcases List.mem_cons.1 hw with rfl | hw
    · exact h w (by simp)
    · exact noNil_set (s := s) (k := k) (fun u hu => h u (by simp [hu])) hv w hw
@[simp] theorem getS_scrub (n : Nat) : ∀ (s : List V) (k : Nat), getS (s.map (scrub1 n)) k = scrub1 n (getS s k)
  | [], k => by simp [getS]
  | v :: s, 0 => rfl
  | v :: s, k + 1 => by simp only [List.map_cons, getS]; exact getS_scrub n s k
theorem noNil_scrub {n : Nat} {s : List V} (h : noNil s) : noNil (s.map (scrub1 n)) := by
  intro v hv
  obtain ⟨w, hw, rfl⟩ := List.mem_map.1 hv
  have := h w hw
  unfold scrub1
  split
  · exact this
  · simp
@[simp] theorem ite_nils {p : Prop} [Decidable p] {v : V} : ((if p then v else V.undef) = .nils) ↔ (p ∧ v = .nils) := by
  split <;> simp_all
/-! ### loops that are asked, and ask -/
theorem ev_yld2 {P : Prg} {l : Nat} {args : List V} {h : H} {g : Nat} {sl : List V} {ps : List Nat} {a b : C} (hl : h[l]? = some ⟨g, .loop sl ps a b none⟩) (hn : args.length = ps.length) {s1 : List V} {h1 : H} (e1 : ev P (.code a ⟨setMany sl ps args, h⟩) = some { st := ⟨s1, h1⟩ }) {g1 : Nat} {sl1 : List V} {ps1 : List Nat} {a1 b1 : C} (hl1 : h1[l]? = some ⟨g1, .loop sl1 ps1 a1 b1 none⟩) {r2 : R} (e2 : ev P (.code b ⟨s1, h1.set l ⟨g1, .loop sl1 ps1 a1 b1 (some .normal)⟩⟩) = some r2) {g2 : Nat} {sl2 : List V} {ps2 : List Nat} {as2 bd2 : C} {p2 : Option X} (h3 : (cutK h.length r2.st.h)[l]? = some ⟨g2, .loop sl2 ps2 as2 bd2 p2⟩) : ev P (.call (.yld l) args h) = some { v := .bool (decide (r2.x = .normal)), st := ⟨[], (cutK h.length r2.st.h).set l ⟨g2, .loop sl2 ps2 as2 bd2 (if r2.x = .normal then none else some r2.x)⟩⟩ } := by
  rw [ev_eq]
  simp only [stepQ, hl, hn, if_true, e1, hl1, e2, h3]
  cases r2.x <;> rfl
theorem ev_range {P : Prg} (f : A) (ps : List Nat) (a b : C) (st : St) : ev P (.code (.range f ps a b) st) = (match f.ev (adoptS st).s with
    | .fn fid first caps =>
      match ev P (.call (.fn fid first caps) [.yld (adoptS st).h.length] ((adoptS st).h ++ [⟨0, .loop (adoptS st).s ps a b none⟩])) with
      | some r => match r.st.h[(adoptS st).h.length]? with
        | some ⟨g, .loop sl2 ps2 as2 bd2 p⟩ =>
          match p with
          | none => some { st := ⟨(adoptS st).s, cutK (adoptS st).h.length (r.st.h.set (adoptS st).h.length ⟨g, .loop sl2 ps2 as2 bd2 (some .normal)⟩)⟩ }
          | some .normal => none
          | some x => some { x := x, st := ⟨(adoptS st).s, cutK (adoptS st).h.length (r.st.h.set (adoptS st).h.length ⟨g, .loop sl2 ps2 as2 bd2 (some .normal)⟩)⟩ }
        | _ => none
      | none => none
    | _ => none) := by rw [ev_eq]; rfl
end Go.Proofs.YtopjiafdimoeiaaGreat
