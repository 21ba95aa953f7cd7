/- What comes in is a pure value of its type: types that may be parts of themselves. -/
import Derived.Test.YtopjiafdimoeiaaGreatEn5
namespace Go.Am
open Go (World Value Addr Obj Program TypeId TypeDesc DataW MemPlace maxLen Lit)
/-- Types whose parts are among them. -/
def plainS (P : Program) (S : List TypeId) : Bool := S.all fun t => match P.underlying t with
  | some .bool | some (.int _) | some .string => P.cellsOf t == 1
  | some (.slice e) => P.cellsOf t == 1 && P.cellsOf e != 0 && S.contains e
  | some (.struct fs) => tilesL P fs.toList 0 == some (P.cellsOf t) && fs.toList.all fun f => S.contains f.type
  | _ => false
theorem read_okS {H : Type} {enc : TypeId × Value → H} {P : Program} {w : World} {base : Nat} {spare : Nat → Bool} {held : Bool} {S : List TypeId} (hS : plainS P S = true) : ∀ (n : Nat) (t : TypeId) (cs : List Value) (x : DataW H × List MemPlace), t ∈ S → DataW.trod enc P w base spare held n t cs = some x →
    ∃ vs, relL (oldE w) vs cs ∧ vs.all V.pcell = true ∧ Typed P n t vs ∧ cs.length = P.cellsOf t
  | 0, t, cs, x, _, h => by simp [DataW.trod] at h
  | n + 1, t, cs, x, hm, h => by
    have hp := List.all_eq_true.1 hS t hm
    split at hp
    · rename_i ht
      have hc : P.cellsOf t = 1 := by simpa using hp
      unfold DataW.trod at h
      rw [ht] at h
      obtain ⟨b, rfl⟩ : ∃ b, cs = [.bool b] := by
        rcases cs with _ | ⟨c, _ | ⟨c', cs⟩⟩
        · simp at h
        · cases c <;> simp at h
          exact ⟨_, rfl⟩
        · cases c <;> simp at h
      refine ⟨[.bool b], ?_, rfl, ?_, by simp [hc]⟩
      · unfold relL; exact ⟨_, _, rfl, by unfold rel; rfl, by unfold relL; rfl⟩
      · unfold Typed; rw [ht]; exact ⟨b, rfl⟩
    · rename_i k ht
      have hc : P.cellsOf t = 1 := by simpa using hp
      unfold DataW.trod at h
      rw [ht] at h
      obtain ⟨m, rfl, hwf⟩ : ∃ m, cs = [.int k m] ∧ (Lit.int k m).wf = true := by
        rcases cs with _ | ⟨c, _ | ⟨c', cs⟩⟩
        · simp at h
        · cases c <;> simp at h
          rename_i k' m
          obtain ⟨⟨rfl, h2⟩, _⟩ := h
          exact ⟨m, rfl, h2⟩
        · cases c <;> simp at h
      refine ⟨[.int k m], ?_, rfl, ?_, by simp [hc]⟩
      · unfold relL; exact ⟨_, _, rfl, by unfold rel; rfl, by unfold relL; rfl⟩
      · unfold Typed; rw [ht]; exact ⟨m, rfl, hwf⟩
    · rename_i ht
      have hc : P.cellsOf t = 1 := by simpa using hp
      unfold DataW.trod at h
      rw [ht] at h
      obtain ⟨b, rfl, hb⟩ : ∃ b : ByteArray, cs = [.string b] ∧ b.size ≤ maxLen := by
        rcases cs with _ | ⟨c, _ | ⟨c', cs⟩⟩
        · simp at h
        · cases c <;> simp at h
          exact ⟨_, rfl, h.1⟩
        · cases c <;> simp at h
      refine ⟨[.str b.data.toList], ?_, rfl, ?_, by simp [hc]⟩
      · unfold relL; exact ⟨_, _, rfl, by unfold rel; simp, by unfold relL; rfl⟩
      · unfold Typed; rw [ht]; exact ⟨_, rfl, by rw [Array.length_toList]; exact hb⟩
    · rename_i e ht
      simp only [Bool.and_eq_true, beq_iff_eq, bne_iff_ne] at hp
      obtain ⟨⟨hc, hce⟩, hpe⟩ := hp
      rcases DataW.trod_slice ht h with ⟨rfl, _⟩ | ⟨a, len, cap, elems, rest, n', hn', rfl, _, _, hlc, hcm, hlen', hel, _, _⟩
      · refine ⟨[.imm []], ?_, rfl, ?_, by simp [hc]⟩
        · unfold relL
          refine ⟨_, _, rfl, ?_, by unfold relL; rfl⟩
          unfold rel
          exact ⟨none, 0, rfl, Nat.le_refl _, rfl, .inl rfl⟩
        · unfold Typed; rw [ht]; exact ⟨[], rfl, Nat.zero_le _, fun r hr => by cases hr⟩
      · obtain rfl : n = n' := by omega
        -- the elements
        have each : ∀ i, i < len → ∃ (vs : List V) (cs' : List Value), w.cells? base (a.add (i * P.cellsOf e)) (P.cellsOf e) = some cs' ∧ relL (oldE w) vs cs' ∧ vs.all V.pcell = true ∧ Typed P n e vs ∧ cs'.length = P.cellsOf e := by
          intro i hi
          have h1 := hel i hi
          rw [List.getElem?_eq_getElem (by omega), Option.bind_eq_some_iff] at h1
          obtain ⟨cs', g1, g2⟩ := h1
          obtain ⟨vs, k1, k2, k3, k4⟩ := read_okS hS n e cs' _ (List.contains_iff_mem.1 hpe) g2
          exact ⟨vs, cs', g1, k1, k2, k3, k4⟩
        have build : ∀ k, k ≤ len → ∃ els : List (List V), els.length = k ∧ pureR els = true ∧ (∀ r ∈ els, r.length = P.cellsOf e ∧ Typed P n e r) ∧ ∀ (i : Nat) r, els[i]? = some r → ∃ cs', w.cells? base (a.add (i * P.cellsOf e)) (P.cellsOf e) = some cs' ∧ relL (oldE w) r cs' := by
          intro k
          induction k with
          | zero => intro _; exact ⟨[], rfl, rfl, (fun r hr => by cases hr), (fun i r h => by simp at h)⟩
          | succ k ih =>
            intro hk
            obtain ⟨els, e1, e2, e3, e4⟩ := ih (by omega)
            obtain ⟨vs, cs', g1, g2, g3, g4, g5⟩ := each k (by omega)
            refine ⟨els ++ [vs], by simp [e1], pureR_append e2 (by simp [pureR]; simpa using g3), fun r hr => ?_, fun i r hi => ?_⟩
            · rcases List.mem_append.1 hr with hr | hr
              · exact e3 r hr
              · simp at hr; subst hr
                exact ⟨by rw [relL_length g2, g5], g4⟩
            · by_cases hik : i < k
              · rw [List.getElem?_append_left (by omega)] at hi
                exact e4 i r hi
              · rw [List.getElem?_append_right (by omega)] at hi
                have h0 : i - els.length = 0 := by
                  have := (List.getElem?_eq_some_iff.1 hi).1
                  simp at this; omega
                rw [h0] at hi
                simp at hi
                subst hi
                have : i = k := by omega
                subst this
                exact ⟨cs', g1, g2⟩
        obtain ⟨els, e1, e2, e3, e4⟩ := build len (Nat.le_refl _)
        refine ⟨[.imm els], ?_, rfl, ?_, by simp [hc]⟩
        · unfold relL
          refine ⟨_, _, rfl, ?_, by unfold relL; rfl⟩
          unfold rel
          refine ⟨some a, cap, by rw [e1], by omega, e2, ?_⟩
          by_cases h0 : els = []
          · exact .inl h0
          · right
            have hlen : 0 < len := by rw [← e1]; exact List.length_pos_iff.2 h0
            obtain ⟨vs, cs', g1, _⟩ := each 0 hlen
            have hblk := Go.World.cells?_block g1 (by omega)
            have hspot : a.spot = none := by
              obtain ⟨q1, q2, q3⟩ := Go.World.cells?_some g1
              have h0' := q3 0 (by omega)
              rw [List.getElem?_eq_getElem (by omega)] at h0'
              have := Go.World.cell?_spot h0'
              simpa [Go.Addr.add] using this
            obtain ⟨b, o, sp⟩ := a
            simp only at hspot
            subst hspot
            refine ⟨b, o, P.cellsOf e, rfl, by omega, (by simpa [add_none] using hblk : b < w.heap.size), ?_⟩
            rw [relRows_iff]
            intro i r hi
            refine ⟨(e3 r (List.mem_of_getElem? hi)).1, ?_⟩
            obtain ⟨cs', g1, g2⟩ := e4 i r hi
            refine relAt_of_relL (us := cs') (fun j u hj => ?_) g2
            obtain ⟨q1, q2, q3⟩ := Go.World.cells?_some g1
            have hjl := (List.getElem?_eq_some_iff.1 hj).1
            have := q3 j (by omega)
            rw [add_none, add_none, hj] at this
            exact this
        · unfold Typed; rw [ht]; exact ⟨els, rfl, by omega, e3⟩
    · rename_i fs ht
      simp only [Bool.and_eq_true, beq_iff_eq, List.all_eq_true] at hp
      obtain ⟨htl, hall⟩ := hp
      unfold DataW.trod at h
      rw [ht] at h
      have hs : cs.length = P.cellsOf t ∧ ∃ xs, (fs.toList.mapM fun f => DataW.trod enc P w base spare held n f.type ((cs.drop f.offset).take (P.cellsOf f.type))) = some xs := by
        simp only at h
        split at h
        · rename_i hl
          simp only [Option.map_eq_some_iff] at h
          obtain ⟨xs, h1, _⟩ := h
          exact ⟨hl, xs, h1⟩
        · cases h
      obtain ⟨hl, xs, hxs⟩ := hs
      have hf : ∀ f ∈ fs.toList, ∃ y, DataW.trod enc P w base spare held n f.type ((cs.drop f.offset).take (P.cellsOf f.type)) = some y := by
        intro f hfm
        obtain ⟨i, hi⟩ := List.mem_iff_getElem?.1 hfm
        have h1 := Go.mapM_some_get hxs i f hi
        have h2 := Go.mapM_some_length hxs
        have h3 := (List.getElem?_eq_some_iff.1 hi).1
        rw [List.getElem?_eq_getElem (by omega)] at h1
        exact ⟨_, h1⟩
      obtain ⟨vs, k1, k2, k3⟩ := parts_rel (E := oldE w) (n := n) htl hl fun f hfm => by
        obtain ⟨y, hy⟩ := hf f hfm
        obtain ⟨vs, q1, q2, q3, _⟩ := read_okS hS n f.type _ y (List.contains_iff_mem.1 (hall f hfm)) hy
        exact ⟨vs, q1, q2, q3⟩
      refine ⟨vs, by simpa using k1, k2, ?_, hl⟩
      unfold Typed
      rw [ht]
      refine ⟨?_, fun f hfm => by simpa using k3 [] rfl f hfm⟩
      have := relL_length k1
      simpa [hl] using this
    · cases hp
theorem arg_okS {H : Type} {enc : TypeId × Value → H} {P : Program} {W : World} {base b0 : Nat} {spare : Nat → Bool} {held : Bool} {reach : Go.Reach} {t : TypeId} {v : Value} {d : DataW H} {ps : List MemPlace} {S : List TypeId} (hS : plainS P S = true) (hp : t ∈ S)
    (hv : Value.okWide P W reach b0 t v) (h : DataW.Trod enc P W base spare held t v d ps) :
    ∃ n, ∃ x : V, rel (oldE W) x v ∧ ((∃ vs, x = .agg vs ∧ Typed P n t vs) ∨ (isAggB P t = false ∧ Typed P n t [x])) := by
  obtain ⟨n, hf⟩ := h
  refine ⟨n, ?_⟩
  obtain ⟨vs, k1, k2, k3, k4⟩ := read_okS hS n t v.cells.toList _ hp hf
  have one : isAggB P t = false → v.cells = #[v] → ∃ x : V, rel (oldE W) x v ∧ ((∃ vs, x = .agg vs ∧ Typed P n t vs) ∨ (isAggB P t = false ∧ Typed P n t [x])) := by
    intro ha hc
    rw [hc] at k1
    cases vs with
    | nil => unfold relL at k1; cases k1
    | cons x vs =>
      unfold relL at k1
      obtain ⟨u, us, e, r1, r2⟩ := k1
      cases e
      cases vs with
      | nil => exact ⟨x, r1, .inr ⟨ha, k3⟩⟩
      | cons y vs => unfold relL at r2; obtain ⟨_, _, e, _⟩ := r2; cases e
  have hp := List.all_eq_true.1 hS t hp
  · split at hp
    · rename_i ht
      obtain ⟨b, rfl⟩ := Go.WideShapes.okWide_bool ht hv
      exact one (by simp [isAggB, ht]) rfl
    · rename_i k ht
      obtain ⟨b, rfl⟩ := Go.WideShapes.okWide_int ht hv
      exact one (by simp [isAggB, ht]) rfl
    · rename_i ht
      obtain ⟨b, rfl⟩ := Go.WideShapes.okWide_string ht hv
      exact one (by simp [isAggB, ht]) rfl
    · rename_i e ht
      obtain ⟨a, l, c, rfl⟩ := Go.WideShapes.okWide_slice ht hv
      exact one (by simp [isAggB, ht]) rfl
    · rename_i fs ht
      obtain ⟨cs, rfl, hc⟩ := Go.WideShapes.okWide_struct ht hv
      exact ⟨.agg vs, by unfold rel; exact ⟨cs, rfl, k1⟩, .inl ⟨vs, rfl, k3⟩⟩
    · cases hp
end Go.Am
