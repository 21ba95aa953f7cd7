/- The normal form of steps, by the program. -/
import Derived.Test.YtopjiafdimoeiaaSo3
namespace Go.Proofs.Ytopjiafdimoeiaa
open Go Go.Am Go.Proofs
set_option maxRecDepth 100000
abbrev normW (L : List (List Sk)) : List Sk := L.flatMap srt
theorem normW_take {L : List (List Sk)} {k : Nat} (hk : k < L.length) : normW (L.take (k + 1)) = normW (L.take k) ++ srt L[k] := by
  unfold normW
  rw [List.take_succ_eq_append_getElem hk, List.flatMap_append]
  simp only [List.flatMap_cons, List.flatMap_nil, List.append_nil]
theorem normW_length : ∀ L : List (List Sk), (normW L).length = L.flatten.length
  | [] => rfl
  | l :: L => by
    have h := normW_length L
    unfold normW at h ⊢
    simp only [List.flatMap_cons, List.length_append, List.flatten_cons, srt_length, h]
abbrev hN (g m : Nat) (w : List Sk) : H := [⟨0, .arr 0 []⟩, ⟨g, .arr m (w.map Sk.row)⟩]
def I107 (L : List (List Sk)) (k : Nat) (st : St) : Prop := ∃ g m, st.h = hN g m (normW (L.take k)) ∧ (m = 2 ∨ m = 0) ∧ noNil st.s ∧ st.s.length = 19 ∧ getS st.s 3 = .sl 1 g m 0 (normW (L.take k)).length ∧ getS st.s 6 = .imm (stepsR L) ∧ getS st.s 7 = num L.length ∧ getS st.s 8 = num k
def Q107 (L : List (List Sk)) (r : R) : Prop := r.x = .exit 0 ∧ ∃ g m, r.st.h = hN g m (normW L) ∧ r.st.s.length = 19 ∧ getS r.st.s 3 = .sl 1 g m 0 (normW L).length
theorem normW_take_len {L : List (List Sk)} {k : Nat} : (normW (L.take k)).length ≤ L.flatten.length := by
  rw [← normW_length L]
  conv => rhs; rw [← List.take_append_drop k L]
  unfold normW
  rw [List.flatMap_append, List.length_append]
  omega
theorem loop107 (L : List (List Sk)) (hL : L.flatten.length < 2 ^ 40) (hLl : L.length < 2 ^ 41) (hg : ∀ l ∈ L, good l) (st : St) (h0 : I107 L 0 st) : ∃ r, ev pg (.code (.going 2 L107_0) st) = some r ∧ Q107 L r := by
  refine loop_from (I107 L) L.length (Q107 L) h0 ?_ ?_
  · rintro k ⟨s, h⟩ hk ⟨g, m, rfl, hm, hnn, hl, e3, e6, e7, e8⟩
    simp only at hl e3 e6 e7 e8
    have hn : ∀ j, getS s j ≠ .nils := noNil_get hnn
    have hk' : (k : Int) < L.length := by omega
    have wk := wrap_id (n := (k : Int) + 1) (by omega) (by omega)
    have hgk := hg _ (List.getElem_mem hk)
    have htk := normW_take hk
    have hlen := normW_take_len (L := L) (k := k)
    have h144 := ev144 L[k] (hN g m (normW (L.take k)))
    obtain ⟨mc, h143⟩ := ev143 g m ((normW (L.take k)).map Sk.row) L[k] hgk
    have hsl := srt_length L[k]
    have h6 := hgk.six
    generalize normW (L.take k) = d at *
    have h47 : (d.length + L[k].length) * 16 ≤ 140737488355328 := by omega
    simp at h144 h143
    rw [getS_expand hl]
    simp [L107_0, List.range, List.range.loop, e3, e6, e7, e8, hk, hk', wk, h144, h143, hsl, hm, h47]
    exact ⟨g + 1, 2, by simp [htk], .inl rfl, by simp [noNil, hn], rfl, by simp [htk, hsl], rfl, rfl, rfl⟩
  · rintro ⟨s, h⟩ ⟨g, m, rfl, hm, hnn, hl, e3, e6, e7, e8⟩
    simp only [List.take_length] at hl e3 e6 e7 e8
    rw [getS_expand hl]
    simp [L107_0, Q107, List.range, List.range.loop, e3, e6, e7, e8]
theorem ev107 (L : List (List Sk)) (hL : L.flatten.length < 2 ^ 40) (hLl : L.length < 2 ^ 41) (hg : ∀ l ∈ L, good l) : ev pg (.call (.fn 107 [] []) [.imm (stepsR L)] []) = some { v := words (normW L), st := ⟨[], []⟩ } := by
  rw [ev_call, pg107]
  simp [ir107, ev_loop]
  generalize hr : ev pg (.code (.going 2 L107_0) _) = o
  obtain ⟨r, rfl, hx, g, m, hh, hl, h3⟩ : ∃ r, o = some r ∧ Q107 L r := by
    rw [← hr]
    exact loop107 L hL hLl hg _ ⟨0, 0, by simp, .inr rfl, by simp [noNil], by simp, by simp, by simp, by simp, by simp⟩
  simp [hx, hh, hl, h3]
end Go.Proofs.Ytopjiafdimoeiaa
