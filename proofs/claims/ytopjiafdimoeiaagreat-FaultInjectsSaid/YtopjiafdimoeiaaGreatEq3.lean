/- Are controls equal? -/
import Derived.Test.YtopjiafdimoeiaaGreatEq2
namespace Go.Proofs.YtopjiafdimoeiaaGreat
open Go Go.Am Go.Proofs
set_option maxRecDepth 100000
def sameS (a b : Sg) : Bool := a.name == b.name && (a.kind == b.kind && (a.delay == b.delay && (a.init == b.init && (a.on.same b.on && a.off.same b.off))))
theorem sameS_iff {a b : Sg} : sameS a b = true ↔ a = b := by
  obtain ⟨n, k, x, y, d, i⟩ := a
  obtain ⟨n', k', x', y', d', i'⟩ := b
  simp only [sameS, Bool.and_eq_true, beq_iff_eq, same_iff, Sg.mk.injEq]
  constructor
  · rintro ⟨h1, h2, h3, h4, h5, h6⟩
    exact ⟨h1, h2, h5, h6, h3, h4⟩
  · rintro ⟨h1, h2, h5, h6, h3, h4⟩
    exact ⟨h1, h2, h3, h4, h5, h6⟩
def sameSL (a b : List Sg) : Bool := match a, b with
  | [], [] => true
  | x :: l, y :: l' => sameS x y && sameSL l l'
  | _, _ => false
theorem sameSL_at {l l' : List Sg} {k : Nat} (hk : k < l.length) (hk' : k < l'.length) : sameSL (l.drop k) (l'.drop k) = (sameS l[k] l'[k] && sameSL (l.drop (k + 1)) (l'.drop (k + 1))) := by
  rw [List.drop_eq_getElem_cons hk, List.drop_eq_getElem_cons hk', sameSL]
theorem sameSL_iff : ∀ {l l' : List Sg}, sameSL l l' = true ↔ l = l'
  | [], [] => by simp [sameSL]
  | x :: l, y :: l' => by rw [sameSL, Bool.and_eq_true, sameS_iff, sameSL_iff, List.cons.injEq]
  | [], y :: l' => by simp [sameSL]
  | x :: l, [] => by simp [sameSL]
set_option maxHeartbeats 1000000 in
theorem ev76 (a b : Sg) (ha : a.on.light = true ∧ a.off.light = true) (hb : b.on.light = true ∧ b.off.light = true) : ev pg (.call (.fn 76 [] []) [.agg a.row, .agg b.row] []) = some { v := .bool (sameS a b), st := ⟨[], []⟩ } := by
  have h1 := ev105 a.on b.on ha.1 hb.1
  have h2 := ev105 a.off b.off ha.2 hb.2
  unfold sameS
  generalize a.on.same b.on = B at *
  generalize a.off.same b.off = D at *
  rw [ev_call, pg76]
  by_cases e1 : a.name = b.name
  · have n1 : (a.name == b.name) = true := by simpa using e1
    by_cases e2 : a.kind = b.kind
    · have n2 : (a.kind == b.kind) = true := by simpa using e2
      by_cases e3 : a.delay = b.delay
      · have n3 : (a.delay == b.delay) = true := by simpa using e3
        by_cases e4 : a.init = b.init
        · have n4 : (a.init == b.init) = true := by simpa using e4
          cases B
          · simp [ir76, n1, n2, n3, n4, h1]
          · simp [ir76, n1, n2, n3, n4, h1, h2]
        · have n4 : (a.init == b.init) = false := by simpa using e4
          simp [ir76, n1, n2, n3, n4]
      · have n3 : (a.delay == b.delay) = false := by simpa using e3
        simp [ir76, n1, n2, n3]
    · have n2 : (a.kind == b.kind) = false := by simpa using e2
      simp [ir76, n1, n2]
  · have n1 : (a.name == b.name) = false := by simpa using e1
    simp [ir76, n1]
def I85 (l l' : List Sg) (k : Nat) (st : St) : Prop := st.h = [] ∧ st.s.length = 32 ∧ getS st.s 0 = .imm (l.map Sg.row) ∧ getS st.s 1 = .imm (l'.map Sg.row) ∧ getS st.s 2 = .fn 76 [] [] ∧ getS st.s 15 = .imm (l.map Sg.row) ∧ getS st.s 16 = num l.length ∧ getS st.s 17 = num k ∧ sameSL l l' = sameSL (l.drop k) (l'.drop k)
def Q85 (l l' : List Sg) (r : R) : Prop := r.st.s.length = 32 ∧ ((r.x = .exit 0 ∧ r.st.h = [] ∧ sameSL l l' = true) ∨ (r.x = .ret ∧ getS r.st.s 6 = .bool false ∧ sameSL l l' = false))
theorem loop85 (l l' : List Sg) (hab : l'.length = l.length) (hl9 : l.length ≤ 4096) (ha : ∀ x ∈ l, x.on.light = true ∧ x.off.light = true) (hb : ∀ x ∈ l', x.on.light = true ∧ x.off.light = true) (st : St) (h0 : I85 l l' 0 st) : ∃ r, ev pg (.code (.going 0 L75_0) st) = some r ∧ Q85 l l' r := by
  refine loop_from (I85 l l') l.length (Q85 l l') h0 ?_ ?_
  · rintro k ⟨s, hh⟩ hk ⟨rfl, hl, e0, e1, e2, e15, e16, e17, he⟩
    simp only at hl e0 e1 e2 e15 e16 e17
    have hk' : (k : Int) < l.length := by omega
    have hkb : k < l'.length := by omega
    have wk := wrap_id (n := (k : Int) + 1) (by omega) (by omega)
    rw [sameSL_at hk hkb] at he
    have hi := ev76 l[k] l'[k] (ha _ (List.getElem_mem hk)) (hb _ (List.getElem_mem hkb))
    rw [getS_expand hl]
    cases hb : sameS l[k] l'[k] with
    | true =>
      rw [hb, Bool.true_and] at he
      rw [hb] at hi
      simp [L75_0, I85, List.range, List.range.loop, e0, e1, e2, e15, e16, e17, hk, hk', hkb, hi, wk]
      simpa using he
    | false =>
      rw [hb, Bool.false_and] at he
      rw [hb] at hi
      simp [L75_0, Q85, List.range, List.range.loop, e0, e1, e2, e15, e16, e17, hk, hk', hkb, hi]
      simpa using he
  · rintro ⟨s, hh⟩ ⟨rfl, hl, e0, e1, e2, e15, e16, e17, he⟩
    simp only [List.drop_length] at hl e0 e1 e2 e15 e16 e17 he
    rw [show List.drop l.length l' = [] by rw [← hab]; exact List.drop_length, sameSL] at he
    rw [getS_expand hl]
    simp [L75_0, Q85, List.range, List.range.loop, e0, e1, e2, e15, e16, e17]
    simpa using he
theorem ev75 (l l' : List Sg) (hl9 : l.length ≤ 4096) (ha : ∀ x ∈ l, x.on.light = true ∧ x.off.light = true) (hb : ∀ x ∈ l', x.on.light = true ∧ x.off.light = true) : ev pg (.call (.fn 75 [] []) [.imm (l.map Sg.row), .imm (l'.map Sg.row), .fn 76 [] []] []) = some { v := .bool (sameSL l l'), st := ⟨[], []⟩ } := by
  by_cases hab : l'.length = l.length
  · have hloop := loop85 l l' hab hl9 ha hb
    have hab' : (l'.length : Int) = l.length := by omega
    unfold Q85 at hloop
    have hI : ∀ st : St, I85 l l' 0 st ↔ (st.h = [] ∧ st.s.length = 32 ∧ getS st.s 0 = .imm (l.map Sg.row) ∧ getS st.s 1 = .imm (l'.map Sg.row) ∧ getS st.s 2 = .fn 76 [] [] ∧ getS st.s 15 = .imm (l.map Sg.row) ∧ getS st.s 16 = num l.length ∧ getS st.s 17 = num 0) := fun st => by
      unfold I85
      exact ⟨fun h => ⟨h.1, h.2.1, h.2.2.1, h.2.2.2.1, h.2.2.2.2.1, h.2.2.2.2.2.1, h.2.2.2.2.2.2.1, h.2.2.2.2.2.2.2.1⟩, fun h => ⟨h.1, h.2.1, h.2.2.1, h.2.2.2.1, h.2.2.2.2.1, h.2.2.2.2.2.1, h.2.2.2.2.2.2.1, h.2.2.2.2.2.2.2, rfl⟩⟩
    generalize sameSL l l' = B at *
    rw [ev_call, pg75]
    simp [ir75, ev_loop, hab']
    generalize hr : ev pg (.code (.going _ L75_0) _) = o
    obtain ⟨r, rfl, hl, hQ⟩ : ∃ r, o = some r ∧ _ := by
      rw [← hr]
      exact hloop _ ((hI _).2 ⟨by simp, by simp, by simp, by simp, by simp, by simp, by simp, by simp⟩)
    rcases hQ with ⟨hx, hh, rfl⟩ | ⟨hx, h6, rfl⟩
    · simp [hx, hh, hl]
    · simp [hx, h6]
  · have hd : sameSL l l' = false := by
      rw [← Bool.not_eq_true]
      intro e
      exact hab (by rw [sameSL_iff.1 e])
    have hne : ((l.length : Int) != (l'.length : Int)) = true := by
      rw [bne_iff_ne]; omega
    rw [hd, ev_call, pg75]
    simp [ir75, hne]
def sameC (a b : Ct) : Bool := a.act == b.act && (decide (a.inputs = b.inputs) && (sameSL a.signals b.signals && (decide (a.plus = b.plus) && decide (a.minus = b.minus))))
theorem sameC_iff {a b : Ct} : sameC a b = true ↔ a = b := by
  obtain ⟨n, k, x, y, d⟩ := a
  obtain ⟨n', k', x', y', d'⟩ := b
  simp only [sameC, Bool.and_eq_true, beq_iff_eq, sameSL_iff, decide_eq_true_eq, Ct.mk.injEq]
theorem ev35 (a b : Ct) (ha : a.small = true) (hb : b.small = true) : ev pg (.call (.fn 35 [] []) [a.v, b.v] []) = some { v := .bool (sameC a b), st := ⟨[], []⟩ } := by
  obtain ⟨f1, f2, f3, f4, f5, f6⟩ := few_parts ha
  obtain ⟨g1, g2, g3, g4, g5, g6⟩ := few_parts hb
  have h30 := ev74 a.inputs b.inputs (by omega)
  have h85 := ev75 a.signals b.signals (by omega) (fun x hx => (f6 x hx).2) (fun x hx => (g6 x hx).2)
  have h38a := ev27 a.plus b.plus (by omega)
  have h38b := ev27 a.minus b.minus (by omega)
  unfold sameC
  generalize decide (a.inputs = b.inputs) = B1 at *
  generalize sameSL a.signals b.signals = B2 at *
  generalize decide (a.plus = b.plus) = B3 at *
  generalize decide (a.minus = b.minus) = B4 at *
  rw [ev_call, pg35]
  by_cases e1 : a.act = b.act
  · have n1 : (a.act == b.act) = true := by simpa using e1
    cases B1
    · simp [ir35, n1, h30]
    · cases B2
      · simp [ir35, n1, h30, h85]
      · cases B3
        · simp [ir35, n1, h30, h85, h38a]
        · simp [ir35, n1, h30, h85, h38a, h38b]
  · have n1 : (a.act == b.act) = false := by simpa using e1
    simp [ir35, n1]
end Go.Proofs.YtopjiafdimoeiaaGreat
