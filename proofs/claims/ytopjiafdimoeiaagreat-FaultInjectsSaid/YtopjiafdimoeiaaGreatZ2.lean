/- Are lists, expressions and controls equal, by the reference? -/
import Derived.Test.YtopjiafdimoeiaaGreatZ1
namespace Go.Proofs.YtopjiafdimoeiaaGreat
open Go Go.Am Go.Proofs
set_option maxRecDepth 100000
def I37 (a b : List Txt) (k : Nat) (st : St) : Prop := st.h = [] ∧ st.s.length = 26 ∧ getS st.s 0 = .imm (a.map srow) ∧ getS st.s 1 = .imm (b.map srow) ∧ getS st.s 5 = num k ∧ decide (a = b) = decide (a.drop k = b.drop k)
def Q37 (a b : List Txt) (r : R) : Prop := r.st.s.length = 26 ∧ r.st.h = [] ∧ ((r.x = .exit 0 ∧ decide (a = b) = true) ∨ (r.x = .ret ∧ getS r.st.s 4 = .bool false ∧ decide (a = b) = false))
theorem loop37 (a b : List Txt) (hab : b.length = a.length) (ha : a.length ≤ 4096) (st : St) (h0 : I37 a b 0 st) : ∃ r, ev pg (.code (.going 0 L37_0) st) = some r ∧ Q37 a b r := by
  refine loop_from (I37 a b) a.length (Q37 a b) h0 ?_ ?_
  · rintro k ⟨s, hh⟩ hk ⟨rfl, hl, e0, e1, e5, he⟩
    simp only at hl e0 e1 e5
    have hk' : (k : Int) < a.length := by omega
    have hkb : k < b.length := by omega
    have wk := wrap_id (n := (k : Int) + 1) (by omega) (by omega)
    rw [List.drop_eq_getElem_cons hk, List.drop_eq_getElem_cons hkb] at he
    rw [getS_expand hl]
    by_cases hb : a[k] = b[k]
    · have he' : decide (a = b) = decide (a.drop (k + 1) = b.drop (k + 1)) := by rw [he]; simp only [List.cons.injEq, hb, true_and]
      simp [L37_0, I37, List.range, List.range.loop, e0, e1, e5, hk, hk', hkb, hb, wk]
      simpa using he'
    · have he' : decide (a = b) = false := by rw [he]; simp only [List.cons.injEq, hb, false_and, decide_false]
      simp [L37_0, Q37, List.range, List.range.loop, e0, e1, e5, hk, hk', hkb, hb]
      simpa using he'
  · rintro ⟨s, hh⟩ ⟨rfl, hl, e0, e1, e5, he⟩
    simp only [List.drop_length] at hl e0 e1 e5 he
    rw [show List.drop a.length b = [] by rw [← hab]; exact List.drop_length] at he
    have he' : decide (a = b) = true := by rw [he]; rfl
    rw [getS_expand hl]
    simp [L37_0, Q37, List.range, List.range.loop, e0, e1, e5]
    simpa using he'
theorem ev37 (a b : List Txt) (ha : a.length ≤ 4096) : ev pg (.call (.fn 37 [] []) [.imm (a.map srow), .imm (b.map srow)] []) = some { v := .bool (decide (a = b)), st := ⟨[], []⟩ } := by
  by_cases hab : b.length = a.length
  · have hloop := loop37 a b hab ha
    have hab' : (b.length : Int) = a.length := by omega
    unfold Q37 at hloop
    have hI : ∀ st : St, I37 a b 0 st ↔ (st.h = [] ∧ st.s.length = 26 ∧ getS st.s 0 = .imm (a.map srow) ∧ getS st.s 1 = .imm (b.map srow) ∧ getS st.s 5 = num 0) := fun st => by
      unfold I37
      exact ⟨fun h => ⟨h.1, h.2.1, h.2.2.1, h.2.2.2.1, h.2.2.2.2.1⟩, fun h => ⟨h.1, h.2.1, h.2.2.1, h.2.2.2.1, h.2.2.2.2, rfl⟩⟩
    generalize decide (a = b) = B at *
    rw [ev_call, pg37]
    simp [ir37, ev_loop, hab']
    generalize hr : ev pg (.code (.going _ L37_0) _) = o
    obtain ⟨r, rfl, hl, hh, hQ⟩ : ∃ r, o = some r ∧ _ := by
      rw [← hr]
      exact hloop _ ((hI _).2 ⟨by simp, by simp, by simp, by simp, by simp⟩)
    rcases hQ with ⟨hx, rfl⟩ | ⟨hx, h4, rfl⟩
    · simp [hx, hh, hl]
    · simp [hx, h4]
  · have hd : decide (a = b) = false := by
      rw [decide_eq_false_iff_not]
      intro e
      exact hab (by rw [e])
    have hne : ((a.length : Int) != (b.length : Int)) = true := by
      rw [bne_iff_ne]; omega
    rw [hd, ev_call, pg37]
    simp [ir37, hne]
def I39 (a b : List Int) (k : Nat) (st : St) : Prop := st.h = [] ∧ st.s.length = 26 ∧ getS st.s 0 = .imm (a.map nrow) ∧ getS st.s 1 = .imm (b.map nrow) ∧ getS st.s 5 = num k ∧ decide (a = b) = decide (a.drop k = b.drop k)
def Q39 (a b : List Int) (r : R) : Prop := r.st.s.length = 26 ∧ r.st.h = [] ∧ ((r.x = .exit 0 ∧ decide (a = b) = true) ∨ (r.x = .ret ∧ getS r.st.s 4 = .bool false ∧ decide (a = b) = false))
theorem loop39 (a b : List Int) (hab : b.length = a.length) (ha : a.length ≤ 4096) (st : St) (h0 : I39 a b 0 st) : ∃ r, ev pg (.code (.going 0 L39_0) st) = some r ∧ Q39 a b r := by
  refine loop_from (I39 a b) a.length (Q39 a b) h0 ?_ ?_
  · rintro k ⟨s, hh⟩ hk ⟨rfl, hl, e0, e1, e5, he⟩
    simp only at hl e0 e1 e5
    have hk' : (k : Int) < a.length := by omega
    have hkb : k < b.length := by omega
    have wk := wrap_id (n := (k : Int) + 1) (by omega) (by omega)
    rw [List.drop_eq_getElem_cons hk, List.drop_eq_getElem_cons hkb] at he
    rw [getS_expand hl]
    by_cases hb : a[k] = b[k]
    · have he' : decide (a = b) = decide (a.drop (k + 1) = b.drop (k + 1)) := by rw [he]; simp only [List.cons.injEq, hb, true_and]
      simp [L39_0, I39, List.range, List.range.loop, e0, e1, e5, hk, hk', hkb, hb, wk]
      simpa using he'
    · have he' : decide (a = b) = false := by rw [he]; simp only [List.cons.injEq, hb, false_and, decide_false]
      simp [L39_0, Q39, List.range, List.range.loop, e0, e1, e5, hk, hk', hkb, hb]
      simpa using he'
  · rintro ⟨s, hh⟩ ⟨rfl, hl, e0, e1, e5, he⟩
    simp only [List.drop_length] at hl e0 e1 e5 he
    rw [show List.drop a.length b = [] by rw [← hab]; exact List.drop_length] at he
    have he' : decide (a = b) = true := by rw [he]; rfl
    rw [getS_expand hl]
    simp [L39_0, Q39, List.range, List.range.loop, e0, e1, e5]
    simpa using he'
theorem ev39 (a b : List Int) (ha : a.length ≤ 4096) : ev pg (.call (.fn 39 [] []) [.imm (a.map nrow), .imm (b.map nrow)] []) = some { v := .bool (decide (a = b)), st := ⟨[], []⟩ } := by
  by_cases hab : b.length = a.length
  · have hloop := loop39 a b hab ha
    have hab' : (b.length : Int) = a.length := by omega
    unfold Q39 at hloop
    have hI : ∀ st : St, I39 a b 0 st ↔ (st.h = [] ∧ st.s.length = 26 ∧ getS st.s 0 = .imm (a.map nrow) ∧ getS st.s 1 = .imm (b.map nrow) ∧ getS st.s 5 = num 0) := fun st => by
      unfold I39
      exact ⟨fun h => ⟨h.1, h.2.1, h.2.2.1, h.2.2.2.1, h.2.2.2.2.1⟩, fun h => ⟨h.1, h.2.1, h.2.2.1, h.2.2.2.1, h.2.2.2.2, rfl⟩⟩
    generalize decide (a = b) = B at *
    rw [ev_call, pg39]
    simp [ir39, ev_loop, hab']
    generalize hr : ev pg (.code (.going _ L39_0) _) = o
    obtain ⟨r, rfl, hl, hh, hQ⟩ : ∃ r, o = some r ∧ _ := by
      rw [← hr]
      exact hloop _ ((hI _).2 ⟨by simp, by simp, by simp, by simp, by simp⟩)
    rcases hQ with ⟨hx, rfl⟩ | ⟨hx, h4, rfl⟩
    · simp [hx, hh, hl]
    · simp [hx, h4]
  · have hd : decide (a = b) = false := by
      rw [decide_eq_false_iff_not]
      intro e
      exact hab (by rw [e])
    have hne : ((a.length : Int) != (b.length : Int)) = true := by
      rw [bne_iff_ne]; omega
    rw [hd, ev_call, pg39]
    simp [ir39, hne]
def I106 (x y : Ex) (k : Nat) (st : St) : Prop := st.h = [⟨0, .box x.cells⟩, ⟨0, .box y.cells⟩] ∧ st.s.length = 46 ∧ getS st.s 2 = .bptr 0 0 ∧ getS st.s 3 = .bptr 1 0 ∧ getS st.s 5 = num k ∧ sameL x.args y.args = sameL (x.args.drop k) (y.args.drop k)
def Q106 (x y : Ex) (r : R) : Prop := r.st.s.length = 46 ∧ ((r.x = .exit 0 ∧ sameL x.args y.args = true) ∨ (r.x = .ret ∧ getS r.st.s 4 = .bool false ∧ sameL x.args y.args = false))
theorem loop106 (x y : Ex) (hab : y.args.length = x.args.length) (hl9 : x.args.length ≤ 4096) (ih : ∀ z ∈ x.args, ∀ y, ev pg (.call (.fn 106 [] []) [z.v, y.v] []) = some { v := .bool (z.same y), st := ⟨[], []⟩ }) (st : St) (h0 : I106 x y 0 st) : ∃ r, ev pg (.code (.going 2 L106_0) st) = some r ∧ Q106 x y r := by
  refine loop_from (I106 x y) x.args.length (Q106 x y) h0 ?_ ?_
  · rintro k ⟨s, hh⟩ hk ⟨rfl, hl, e2, e3, e5, he⟩
    simp only at hl e2 e3 e5
    have hk' : (k : Int) < x.args.length := by omega
    have hkb : k < y.args.length := by omega
    have wk := wrap_id (n := (k : Int) + 1) (by omega) (by omega)
    rw [sameL_at hk hkb] at he
    have hi := ih x.args[k] (List.getElem_mem hk) y.args[k]
    rw [getS_expand hl]
    cases hb : x.args[k].same y.args[k] with
    | true =>
      rw [hb, Bool.true_and] at he
      rw [hb] at hi
      simp [L106_0, I106, List.range, List.range.loop, e2, e3, e5, hk, hk', hkb, hi, wk]
      simpa using he
    | false =>
      rw [hb, Bool.false_and] at he
      rw [hb] at hi
      simp [L106_0, Q106, List.range, List.range.loop, e2, e3, e5, hk, hk', hkb, hi]
      simpa using he
  · rintro ⟨s, hh⟩ ⟨rfl, hl, e2, e3, e5, he⟩
    simp only [List.drop_length] at hl e2 e3 e5 he
    rw [show List.drop x.args.length y.args = [] by rw [← hab]; exact List.drop_length, sameL] at he
    rw [getS_expand hl]
    simp [L106_0, Q106, List.range, List.range.loop, e2, e3, e5]
    simpa using he
theorem ev106_of (x y : Ex) (hl9 : x.args.length ≤ 4096) (ih : ∀ z ∈ x.args, ∀ y, ev pg (.call (.fn 106 [] []) [z.v, y.v] []) = some { v := .bool (z.same y), st := ⟨[], []⟩ }) : ev pg (.call (.fn 106 [] []) [x.v, y.v] []) = some { v := .bool (x.same y), st := ⟨[], []⟩ } := by
  rw [same_eq]
  rw [ev_call, pg106]
  by_cases h1 : x.op = y.op
  · have n1 : (x.op != y.op) = false := by simpa using h1
    have n1' : (x.op == y.op) = true := by simpa using h1
    by_cases h2 : x.idx = y.idx
    · have n2 : (x.idx != y.idx) = false := by simpa using h2
      have n2' : (x.idx == y.idx) = true := by simpa using h2
      by_cases hab : y.args.length = x.args.length
      · have n3 : ((x.args.length : Int) != (y.args.length : Int)) = false := by rw [hab]; simp
        have hloop := loop106 x y hab hl9 ih
        unfold Q106 at hloop
        have hI : ∀ st : St, I106 x y 0 st ↔ (st.h = [⟨0, .box x.cells⟩, ⟨0, .box y.cells⟩] ∧ st.s.length = 46 ∧ getS st.s 2 = .bptr 0 0 ∧ getS st.s 3 = .bptr 1 0 ∧ getS st.s 5 = num 0) := fun st => by
          unfold I106
          exact ⟨fun h => ⟨h.1, h.2.1, h.2.2.1, h.2.2.2.1, h.2.2.2.2.1⟩, fun h => ⟨h.1, h.2.1, h.2.2.1, h.2.2.2.1, h.2.2.2.2, rfl⟩⟩
        generalize sameL x.args y.args = B at *
        simp [ir106, n1, n2, n3, n1', n2', ev_loop]
        generalize hr : ev pg (.code (.going _ L106_0) _) = o
        obtain ⟨r, rfl, hl, hQ⟩ : ∃ r, o = some r ∧ _ := by
          rw [← hr]
          exact hloop _ ((hI _).2 ⟨by simp, by simp, by simp, by simp, by simp⟩)
        rcases hQ with ⟨hx, rfl⟩ | ⟨hx, h4, rfl⟩
        · simp [hx, hl]
        · simp [hx, h4]
      · have n3 : ((x.args.length : Int) != (y.args.length : Int)) = true := by rw [bne_iff_ne]; omega
        have hd : sameL x.args y.args = false := by
          rw [← Bool.not_eq_true]
          intro e
          exact hab (sameL_len e)
        rw [hd]
        simp [ir106, n1, n2, n3]
    · have n2 : (x.idx != y.idx) = true := by simpa using h2
      have n2' : (x.idx == y.idx) = false := by simpa using h2
      simp [ir106, n1, n2, n2']
  · have n1 : (x.op != y.op) = true := by simpa using h1
    have n1' : (x.op == y.op) = false := by simpa using h1
    simp [ir106, n1, n1']
theorem ev106 : ∀ x : Ex, x.nodes ≤ 256 → ∀ y : Ex, ev pg (.call (.fn 106 [] []) [x.v, y.v] []) = some { v := .bool (x.same y), st := ⟨[], []⟩ } := by
  refine Ex.ind fun x ih hx y => ?_
  exact ev106_of x y (by have := args_few hx; omega) fun z hz y => ih z hz (args_nodes hx hz) y
theorem ev78 (x y : Ex) (hx : x.light = true) (hy : y.light = true) : ev pg (.call (.fn 78 [] []) [x.v, y.v] []) = some { v := .bool (x.same y), st := ⟨[], []⟩ } := by
  have h1 := ev22 x
  have h2 := ev22 y
  have h3 := ev106 x (light_nodes hx).1 y
  rw [hx] at h1
  rw [hy] at h2
  generalize x.same y = B at *
  rw [ev_call, pg78]
  simp [ir78, h1, h2, h3]
set_option maxHeartbeats 1000000 in
theorem ev38 (a b : Sg) (ha : a.on.light = true ∧ a.off.light = true) (hb : b.on.light = true ∧ b.off.light = true) : ev pg (.call (.fn 38 [] []) [.agg a.row, .agg b.row] []) = some { v := .bool (sameS a b), st := ⟨[], []⟩ } := by
  have h1 := ev78 a.on b.on ha.1 hb.1
  have h2 := ev78 a.off b.off ha.2 hb.2
  unfold sameS
  generalize a.on.same b.on = B at *
  generalize a.off.same b.off = D at *
  rw [ev_call, pg38]
  by_cases e1 : a.name = b.name
  · have n1 : (a.name == b.name) = true := by simpa using e1
    by_cases e2 : a.kind = b.kind
    · have n2 : (a.kind == b.kind) = true := by simpa using e2
      cases B
      · simp [ir38, n1, n2, h1]
      · cases D
        · simp [ir38, n1, n2, h1, h2]
        · by_cases e3 : a.delay = b.delay
          · have n3 : (a.delay == b.delay) = true := by simpa using e3
            simp [ir38, n1, n2, n3, h1, h2]
          · have n3 : (a.delay == b.delay) = false := by simpa using e3
            simp [ir38, n1, n2, n3, h1, h2]
    · have n2 : (a.kind == b.kind) = false := by simpa using e2
      simp [ir38, n1, n2]
  · have n1 : (a.name == b.name) = false := by simpa using e1
    simp [ir38, n1]
def I12 (a b : Ct) (k : Nat) (st : St) : Prop := st.h = [⟨0, .box a.cells⟩, ⟨0, .box b.cells⟩] ∧ st.s.length = 59 ∧ getS st.s 2 = .bptr 0 0 ∧ getS st.s 3 = .bptr 1 0 ∧ getS st.s 5 = num k ∧ sameSL a.signals b.signals = sameSL (a.signals.drop k) (b.signals.drop k)
def Q12 (a b : Ct) (r : R) : Prop := r.st.s.length = 59 ∧ ((r.x = .exit 0 ∧ r.st.h = [⟨0, .box a.cells⟩, ⟨0, .box b.cells⟩] ∧ getS r.st.s 2 = .bptr 0 0 ∧ getS r.st.s 3 = .bptr 1 0 ∧ sameSL a.signals b.signals = true) ∨ (r.x = .ret ∧ getS r.st.s 4 = .bool false ∧ sameSL a.signals b.signals = false))
theorem loop12 (a b : Ct) (hab : b.signals.length = a.signals.length) (hl9 : a.signals.length ≤ 4096) (ha : ∀ x ∈ a.signals, x.on.light = true ∧ x.off.light = true) (hb : ∀ x ∈ b.signals, x.on.light = true ∧ x.off.light = true) (st : St) (h0 : I12 a b 0 st) : ∃ r, ev pg (.code (.going 2 L12_0) st) = some r ∧ Q12 a b r := by
  refine loop_from (I12 a b) a.signals.length (Q12 a b) h0 ?_ ?_
  · rintro k ⟨s, hh⟩ hk ⟨rfl, hl, e2, e3, e5, he⟩
    simp only at hl e2 e3 e5
    have hk' : (k : Int) < a.signals.length := by omega
    have hkb : k < b.signals.length := by omega
    have wk := wrap_id (n := (k : Int) + 1) (by omega) (by omega)
    rw [sameSL_at hk hkb] at he
    have hi := ev38 a.signals[k] b.signals[k] (ha _ (List.getElem_mem hk)) (hb _ (List.getElem_mem hkb))
    rw [getS_expand hl]
    cases hb : sameS a.signals[k] b.signals[k] with
    | true =>
      rw [hb, Bool.true_and] at he
      rw [hb] at hi
      simp [L12_0, I12, List.range, List.range.loop, e2, e3, e5, hk, hk', hkb, hi, wk]
      simpa using he
    | false =>
      rw [hb, Bool.false_and] at he
      rw [hb] at hi
      simp [L12_0, Q12, List.range, List.range.loop, e2, e3, e5, hk, hk', hkb, hi]
      simpa using he
  · rintro ⟨s, hh⟩ ⟨rfl, hl, e2, e3, e5, he⟩
    simp only [List.drop_length] at hl e2 e3 e5 he
    rw [show List.drop a.signals.length b.signals = [] by rw [← hab]; exact List.drop_length, sameSL] at he
    rw [getS_expand hl]
    simp [L12_0, Q12, List.range, List.range.loop, e2, e3, e5]
    simpa using he
theorem ev12 (a b : Ct) (ha : a.small = true) (hb : b.small = true) : ev pg (.call (.fn 12 [] []) [a.v, b.v] []) = some { v := .bool (sameC a b), st := ⟨[], []⟩ } := by
  obtain ⟨f1, f2, f3, f4, f5, f6⟩ := few_parts ha
  obtain ⟨g1, g2, g3, g4, g5, g6⟩ := few_parts hb
  have h37 := ev37 a.inputs b.inputs (by omega)
  have h39a := ev39 a.plus b.plus (by omega)
  have h39b := ev39 a.minus b.minus (by omega)
  unfold sameC
  generalize decide (a.inputs = b.inputs) = B1 at *
  generalize decide (a.plus = b.plus) = B3 at *
  generalize decide (a.minus = b.minus) = B4 at *
  rw [ev_call, pg12]
  by_cases e1 : a.act = b.act
  · have n1 : (a.act != b.act) = false := by simpa using e1
    have n1' : (a.act == b.act) = true := by simpa using e1
    cases B1
    · simp [ir12, n1, n1', h37]
    · by_cases hab : b.signals.length = a.signals.length
      · have n3 : ((a.signals.length : Int) != (b.signals.length : Int)) = false := by rw [hab]; simp
        have hloop := loop12 a b hab (by omega) (fun x hx => (f6 x hx).2) (fun x hx => (g6 x hx).2)
        unfold Q12 at hloop
        have hI : ∀ st : St, I12 a b 0 st ↔ (st.h = [⟨0, .box a.cells⟩, ⟨0, .box b.cells⟩] ∧ st.s.length = 59 ∧ getS st.s 2 = .bptr 0 0 ∧ getS st.s 3 = .bptr 1 0 ∧ getS st.s 5 = num 0) := fun st => by
          unfold I12
          exact ⟨fun h => ⟨h.1, h.2.1, h.2.2.1, h.2.2.2.1, h.2.2.2.2.1⟩, fun h => ⟨h.1, h.2.1, h.2.2.1, h.2.2.2.1, h.2.2.2.2, rfl⟩⟩
        generalize sameSL a.signals b.signals = B2 at *
        simp [ir12, n1, n1', n3, h37, ev_loop]
        generalize hr : ev pg (.code (.going _ L12_0) _) = o
        obtain ⟨r, rfl, hl, hQ⟩ : ∃ r, o = some r ∧ _ := by
          rw [← hr]
          exact hloop _ ((hI _).2 ⟨by simp, by simp, by simp, by simp, by simp⟩)
        rcases hQ with ⟨hx, hh, k2, k3, rfl⟩ | ⟨hx, h4, rfl⟩
        · cases B3
          · simp [hx, hh, hl, k2, k3, h39a]
          · simp [hx, hh, hl, k2, k3, h39a, h39b]
        · simp [hx, h4]
      · have n3 : ((a.signals.length : Int) != (b.signals.length : Int)) = true := by rw [bne_iff_ne]; omega
        have hd : sameSL a.signals b.signals = false := by
          rw [← Bool.not_eq_true]
          intro e
          exact hab (by rw [sameSL_iff.1 e])
        rw [hd]
        simp [ir12, n1, n1', n3, h37]
  · have n1 : (a.act != b.act) = true := by simpa using e1
    have n1' : (a.act == b.act) = false := by simpa using e1
    simp [ir12, n1, n1']
end Go.Proofs.YtopjiafdimoeiaaGreat
