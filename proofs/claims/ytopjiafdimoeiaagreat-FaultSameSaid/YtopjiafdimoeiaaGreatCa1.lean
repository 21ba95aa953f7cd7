/- A list of some zeroes. The faulty control, by the reference: signals and pilots. The faulty control, by the reference: constants. The faulty control, by the reference: rounds. The examples of the law of fault; the law of injections holds of Am. States that are carried over, by the reference. -/
import Derived.Test.YtopjiafdimoeiaaGreatSa4
import Derived.Test.YtopjiafdimoeiaaGreatSa1
import Derived.KernelRfl
import Derived.Test.YtopjiafdimoeiaaGreatSa3
/- A list of some zeroes. -/
namespace Go.Proofs.YtopjiafdimoeiaaGreat
open Go Go.Am Go.Proofs
set_option maxRecDepth 100000
theorem wrapU64 {n : Int} (h : 0 ≤ n) (h2 : n < 18446744073709551616) : IntKind.u64.wrap n = n := by
  unfold IntKind.wrap; simp [IntKind.bits, IntKind.signed]; omega
theorem andLow {a : Nat} (h : a < 4294967296) : bitI .and .u64 (a : Int) 4294967295 = a := by
  have e : (BitVec.ofInt 64 (a : Int) &&& BitVec.ofInt 64 4294967295).toNat = a := by
    have h1 : BitVec.ofInt 64 4294967295 = BitVec.ofNat 64 (2 ^ 32 - 1) := by decide
    rw [h1, BitVec.ofInt_natCast, BitVec.toNat_and, BitVec.toNat_ofNat, BitVec.toNat_ofNat, Nat.mod_eq_of_lt (show a < 2 ^ 64 by omega), Nat.mod_eq_of_lt (show 2 ^ 32 - 1 < 2 ^ 64 by omega), Nat.and_two_pow_sub_one_eq_mod]
    omega
  unfold bitI
  show IntKind.u64.wrap ((BitVec.ofInt 64 (a : Int) &&& BitVec.ofInt 64 4294967295).toNat : Int) = a
  rw [e]
  exact wrapU64 (by omega) (by omega)
theorem ev110 (a b l : Nat) (ha : a ≤ 1152) (hb : b ≤ 2) (hl : l = a * b) : ev pg (.call (.fn 110 [] []) [.int .u64 a, .int .u64 b] []) = some { v := .tup [.int .u64 0, .int .u64 l], st := ⟨[], []⟩ } := by
  have a1 := andLow (a := a) (by omega)
  have a2 := andLow (a := b) (by omega)
  have a3 := andLow (a := 0) (by omega)
  have hl2 : l ≤ 2304 := by
    rw [hl]
    exact Nat.mul_le_mul ha hb
  have s1 : (a : Int).fdiv 4294967296 = 0 := by rw [Int.fdiv_eq_ediv_of_nonneg _ (by omega)]; omega
  have s2 : (b : Int).fdiv 4294967296 = 0 := by rw [Int.fdiv_eq_ediv_of_nonneg _ (by omega)]; omega
  have s3 : (l : Int).fdiv 4294967296 = 0 := by rw [Int.fdiv_eq_ediv_of_nonneg _ (by omega)]; omega
  have m1 : (a : Int) * (b : Int) = (l : Int) := by rw [hl]; simp
  have w1 := wrapU64 (n := (l : Int)) (by omega) (by omega)
  have w0 := wrapU64 (n := 0) (by omega) (by omega)
  simp at a3
  rw [ev_call, pg110]
  simp [ir110, a1, a2, a3, s1, s2, s3, m1, w1, w0, IntKind.bits]
theorem ev82 (a b l : Nat) (ha : a ≤ 1152) (hb : b ≤ 2) (hl : l = a * b) : ev pg (.call (.fn 82 [] []) [.int .u64 a, .int .u64 b] []) = some { v := .tup [.int .u64 0, .int .u64 l], st := ⟨[], []⟩ } := by
  have h := ev110 a b l ha hb hl
  rw [ev_call, pg82]
  simp [ir82, h]
theorem ev46 (n : Nat) (hn : n ≤ 2) : ev pg (.call (.fn 46 [] []) [ints [0], num n] []) = some { v := ints (List.replicate n 0), st := ⟨[], []⟩ } := by
  have h := ev82 1 n n (by omega) hn (by omega)
  have w0 := wrapU64 (n := 0) (by omega) (by omega)
  have w1 := wrapU64 (n := 1) (by omega) (by omega)
  have w2 := wrapU64 (n := 2) (by omega) (by omega)
  have v0 := wrap_id (n := 0) (by omega) (by omega)
  have v1 := wrap_id (n := 1) (by omega) (by omega)
  have v2 := wrap_id (n := 2) (by omega) (by omega)
  rw [ev_call, pg46]
  rcases (by omega : n = 0 ∨ n = 1 ∨ n = 2) with rfl | rfl | rfl
  · simp at h
    simp [ir46, h, w0, w1, v0, v1, ev_loop, ev_going, L46_0]
  · simp at h
    simp [ir46, h, w0, w1, v0, v1, ev_loop, ev_going, L46_0]
  · simp at h
    simp [ir46, h, w0, w1, w2, v0, v1, v2, ev_loop]
    rw [ev_going]
    simp [L46_0, v2]
    rw [ev_going]
    simp [L46_0]
end Go.Proofs.YtopjiafdimoeiaaGreat
/- The faulty control, by the reference: signals and pilots. -/
namespace Go.Proofs.YtopjiafdimoeiaaGreat
open Go Go.Am Go.Proofs
set_option maxRecDepth 100000
structure Keep32 (st : List V) : Prop where
  nn : noNil st
  len : st.length = 138
  t2 : getS st 2 = .bptr 0 0
  t3 : getS st 3 = .bptr 1 0
  t4 : getS st 4 = .bptr 6 0
  t5 : getS st 5 = .sl 16 0 0 0 0
  t6 : getS st 6 = .bptr 11 0
end Go.Proofs.YtopjiafdimoeiaaGreat
/- The faulty control, by the reference: constants. -/
namespace Go.Proofs.YtopjiafdimoeiaaGreat
open Go Go.Am Go.Proofs
set_option maxRecDepth 100000
structure Keep32v (P : List (Int × Int)) (v : Int) (gv mv nv : Nat) (st : List V) : Prop where
  keep : Keep32 st
  t9 : getS st 9 = .sl 20 gv mv 0 nv
  t10 : getS st 10 = faults P
  t11 : getS st 11 = num v
end Go.Proofs.YtopjiafdimoeiaaGreat
/- The faulty control, by the reference: rounds. -/
namespace Go.Proofs.YtopjiafdimoeiaaGreat
open Go Go.Am Go.Proofs
set_option maxRecDepth 100000
theorem Keep32.set {s : List V} (h : Keep32 s) (j : Nat) (x : V) (hx : x ≠ .nils) (hj : j ∉ [2, 3, 4, 5, 6]) : Keep32 (setS s j x) := by
  simp only [List.mem_cons, List.not_mem_nil, or_false, not_or] at hj
  obtain ⟨h2, h3, h4, h5, h6⟩ := hj
  exact ⟨noNil_set h.nn hx, by rw [setS_length, h.len], by rw [getS_setS_ne h2, h.t2], by rw [getS_setS_ne h3, h.t3], by rw [getS_setS_ne h4, h.t4], by rw [getS_setS_ne h5, h.t5], by rw [getS_setS_ne h6, h.t6]⟩
theorem Keep32v.set {P : List (Int × Int)} {v : Int} {gv mv nv : Nat} {s : List V} (h : Keep32v P v gv mv nv s) (j : Nat) (x : V) (hx : x ≠ .nils) (hj : j ∉ [2, 3, 4, 5, 6]) (hj2 : j ∉ [9, 10, 11]) : Keep32v P v gv mv nv (setS s j x) := by
  simp only [List.mem_cons, List.not_mem_nil, or_false, not_or] at hj2
  obtain ⟨h9, h10, h11⟩ := hj2
  exact ⟨h.keep.set j x hx hj, by rw [getS_setS_ne h9, h.t9], by rw [getS_setS_ne h10, h.t10], by rw [getS_setS_ne h11, h.t11]⟩
end Go.Proofs.YtopjiafdimoeiaaGreat
/- The examples of the law of fault; the law of injections holds of Am. -/
namespace Go.Proofs.YtopjiafdimoeiaaGreat
open Go Go.Am Go.Proofs
set_option maxRecDepth 1000000
abbrev hoV : V := .agg [.int .i64 1, .imm [[.str [103, 111]]], .imm [[.str [117, 112], .int .i64 0, .int .i64 1, .int .i64 2, .imm [], .int .i64 0, .int .i64 0, .imm [], .int .i64 0, .bool false], [.str [100, 111, 119, 110], .int .i64 0, .int .i64 2, .int .i64 0, .imm [[.int .i64 1, .int .i64 2, .imm []]], .int .i64 0, .int .i64 0, .imm [], .int .i64 0, .bool false]], .imm [[.int .i64 3]], .imm [[.int .i64 4]]]
abbrev hoA : V := .agg [.int .i64 1, .imm [[.str [103, 111]]], .imm [[.str [117, 112], .int .i64 0, .int .i64 0, .int .i64 1, .imm [], .int .i64 0, .int .i64 0, .imm [], .int .i64 0, .bool false], [.str [100, 111, 119, 110], .int .i64 0, .int .i64 2, .int .i64 0, .imm [[.int .i64 0, .int .i64 1, .imm []]], .int .i64 0, .int .i64 0, .imm [], .int .i64 0, .bool false]], .imm [[.int .i64 3]], .imm [[.int .i64 4]]]
abbrev hoB : V := .agg [.int .i64 1, .imm [[.str [103, 111]]], .imm [[.str [117, 112], .int .i64 0, .int .i64 1, .int .i64 2, .imm [], .int .i64 0, .int .i64 0, .imm [], .int .i64 0, .bool false], [.str [100, 111, 119, 110], .int .i64 0, .int .i64 2, .int .i64 0, .imm [[.int .i64 1, .int .i64 2, .imm []]], .int .i64 0, .int .i64 0, .imm [], .int .i64 0, .bool false], [.str [115, 116, 117, 99, 107, 48], .int .i64 0, .int .i64 0, .int .i64 0, .imm [], .int .i64 0, .int .i64 0, .imm [], .int .i64 0, .bool false]], .imm [[.int .i64 5]], .imm [[.int .i64 4]]]
theorem hoist_run : evN pg 1000 (.call (.fn 23 [] []) [] []) = some { v := hoV, st := ⟨[], []⟩ } := by kernel_rfl
theorem ev23 : ev pg (.call (.fn 23 [] []) [] []) = some { v := hoV, st := ⟨[], []⟩ } := ev_of hoist_run
def hoist : Ct := ⟨1, [[103, 111]], [⟨[117, 112], 0, .mk 1 2 [], .mk 0 0 [], 0, false⟩, ⟨[100, 111, 119, 110], 0, .mk 2 0 [.mk 1 2 []], .mk 0 0 [], 0, false⟩], [3], [4]⟩
theorem hoist_v : hoist.v = hoV := by kernel_rfl
theorem hoistA_v : (injD hoist 2 2).v = hoA := by kernel_rfl
theorem hoistB_v : (injD hoist 0 0).v = hoB := by kernel_rfl
theorem few0 : hoist.small = true := by kernel_rfl
theorem check0 : hoist.check = 0 := by kernel_rfl
theorem inj2 : injE hoist 2 2 = 0 := by kernel_rfl
theorem inj0 : injE hoist 0 0 = 0 := by kernel_rfl
theorem all0 : (allL hoist).length = 14 := by kernel_rfl
theorem touch0 : touchR hoist 2 2 = [3, 4] := by kernel_rfl
theorem touch1 : touchR hoist 0 0 = [5] := by kernel_rfl
theorem flt0 : fltE hoist 2 2 = 0 := by kernel_rfl
theorem flt1 : fltE hoist 0 0 = 0 := by kernel_rfl
theorem parse0 : parseV hoist [108, 105, 110, 101, 32, 117, 112, 32, 102, 97, 108, 115, 101] = ((3, 3), 0) := by kernel_rfl
theorem ev7 : ev pg (.call (.fn 7 [] []) [] []) = some { v := .bool true, st := ⟨[], []⟩ } := by
  have h66 := ev23
  have h15 := ev24 hoist few0
  have h28a := ev8 hoist few0 2 2
  have h28b := ev8 hoist few0 0 0
  have h17a := ev25 hoist few0 2 2
  have h17b := ev25 hoist few0 0 0
  have h25 := ev26 hoist few0 [108, 105, 110, 101, 32, 117, 112, 32, 102, 97, 108, 115, 101]
  have e1 := ev27 [3, 4] [3, 4] (by decide)
  have e2 := ev27 [5] [5] (by decide)
  have e3 := ev27 [4] [4] (by decide)
  have e1' : ev pg (.call (.fn 27 [] []) [ints [3, 4], .imm [[.int .i64 3], [.int .i64 4]]] []) = some { v := .bool true, st := ⟨[], []⟩ } := e1
  have e2' : ev pg (.call (.fn 27 [] []) [ints [5], .imm [[.int .i64 5]]] []) = some { v := .bool true, st := ⟨[], []⟩ } := e2
  have e2'' : ev pg (.call (.fn 27 [] []) [.imm [[.int .i64 5]], .imm [[.int .i64 5]]] []) = some { v := .bool true, st := ⟨[], []⟩ } := e2
  have e3' : ev pg (.call (.fn 27 [] []) [.imm [[.int .i64 4]], .imm [[.int .i64 4]]] []) = some { v := .bool true, st := ⟨[], []⟩ } := e3
  have hal := all0
  have w0 := wrap_id (n := 0) (by omega) (by omega)
  rw [check0] at h15
  rw [touch0, flt0] at h17a
  rw [touch1, flt1] at h17b
  rw [parse0] at h25
  rw [inj2, hoistA_v] at h28a
  rw [inj0, hoistB_v] at h28b
  generalize allL hoist = L at *
  rw [hoist_v] at h15 h28a h28b h17a h17b h25
  rw [ev_call, pg7]
  simp [ir7, h66, h15, h28a, h28b, h17a, h17b, h25, hal, e1', e2', e2'', e3', w0]
set_option maxRecDepth 100000
end Go.Proofs.YtopjiafdimoeiaaGreat
/- States that are carried over, by the reference. -/
namespace Go.Proofs.YtopjiafdimoeiaaGreat
open Go Go.Am Go.Proofs
set_option maxRecDepth 100000
/-- At most two constant gates. -/
theorem w_two (c : Ct) (k i : Int) : (faultyF c k i).w.length ≤ 2 := by
  have hs : ∀ (v : Int) (x : Fs), (stepV c k i c.act.toNat v x).w.length ≤ x.w.length + 1 := by
    intro v x
    unfold stepV
    split <;> simp
  unfold faultyF
  have h1 := hs 1 (stepV c k i c.act.toNat 0 (startF c k i c.act.toNat))
  have h2 := hs 0 (startF c k i c.act.toNat)
  have h3 : (startF c k i c.act.toNat).w.length = 0 := rfl
  omega
abbrev o0 : Ob := ⟨0, .arr 0 []⟩
abbrev nil5 (b : Nat) : List V := [.sl b 0 0 0 0, .sl (b + 1) 0 0 0 0, .sl (b + 2) 0 0 0 0, .sl (b + 3) 0 0 0 0, .sl (b + 4) 0 0 0 0]
def carS (c : Ct) (k i : Int) (s : Ste) : Ste := ⟨s.ends, s.valves, s.inputs, s.values ++ (faultyF c k i).w, s.timers ++ List.replicate (faultyF c k i).w.length 0⟩
def carE (c : Ct) (k i : Int) (s : Ste) : Int := if fltE c k i = 0 then (if stE c s = 0 then injE c k i else stE c s) else fltE c k i
def carD (c : Ct) (k i : Int) (s : Ste) : Ste := if carE c k i s = 0 then carS c k i s else zeroS
theorem ev14 (c : Ct) (hfew : c.small = true) (s : Ste) (hs : s.small) (k i : Int) : ev pg (.call (.fn 14 [] []) [c.v, fv k i, s.v] []) = some { v := .tup [(carD c k i s).v, num (carE c k i s)], st := ⟨[], []⟩ } := by
  have h28 := ev28 c hfew k i
  have h41 := ev41 c s hfew hs
  have h8 := ev8 c hfew k i
  have h29 := ev29 c hfew k i
  have hw := w_two c k i
  rw [ev_call, pg14]
  unfold carD carE
  by_cases e1 : fltE c k i = 0
  · rw [if_pos e1]
    rw [e1] at h28
    have h29' := h29 e1
    by_cases e2 : stE c s = 0
    · rw [if_pos e2]
      rw [e2] at h41
      unfold carS
      generalize injD c k i = D at *
      generalize injE c k i = e at *
      generalize (faultyF c k i).d = F at *
      generalize (faultyF c k i).w = w at *
      by_cases e3 : e = 0
      · rw [if_pos e3]
        subst e3
        obtain ⟨g1, g2, g3, g4, g5⟩ := hs
        have c1 := ev42 s.ends g1
        have c2 := ev43 s.valves g2
        have c3 := ev43 s.inputs g3
        have c4 := ev44c [s.values, w] (by simp) (by simp) (by simp; omega)
        have c5 := ev45c [s.timers, List.replicate w.length 0] (by simp) (by simp) (by simp; omega)
        have c6 : ev pg (.call (.fn 46 [] []) [.imm [[.int .i64 0]], num w.length] []) = some { v := ints (List.replicate w.length 0), st := ⟨[], []⟩ } := ev46 w.length hw
        simp [llsB, llsI] at c4 c5
        simp [ev_draw1, exT, chkOk, ir14, h28, h41, h8, h29', c1, c2, c3, c4, c5, c6]
      · rw [if_neg e3]
        simp [ir14, h28, h41, h8, e3, zeroS]
    · rw [if_neg e2, if_neg e2]
      generalize stE c s = e at *
      simp [ir14, h28, h41, e2, zeroS]
  · rw [if_neg e1, if_neg e1]
    generalize fltE c k i = e at *
    simp [ir14, h28, e1, zeroS]
end Go.Proofs.YtopjiafdimoeiaaGreat
