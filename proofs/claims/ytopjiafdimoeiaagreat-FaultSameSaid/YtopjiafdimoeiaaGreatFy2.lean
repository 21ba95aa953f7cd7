/- The faulty control, by the program: names and signals. -/
import Derived.Test.YtopjiafdimoeiaaGreatEq2
namespace Go.Proofs.YtopjiafdimoeiaaGreat
open Go Go.Am Go.Proofs
set_option maxRecDepth 100000
def T83_4 : C := .seq (.reg [⟨some 155, none, .load true 5 (.t 8)⟩,
    ⟨some 156, none, .mv (.t 15)⟩,
    ⟨none, none, .store 5 (.t 4) (.t 155)⟩,
    ⟨some 5, none, .mv (.t 156)⟩])
  (.ret)
def T83_3 : C := .seq (.reg [⟨some 15, none, .mv (.c (.nils))⟩])
  (.seq (.seq (.reg [⟨some 92, none, .bslice false 1 [.str []] 2 [(0, (.c (.str [115, 116, 117, 99, 107, 48]))), (1, (.c (.str [115, 116, 117, 99, 107, 49])))]⟩,
    ⟨some 93, none, .len false (.t 92)⟩,
    ⟨some 94, none, .mv (.c (.int .i64 0))⟩])
  (.block 4 (.loop L29_4))) T83_4)
def T83_2 : C := .seq (.seq (.reg [⟨some 58, none, .faddr 2 (.t 2)⟩,
    ⟨some 59, none, .load false 1 (.t 58)⟩,
    ⟨some 60, none, .len false (.t 59)⟩,
    ⟨some 61, none, .mv (.c (.int .i64 0))⟩])
  (.block 2 (.loop L29_1))) T83_3
def T83_1 : C := .seq (.seq (.reg [⟨some 42, none, .load true 5 (.t 2)⟩,
    ⟨some 43, none, .call (.c (.fn 59 [] [])) [.t 42]⟩,
    ⟨some 44, none, .mv (.c (.int .i64 0))⟩])
  (.block 0 (.loop L29_0))) T83_2
theorem ir29_eq : ir29 = .mk 157 [.cell 4 true 5, .t 5] (
  .seq (.reg [⟨some 2, none, .box (.t 0)⟩,
    ⟨some 3, none, .box (.t 1)⟩,
    ⟨some 4, none, .alloc [.int .i64 0, .nils, .nils, .nils, .nils]⟩,
    ⟨some 5, none, .mv (.c (.nils))⟩])
  (.seq (.draw [⟨some 6, none, .alloc [.str [], .bool false, .int .i64 0, .nilfn]⟩,
    ⟨some 22, none, .call (.c (.fn 55 [] [])) []⟩,
    ⟨some 23, none, .faddr 0 (.t 3)⟩,
    ⟨some 24, none, .load false 1 (.t 23)⟩,
    ⟨some 25, none, .idxA true 6 4 (.t 22) (.t 24)⟩,
    ⟨none, none, .store 4 (.t 6) (.t 25)⟩] [(3, 1)])
  (.seq (.reg [⟨some 7, none, .mv (.c (.int .i64 (-1)))⟩])
  (.seq (.seq (.reg [⟨some 26, none, .faddr 1 (.t 6)⟩,
    ⟨some 27, none, .load false 1 (.t 26)⟩])
  (.cond (.t 27) (.reg [⟨some 28, none, .faddr 1 (.t 3)⟩,
      ⟨some 29, none, .load false 1 (.t 28)⟩,
      ⟨some 7, none, .mv (.t 29)⟩])
    (.skip)))
  (.seq (.draw [⟨some 8, none, .alloc [.int .i64 0, .nils, .nils, .nils, .nils]⟩,
    ⟨some 30, none, .faddr 0 (.t 2)⟩,
    ⟨some 31, none, .load false 1 (.t 30)⟩,
    ⟨some 32, none, .faddr 1 (.t 2)⟩,
    ⟨some 33, none, .load false 1 (.t 32)⟩,
    ⟨some 34, none, .call (.c (.fn 61 [] [])) [.t 33]⟩,
    ⟨some 35, none, .faddr 3 (.t 2)⟩,
    ⟨some 36, none, .load false 1 (.t 35)⟩,
    ⟨some 37, none, .call (.c (.fn 42 [] [])) [.t 36]⟩,
    ⟨some 38, none, .faddr 4 (.t 2)⟩,
    ⟨some 39, none, .load false 1 (.t 38)⟩,
    ⟨some 40, none, .call (.c (.fn 42 [] [])) [.t 39]⟩,
    ⟨some 41, none, .build [.int .i64 0, .nils, .nils, .nils, .nils] [(0, 1, (.t 31)), (1, 1, (.t 34)), (3, 1, (.t 37)), (4, 1, (.t 40))]⟩,
    ⟨none, none, .store 5 (.t 8) (.t 41)⟩] [(2, 5), (2, 8), (2, 11), (7, 5), (10, 5), (10, 8)])
  (.seq (.reg [⟨some 9, none, .mv (.c (.nils))⟩]) T83_1)))))) false false := rfl
abbrev h83 (c : Ct) (k i : Int) (cells : List V) (B : List V) (P M S : Ob) (t : H) : H := ⟨0, .box c.cells⟩ :: ⟨0, .box [num k, num i]⟩ :: ⟨0, .arr 0 []⟩ :: ⟨0, .arr 0 []⟩ :: ⟨0, .arr 0 []⟩ :: ⟨0, .arr 0 []⟩ :: ⟨0, .box [num 0, .sl 2 0 0 0 0, .sl 3 0 0 0 0, .sl 4 0 0 0 0, .sl 5 0 0 0 0]⟩ :: ⟨0, .box cells⟩ :: ⟨0, .box (kC 8)⟩ :: kTa (⟨0, .arr 0 []⟩ :: ⟨0, .arr 0 []⟩ :: ⟨0, .arr 0 []⟩ :: ⟨0, .arr 0 []⟩ :: ⟨0, .box B⟩ :: ⟨0, .arr 1 (c.inputs.map srow)⟩ :: P :: M :: S :: t)
structure Keep83 (li : Int) (st : List V) : Prop where
  nn : noNil st
  len : st.length = 157
  t2 : getS st 2 = .bptr 0 0
  t3 : getS st 3 = .bptr 1 0
  t4 : getS st 4 = .bptr 6 0
  t5 : getS st 5 = .sl 26 0 0 0 0
  t6 : getS st 6 = .bptr 7 0
  t7 : getS st 7 = num li
  t8 : getS st 8 = .bptr 21 0
abbrev b83 (c : Ct) (gs ms ns : Nat) : List V := [num c.act, .sl 22 0 1 0 c.inputs.length, .sl 25 gs ms 0 ns, .sl 23 0 1 0 c.plus.length, .sl 24 0 1 0 c.minus.length]
def cells83 (v : Int) (x : List V) : Prop := (∃ t, x = [.str t, .bool true, num v, .nilfn]) ∨ (∃ t a b, a < 17 ∧ b < 17 ∧ x = [.str t, .bool false, num v, .fn 86 [] [.bptr a 0, .bptr b 0]])
def I83a (c : Ct) (A : Nat) (k i : Int) (cells : List V) (li : Int) (n : Nat) (st : St) : Prop := ∃ g m, st.h = h83 c k i cells (b83 c 0 0 0) ⟨0, .arr 1 (c.plus.map nrow)⟩ ⟨0, .arr 1 (c.minus.map nrow)⟩ ⟨0, .arr 0 []⟩ [⟨0, .arr 0 []⟩, ⟨g, .arr m ((namesTo c A n).map srow)⟩] ∧ (m = 1 ∨ m = 0) ∧ Keep83 li st.s ∧ getS st.s 9 = .sl 27 g m 0 n ∧ getS st.s 43 = num (countN c A) ∧ getS st.s 44 = num n
def Q83a (c : Ct) (A : Nat) (k i : Int) (cells : List V) (li : Int) (r : R) : Prop := r.x = .exit 0 ∧ ∃ g m, r.st.h = h83 c k i cells (b83 c 0 0 0) ⟨0, .arr 1 (c.plus.map nrow)⟩ ⟨0, .arr 1 (c.minus.map nrow)⟩ ⟨0, .arr 0 []⟩ [⟨0, .arr 0 []⟩, ⟨g, .arr m ((namesTo c A (countN c A)).map srow)⟩] ∧ (m = 1 ∨ m = 0) ∧ Keep83 li r.st.s ∧ getS r.st.s 9 = .sl 27 g m 0 (countN c A)
theorem names_succ (c : Ct) (A n : Nat) : namesTo c A (n + 1) = namesTo c A n ++ [nameAt c A n] := by
  unfold namesTo
  rw [List.range_succ, List.map_append]
  rfl
theorem names_len (c : Ct) (A n : Nat) : (namesTo c A n).length = n := by simp [namesTo]
set_option maxHeartbeats 4000000 in
theorem loop83a {c : Ct} (hfew : c.small = true) (hc : c.check = 0) (A : Nat) (hA : c.act.toNat = A) (k i : Int) (cells : List V) (v : Int) (hcs : cells83 v cells) (li : Int) (st : St) (h0 : I83a c A k i cells li 0 st) : ∃ r, ev pg (.code (.going 28 L29_0) st) = some r ∧ Q83a c A k i cells li r := by
  have hM := mid_check hc hfew
  rw [hA] at hM
  have hcN : countN c A ≤ 172 := by
    obtain ⟨_, g1, g2, g3, g4⟩ := hM
    unfold countN
    omega
  refine loop_from (I83a c A k i cells li) (countN c A) (Q83a c A k i cells li) h0 ?_ ?_
  · rintro n ⟨s, hh⟩ hn ⟨g, m, rfl, hm, ⟨hnn, hl, e2, e3, e4, e5, e6, e7, e8⟩, e9, e43, e44⟩
    simp only at hl e2 e3 e4 e5 e6 e7 e8 e9 e43 e44
    have hnl : ∀ j, getS s j ≠ .nils := noNil_get hnn
    have wn := wrap_id (n := (n : Int) + 1) (by omega) (by omega)
    have h120 := ev62 c hfew hc n (by rw [hA]; exact hn)
    rw [hA] at h120
    have hsn := names_succ c A n
    have hln := names_len c A n
    have hb : (n + 1) * 16 ≤ 140737488355328 := by omega
    have hn' : (n : Int) < (countN c A : Nat) := by omega
    unfold I83a
    rw [hsn]
    generalize nameAt c A n = nm at *
    generalize namesTo c A n = K at *
    generalize countN c A = N at *
    rw [getS_expand hl]
    rcases hcs with ⟨t, rfl⟩ | ⟨t, a, b, ha, hb', rfl⟩ <;> rcases hm with rfl | rfl
    · simp [L29_0, List.range, List.range.loop, e2, e3, e4, e5, e6, e7, e8, e9, e43, e44, h120, hn', hln, hb, wn]
      exact ⟨_, _, ⟨rfl, rfl⟩, .inl rfl, ⟨by simp [noNil, hnl], rfl, rfl, rfl, rfl, rfl, rfl, rfl, rfl⟩, rfl, rfl⟩
    · simp [L29_0, List.range, List.range.loop, e2, e3, e4, e5, e6, e7, e8, e9, e43, e44, h120, hn', hln, hb, wn]
      exact ⟨_, _, ⟨rfl, rfl⟩, .inl rfl, ⟨by simp [noNil, hnl], rfl, rfl, rfl, rfl, rfl, rfl, rfl, rfl⟩, rfl, rfl⟩
    · have ha2 : a < 28 := by omega
      have hb2 : b < 28 := by omega
      simp [L29_0, List.range, List.range.loop, e2, e3, e4, e5, e6, e7, e8, e9, e43, e44, h120, hn', hln, hb, wn, ha2, hb2]
      exact ⟨_, _, ⟨rfl, rfl⟩, .inl rfl, ⟨by simp [noNil, hnl], rfl, rfl, rfl, rfl, rfl, rfl, rfl, rfl⟩, rfl, rfl⟩
    · have ha2 : a < 28 := by omega
      have hb2 : b < 28 := by omega
      simp [L29_0, List.range, List.range.loop, e2, e3, e4, e5, e6, e7, e8, e9, e43, e44, h120, hn', hln, hb, wn, ha2, hb2]
      exact ⟨_, _, ⟨rfl, rfl⟩, .inl rfl, ⟨by simp [noNil, hnl], rfl, rfl, rfl, rfl, rfl, rfl, rfl, rfl⟩, rfl, rfl⟩
  · rintro ⟨s, hh⟩ ⟨g, m, rfl, hm, ⟨hnn, hl, e2, e3, e4, e5, e6, e7, e8⟩, e9, e43, e44⟩
    simp only at hl e2 e3 e4 e5 e6 e7 e8 e9 e43 e44
    have hnl : ∀ j, getS s j ≠ .nils := noNil_get hnn
    unfold Q83a
    generalize namesTo c A (countN c A) = K at *
    generalize countN c A = N at *
    rw [getS_expand hl]
    simp [L29_0, List.range, List.range.loop, e2, e3, e4, e5, e6, e7, e8, e9, e43, e44]
    exact ⟨_, _, ⟨rfl, rfl⟩, hm, ⟨by simp [noNil, hnl], rfl, rfl, rfl, rfl, rfl, rfl, rfl, rfl⟩, rfl, rfl⟩
def I83b (c : Ct) (k i : Int) (cells : List V) (li v : Int) (gk mk : Nat) (K : List Txt) (n : Nat) (st : St) : Prop := ∃ g m, st.h = h83 c k i cells (b83 c g m n) ⟨0, .arr 1 (c.plus.map nrow)⟩ ⟨0, .arr 1 (c.minus.map nrow)⟩ ⟨g, .arr m (((c.signals.take n).map (replS li v)).map Sg.row)⟩ [⟨0, .arr 0 []⟩, ⟨gk, .arr mk (K.map srow)⟩] ∧ (m = 10 ∨ m = 0) ∧ Keep83 li st.s ∧ getS st.s 9 = .sl 27 gk mk 0 K.length ∧ getS st.s 59 = .imm (c.signals.map Sg.row) ∧ getS st.s 60 = num c.signals.length ∧ getS st.s 61 = num n
def Q83b (c : Ct) (k i : Int) (cells : List V) (li v : Int) (gk mk : Nat) (K : List Txt) (r : R) : Prop := r.x = .exit 2 ∧ ∃ g m, r.st.h = h83 c k i cells (b83 c g m c.signals.length) ⟨0, .arr 1 (c.plus.map nrow)⟩ ⟨0, .arr 1 (c.minus.map nrow)⟩ ⟨g, .arr m ((c.signals.map (replS li v)).map Sg.row)⟩ [⟨0, .arr 0 []⟩, ⟨gk, .arr mk (K.map srow)⟩] ∧ (m = 10 ∨ m = 0) ∧ Keep83 li r.st.s ∧ getS r.st.s 9 = .sl 27 gk mk 0 K.length
set_option maxHeartbeats 4000000 in
theorem loop83b {c : Ct} (hfew : c.small = true) (k i : Int) (cells : List V) (li v : Int) (hcs : cells83 v cells) (gk mk : Nat) (K : List Txt) (st : St) (h0 : I83b c k i cells li v gk mk K 0 st) : ∃ r, ev pg (.code (.going 28 L29_1) st) = some r ∧ Q83b c k i cells li v gk mk K r := by
  obtain ⟨f1, f2, f3, f4, f5, f6⟩ := few_parts hfew
  refine loop_from (I83b c k i cells li v gk mk K) c.signals.length (Q83b c k i cells li v gk mk K) h0 ?_ ?_
  · rintro n ⟨s, hh⟩ hn ⟨g, m, rfl, hm, ⟨hnn, hl, e2, e3, e4, e5, e6, e7, e8⟩, e9, e59, e60, e61⟩
    simp only at hl e2 e3 e4 e5 e6 e7 e8 e9 e59 e60 e61
    have hnl : ∀ j, getS s j ≠ .nils := noNil_get hnn
    have wn := wrap_id (n := (n : Int) + 1) (by omega) (by omega)
    obtain ⟨_, hon, hoff⟩ := f6 _ (List.getElem_mem hn)
    have h71a := ev57 c.signals[n].on li v (light_nodes hon).1
    have h71b := ev57 c.signals[n].off li v (light_nodes hoff).1
    have hsn : ((c.signals.take (n + 1)).map (replS li v)).map Sg.row = ((c.signals.take n).map (replS li v)).map Sg.row ++ [(replS li v c.signals[n]).row] := by
      rw [List.take_succ_eq_append_getElem hn, List.map_append, List.map_append]; rfl
    have hln : (((c.signals.take n).map (replS li v)).map Sg.row).length = n := by
      rw [List.length_map, List.length_map, List.length_take]; omega
    have hget : (c.signals.map Sg.row)[n]? = some c.signals[n].row := by rw [List.getElem?_map, List.getElem?_eq_getElem hn]; rfl
    have hb : (n + 1) * 120 ≤ 140737488355328 := by omega
    have hn' : (n : Int) < (c.signals.length : Int) := by omega
    unfold I83b
    rw [hsn]
    generalize c.signals[n] = x at *
    generalize ((c.signals.take n).map (replS li v)).map Sg.row = W at *
    generalize c.signals.map Sg.row = G at *
    rw [getS_expand hl]
    rcases hcs with ⟨t, rfl⟩ | ⟨t, a, b, ha, hb', rfl⟩ <;> rcases hm with rfl | rfl
    · simp [L29_1, List.range, List.range.loop, e2, e3, e4, e5, e6, e7, e8, e9, e59, e60, e61, h71a, h71b, hn', hln, hb, wn, hget]
      exact ⟨_, _, ⟨rfl, rfl⟩, .inl rfl, ⟨by simp [noNil, hnl], rfl, rfl, rfl, rfl, rfl, rfl, rfl, rfl⟩⟩
    · simp [L29_1, List.range, List.range.loop, e2, e3, e4, e5, e6, e7, e8, e9, e59, e60, e61, h71a, h71b, hn', hln, hb, wn, hget]
      exact ⟨_, _, ⟨rfl, rfl⟩, .inl rfl, ⟨by simp [noNil, hnl], rfl, rfl, rfl, rfl, rfl, rfl, rfl, rfl⟩⟩
    · have ha2 : a < 28 := by omega
      have hb2 : b < 28 := by omega
      simp [L29_1, List.range, List.range.loop, e2, e3, e4, e5, e6, e7, e8, e9, e59, e60, e61, h71a, h71b, hn', hln, hb, wn, hget, ha2, hb2]
      exact ⟨_, _, ⟨rfl, rfl⟩, .inl rfl, ⟨by simp [noNil, hnl], rfl, rfl, rfl, rfl, rfl, rfl, rfl, rfl⟩⟩
    · have ha2 : a < 28 := by omega
      have hb2 : b < 28 := by omega
      simp [L29_1, List.range, List.range.loop, e2, e3, e4, e5, e6, e7, e8, e9, e59, e60, e61, h71a, h71b, hn', hln, hb, wn, hget, ha2, hb2]
      exact ⟨_, _, ⟨rfl, rfl⟩, .inl rfl, ⟨by simp [noNil, hnl], rfl, rfl, rfl, rfl, rfl, rfl, rfl, rfl⟩⟩
  · rintro ⟨s, hh⟩ ⟨g, m, rfl, hm, ⟨hnn, hl, e2, e3, e4, e5, e6, e7, e8⟩, e9, e59, e60, e61⟩
    simp only at hl e2 e3 e4 e5 e6 e7 e8 e9 e59 e60 e61
    have hnl : ∀ j, getS s j ≠ .nils := noNil_get hnn
    rw [List.take_length]
    unfold Q83b
    generalize (c.signals.map (replS li v)).map Sg.row = W at *
    rw [getS_expand hl]
    simp [L29_1, List.range, List.range.loop, e2, e3, e4, e5, e6, e7, e8, e9, e59, e60, e61]
    exact ⟨_, _, ⟨rfl, rfl⟩, hm, ⟨by simp [noNil, hnl], rfl, rfl, rfl, rfl, rfl, rfl, rfl, rfl⟩⟩
end Go.Proofs.YtopjiafdimoeiaaGreat
