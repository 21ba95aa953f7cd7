/- The values of all lines, by the program. -/
import Derived.Test.YtopjiafdimoeiaaGreatEv1
import Derived.Test.YtopjiafdimoeiaaGreatSa3
import Derived.Test.YtopjiafdimoeiaaGreatSa4
import Derived.Test.YtopjiafdimoeiaaGreatCa1
import Derived.Test.YtopjiafdimoeiaaGreatTo2
namespace Go.Proofs.YtopjiafdimoeiaaGreat
open Go Go.Am Go.Proofs
set_option maxRecDepth 100000
def endsB : List Int → List Bool
  | [] => []
  | e :: l => (e == 0) :: (e == 2) :: endsB l
theorem endsB_app (l m : List Int) : endsB (l ++ m) = endsB l ++ endsB m := by
  induction l with
  | nil => rfl
  | cons e l ih => simp [endsB, ih]
theorem endsB_len (l : List Int) : (endsB l).length = 2 * l.length := by
  induction l with
  | nil => rfl
  | cons e l ih => simp [endsB, ih]; omega
theorem endsB_succ {l : List Int} {k : Nat} (hk : k < l.length) : endsB (l.take (k + 1)) = endsB (l.take k) ++ [l[k] == 0, l[k] == 2] := by
  rw [List.take_succ_eq_append_getElem hk, endsB_app]; rfl
/-- The values of all lines. -/
def linesV (s : Ste) : List Bool := endsB s.ends ++ s.inputs ++ s.values
theorem linesV_len (s : Ste) : (linesV s).length = 2 * s.ends.length + s.inputs.length + s.values.length := by
  unfold linesV
  rw [List.length_append, List.length_append, endsB_len]
abbrev h52 (s : Ste) (k : Nat) (a : Nat × Nat) : H := [⟨0, .box s.cells⟩, ⟨0, .arr 0 []⟩, ⟨a.1, .arr a.2 ((endsB (s.ends.take k)).map brow)⟩]
def T52 (s : Ste) (k : Nat) (a : Nat × Nat) : Tm := [none, some (.bptr 0 0), some (.sl 1 0 0 0 0), some (.sl 2 a.1 a.2 0 (2 * k)), none, none, none, some (ints s.ends), some (num s.ends.length), some (num k)] ++ List.replicate 18 none
theorem lp52 (s : Ste) (hs : s.small) {st : St} (a0 : Nat × Nat) (g0 : a0.2 = 1 ∨ a0.2 = 0) (h0 : At (T52 s 0 a0) (h52 s 0 a0) st) : ∃ r, ev pg (.code (.going 3 L52_0) st) = some r ∧ ∃ a : Nat × Nat, (a.2 = 1 ∨ a.2 = 0) ∧ EndsAs (.exit 0) (T52 s s.ends.length a) (h52 s s.ends.length a) r := by
  have hse := hs.e
  refine loop_at s.ends.length (T52 s) (h52 s) (fun _ a => a.2 = 1 ∨ a.2 = 0) _ ?_ ?_ a0 g0 h0
  · rintro k ⟨g, m⟩ f hf hk hG
    have hk' : (k : Int) < s.ends.length := by omega
    have wk := wrap_id (n := (k : Int) + 1) (by omega) (by omega)
    have hlen : (endsB (s.ends.take k)).length = 2 * k := by rw [endsB_len, List.length_take]; omega
    have hb : 2 * k + 2 ≤ 140737488355328 := by omega
    have h2 : 2 * (k + 1) = 2 * k + 2 := by omega
    unfold T52 h52
    rw [endsB_succ hk, h2]
    generalize endsB (s.ends.take k) = W at *
    have hmm : m = 1 ∨ m = 0 := hG
    rcases hmm with rfl | rfl <;> simp [L52_0, hk, hk', wk, hb, hlen, hf.ne]
  · rintro ⟨g, m⟩ f hf hG
    unfold T52 h52
    generalize endsB (s.ends.take s.ends.length) = W at *
    generalize 2 * s.ends.length = N at *
    have hmm : m = 1 ∨ m = 0 := hG
    rcases hmm with rfl | rfl <;> simp [L52_0, hf.ne]
theorem ev52 (s : Ste) (hs : s.small) : ev pg (.call (.fn 52 [] []) [s.v] []) = some { v := .sl 0 0 1 0 (linesV s).length, st := ⟨[], [⟨0, .arr 1 ((linesV s).map brow)⟩]⟩ } := by
  have hl := @lp52 s hs
  obtain ⟨h1, h2, h3, h4, h5⟩ := hs
  have hlen := linesV_len s
  unfold linesV at hlen ⊢
  have he := endsB_len s.ends
  have q1 : 2 * s.ends.length + s.inputs.length ≤ 140737488355328 := by omega
  have q2 : 2 * s.ends.length + s.inputs.length + s.values.length ≤ 140737488355328 := by omega
  rw [hlen]
  simp only [List.map_append]
  have hW : ((endsB s.ends).map brow).length = 2 * s.ends.length := by rw [List.length_map, he]
  unfold h52 at hl
  rw [List.take_length, List.take_zero, endsB] at hl
  generalize (endsB s.ends).map brow = W at *
  rw [ev_call, pg52]
  simp [ir52, ev_loop]
  generalize hr : ev pg (.code (.going _ L52_0) _) = o
  obtain ⟨r, rfl, ⟨g, m⟩, hm, f, hf, rfl⟩ : ∃ r, o = some r ∧ _ := by rw [← hr]; exact hl (0, 0) (.inr rfl) (by simp [T52])
  clear hr
  have hmm : m = 1 ∨ m = 0 := hm
  rcases hmm with rfl | rfl <;> simp [ev_draw1, exT, chkOk, T52, hW, q1, q2, moveVs, moveV, move1] <;> simp [Nat.add_assoc]
/-- Gates are computed, one after the other. -/
def gateStep (c : Ct) (F i : Nat) (L : List Bool) : List Bool := match c.signals[i]? with
  | some x => if x.kind = 0 then L.set (F + i) (x.on.holds L) else L
  | none => L
def gatesTo (c : Ct) (F : Nat) : Nat → List Bool → List Bool
  | 0, L => L
  | k + 1, L => gateStep c F k (gatesTo c F k L)
theorem gateStep_len (c : Ct) (F i : Nat) (L : List Bool) : (gateStep c F i L).length = L.length := by
  unfold gateStep
  split
  · split
    · rw [List.length_set]
    · rfl
  · rfl
theorem gatesTo_len (c : Ct) (F : Nat) (L : List Bool) : ∀ k, (gatesTo c F k L).length = L.length
  | 0 => rfl
  | k + 1 => by rw [gatesTo, gateStep_len, gatesTo_len c F L k]
abbrev firstS (s : Ste) : Nat := 2 * s.ends.length + s.inputs.length
def gatesL (c : Ct) (s : Ste) : List Bool := gatesTo c (firstS s) c.signals.length (linesV s)
/-- The state with computed gates. -/
def gated (c : Ct) (s : Ste) : Ste := ⟨s.ends, s.valves, s.inputs, (gatesL c s).drop (firstS s), s.timers⟩
theorem linesV_drop (s : Ste) : (linesV s).drop (firstS s) = s.values := by
  unfold linesV
  rw [List.drop_left' (by rw [List.length_append, endsB_len])]
/-- What gates need: their expressions are right. -/
def GatesOk (c : Ct) (N : Nat) : Prop := ∀ x ∈ c.signals, x.on.light = true ∧ x.on.check N = 0
abbrev h50 (c : Ct) (s : Ste) (L : List Bool) : H := [⟨0, .box c.cells⟩, ⟨0, .box s.cells⟩, o0, o0, o0, o0, o0, ⟨0, .box (nil5 2)⟩, o0, o0, o0, o0, o0, ⟨0, .box [.sl 14 0 1 0 s.ends.length, .sl 15 0 1 0 s.valves.length, .sl 16 0 1 0 s.inputs.length, .sl 17 0 1 0 s.values.length, .sl 18 0 1 0 s.timers.length]⟩, ⟨0, .arr 1 (s.ends.map nrow)⟩, ⟨0, .arr 1 (s.valves.map brow)⟩, ⟨0, .arr 1 (s.inputs.map brow)⟩, ⟨0, .arr 1 ((L.drop (firstS s)).map brow)⟩, ⟨0, .arr 1 (s.timers.map nrow)⟩, ⟨0, .arr 1 (L.map brow)⟩]
def T50 (c : Ct) (s : Ste) (k : Nat) : Tm := [none, none, some (.bptr 0 0), some (.bptr 1 0), some (.bptr 7 0), some (.bptr 13 0), some (.sl 19 0 1 0 (linesV s).length)] ++ List.replicate 23 none ++ [some (.imm (c.signals.map Sg.row)), some (num c.signals.length), some (num k)] ++ List.replicate 28 none
theorem lp50 {c : Ct} {A : Nat} (hM : Mid c A) (s : Ste) (hs : s.small) (hS : Shp c s) (hok : GatesOk c (countN c A)) {st : St} (h0 : At (T50 c s 0) (h50 c s (gatesTo c (firstS s) 0 (linesV s))) st) : ∃ r, ev pg (.code (.going 20 L50_0) st) = some r ∧ EndsAs (.exit 0) (T50 c s c.signals.length) (h50 c s (gatesL c s)) r := by
  refine loop_pic c.signals.length (T50 c s) (fun k => h50 c s (gatesTo c (firstS s) k (linesV s))) _ ?_ ?_ h0
  · intro k f hf hk
    have hsig := hM.sig
    have hk' : (k : Int) < c.signals.length := by omega
    have wk := wrap_id (n := (k : Int) + 1) (by omega) (by omega)
    have h84 := ev84 hM
    have hlen := linesV_len s
    have hgl := gatesTo_len c (firstS s) (linesV s) k
    have hA : s.ends.length = A := by have := hS.e; have := hM.act; omega
    have hF : firstS s = firstN c A := by unfold firstN; rw [firstS, hA, hS.i]
    have hN : (linesV s).length = countN c A := by rw [hlen, hA, hS.i, hS.v]
    obtain ⟨hli, hch⟩ := hok _ (List.getElem_mem hk)
    have hc256 : countN c A ≤ 256 := by
      have := hM.hi; have := hM.inp; have := hM.sig
      unfold countN; omega
    have h83 := ev83 c.signals[k].on (gatesTo c (firstS s) k (linesV s)) hli (by omega) (by rw [hgl, hN]; exact hch)
    have hval : s.values.length = c.signals.length := hS.v
    have hkF : firstN c A + k < countN c A := by unfold firstN countN; omega
    have w2 := wrap_id (n := (firstN c A : Int) + (k : Int)) (by omega) (by omega)
    have hnn : (0 : Int) ≤ (firstN c A : Int) + (k : Int) := by omega
    have htn : ((firstN c A : Int) + (k : Int)).toNat = firstN c A + k := by omega
    have hst : gatesTo c (firstS s) (k + 1) (linesV s) = if c.signals[k].kind = 0 then (gatesTo c (firstS s) k (linesV s)).set (firstS s + k) (c.signals[k].on.holds (gatesTo c (firstS s) k (linesV s))) else gatesTo c (firstS s) k (linesV s) := by
      rw [gatesTo, gateStep, List.getElem?_eq_getElem hk]
    have hdr : (gatesTo c (firstS s) k (linesV s)).length - firstN c A = s.values.length := by rw [hgl, hN, hval]; unfold countN firstN; omega
    unfold h50
    rw [hst]
    by_cases h0 : c.signals[k].kind = 0
    · rw [if_pos h0, ← List.set_drop, hF]
      rw [hF] at hgl h83 hdr
      generalize hW : gatesTo c (firstN c A) k (linesV s) = W at *
      generalize c.signals[k].on.holds W = b at *
      have hb1 : k < (W.drop (firstN c A)).length := by rw [List.length_drop]; omega
      have hb2 : firstN c A + k < W.length := by omega
      have hd1 : ((W.drop (firstN c A)).set k b).map brow = ((W.drop (firstN c A)).map brow).set k [.bool b] := by rw [List.map_set]
      have hd2 : (W.set (firstN c A + k) b).map brow = (W.map brow).set (firstN c A + k) [.bool b] := by rw [List.map_set]
      rw [hd1, hd2]
      have hb3 : k < W.length - firstN c A := by omega
      unfold bools at h83
      have hk4 : k < s.values.length := by omega
      have hk5 : (k : Int) < s.values.length := by omega
      have hk6 : (firstN c A : Int) + (k : Int) < (linesV s).length := by omega
      have hk7 : firstN c A + k < (linesV s).length := by omega
      generalize firstN c A = F at *
      simp [ev_draw1, exT, chkOk, T50, L50_0, hk, hk', wk, h0, h83, h84, w2, hnn, htn, hb2, hb3, hk4, hk7, hgl, hdr, hf.ne]
    · have h0b : (c.signals[k].kind == 0) = false := by simpa using h0
      rw [if_neg h0]
      generalize gatesTo c (firstS s) k (linesV s) = W at *
      simp [T50, L50_0, hk, hk', wk, h0b, hf.ne]
  · intro f hf
    unfold h50 gatesL
    generalize gatesTo c (firstS s) c.signals.length (linesV s) = W at *
    simp [T50, L50_0, hf.ne]
theorem gated_len {c : Ct} (s : Ste) : (gated c s).values.length = s.values.length := by
  unfold gated
  simp only [List.length_drop]
  rw [gatesL, gatesTo_len, linesV_len]
  unfold firstS
  omega
theorem ev50 {c : Ct} {A : Nat} (hM : Mid c A) (s : Ste) (hs : s.small) (hS : Shp c s) (hok : GatesOk c (countN c A)) : ev pg (.call (.fn 50 [] []) [c.v, s.v] []) = some { v := (gated c s).v, st := ⟨[], []⟩ } := by
  have hl := @lp50 c A hM s hs hS hok
  have h52 := ev52 s hs
  have hlen := gated_len (c := c) s
  have hd := linesV_drop s
  obtain ⟨g1, g2, g3, g4, g5⟩ := hs
  have c1 := ev42 s.ends g1
  have c2 := ev43 s.valves g2
  have c3 := ev43 s.inputs g3
  have c4 := ev43 s.values g4
  have c5 := ev42 s.timers g5
  unfold gated at hlen ⊢
  simp only at hlen
  unfold h50 at hl
  rw [gatesTo, hd] at hl
  generalize (gatesL c s).drop (firstS s) = W at *
  rw [ev_call, pg50]
  simp [ev_draw1, exT, chkOk, ir50, ev_loop, c1, c2, c3, c4, c5, h52]
  generalize hr : ev pg (.code (.going _ L50_0) _) = o
  obtain ⟨r, rfl, f, hf, rfl⟩ : ∃ r, o = some r ∧ _ := by rw [← hr]; exact hl (by simp [T50])
  clear hr
  simp [T50, hlen]
theorem gatesOk_of {c : Ct} (h : c.check = 0) (hfew : c.small = true) : GatesOk c (countN c c.act.toNat) := by
  have hR := rgt_check h hfew
  intro x hx
  have hl := (few_parts hfew).2.2.2.2.2 x hx
  refine ⟨hl.2.1, ?_⟩
  have he := hR.on x hx
  have hm := hR.mid
  have h1 := hm.hi
  have h2 := hm.inp
  have h3 := hm.sig
  unfold Ex.check
  rw [if_neg (by unfold countN; omega), if_pos hl.2.1]
  exact he
theorem fitE_shp {c : Ct} {s : Ste} (h : fitE c s = 0) : Shp c s := by
  unfold fitE at h
  by_cases hS : Shp c s
  · exact hS
  · rw [if_neg hS] at h; cases h
theorem stE_zero {c : Ct} {s : Ste} (h : stE c s = 0) : c.check = 0 ∧ Shp c s := by
  unfold stE at h
  by_cases hc : c.check = 0
  · rw [if_pos hc] at h
    exact ⟨hc, fitE_shp h⟩
  · rw [if_neg hc] at h; exact absurd h hc
def gatD (c : Ct) (s : Ste) : Ste := if stE c s = 0 then gated c s else zeroS
theorem ev19 (c : Ct) (hfew : c.small = true) (s : Ste) (hs : s.small) : ev pg (.call (.fn 19 [] []) [c.v, s.v] []) = some { v := .tup [(gatD c s).v, num (stE c s)], st := ⟨[], []⟩ } := by
  have h41 := ev41 c s hfew hs
  rw [ev_call, pg19]
  unfold gatD
  by_cases he : stE c s = 0
  · obtain ⟨h1, h2⟩ := stE_zero he
    have h50 := ev50 (rgt_check h1 hfew).mid s hs h2 (gatesOk_of h1 hfew)
    rw [he] at h41 ⊢
    rw [if_pos rfl]
    generalize gated c s = G at *
    simp [ir19, h41, h50]
  · rw [if_neg he]
    generalize stE c s = e at *
    simp [ir19, h41, he, zeroS]
theorem ev20 (c : Ct) (hfew : c.small = true) (s : Ste) (hs : s.small) (i : Nat) (hi : i < countN c c.act.toNat) (he : stE c s = 0) : ev pg (.call (.fn 20 [] []) [c.v, s.v, num i] []) = some { v := .tup [.bool (((linesV s)[i]?).getD false), num 0], st := ⟨[], []⟩ } := by
  have h41 := ev41 c s hfew hs
  have h52 := ev52 s hs
  obtain ⟨h1, hS⟩ := stE_zero he
  have hM := (rgt_check h1 hfew).mid
  have h51 := ev51 hM
  rw [he] at h41
  have hA : s.ends.length = c.act.toNat := by have := hS.e; have := hM.act; omega
  have hlen : (linesV s).length = countN c c.act.toNat := by
    rw [linesV_len, hA, hS.i, hS.v]
  have hi2 : ¬ (countN c c.act.toNat : Int) ≤ i := by omega
  have hi3 : i < (linesV s).length := by omega
  have hi4 : ¬ (i : Int) < 0 := by omega
  rw [ev_call, pg20]
  generalize linesV s = L at *
  generalize countN c c.act.toNat = N at *
  simp [ir20, h41, h52, h51, hi2, hi3, hi4]
end Go.Proofs.YtopjiafdimoeiaaGreat
