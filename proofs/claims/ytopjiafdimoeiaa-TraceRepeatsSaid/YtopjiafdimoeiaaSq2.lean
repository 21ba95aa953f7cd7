/- Sequences: does a step fit, and what is behind it; by the program. -/
import Derived.Test.YtopjiafdimoeiaaSq1
namespace Go.Proofs.Ytopjiafdimoeiaa
open Go Go.Am Go.Proofs
set_option maxRecDepth 100000
def far (n : Int) : List Sk → Int
  | [] => 0
  | y :: r => if n ≤ y.act then 6 else far n r
def hit (x : List Bool) : List Sk → Int
  | [] => 0
  | y :: r => if x[y.act.toNat]? = some y.out then 14 else hit x r
theorem far_at {n : Int} {w : List Sk} {k : Nat} (hk : k < w.length) : far n (w.drop k) = if n ≤ w[k].act then 6 else far n (w.drop (k + 1)) := by
  rw [List.drop_eq_getElem_cons hk]; rfl
theorem hit_at {x : List Bool} {w : List Sk} {k : Nat} (hk : k < w.length) : hit x (w.drop k) = if x[w[k].act.toNat]? = some w[k].out then 14 else hit x (w.drop (k + 1)) := by
  rw [List.drop_eq_getElem_cons hk]; rfl
def fitErr (n : Int) (x : List Bool) (t : Stp) : Int := if stepErr t = 0 then (if far n t.sk = 0 then hit x t.sk else far n t.sk) else stepErr t
theorem ordErr_ok : ∀ {w : List Sk} {last : Int}, ordErr last w = 0 → ∀ y ∈ w, ∃ p : Nat, y.act = p ∧ p < 6
  | [], _, _, y, hy => by cases hy
  | z :: r, last, h, y, hy => by
    simp only [ordErr] at h
    split at h
    · rename_i hz
      split at h
      · cases h
      · split at h
        · cases h
        · rcases List.mem_cons.1 hy with rfl | hy
          · simp only [okAct, Bool.and_eq_true, decide_eq_true_eq] at hz
            exact ⟨y.act.toNat, by omega, by omega⟩
          · exact ordErr_ok h y hy
    · cases h
theorem stepErr_ok {t : Stp} (h : stepErr t = 0) : t.sk.length ≤ 6 ∧ 0 < t.sk.length ∧ ordErr (-1) t.sk = 0 ∧ ∀ y ∈ t.sk, ∃ p : Nat, y.act = p ∧ p < 6 := by
  unfold stepErr at h
  split at h
  · cases h
  · split at h
    · cases h
    · split at h
      · rename_i h3
        exact ⟨by omega, by omega, h3, ordErr_ok h3⟩
      · contradiction
abbrev h179 (s : List V) (t : Stp) (x : List Bool) : H := [⟨0, .box s⟩, ⟨0, .box t.row⟩, ⟨0, .box (bcells x)⟩]
def I179a (s0 : Sq) (t : Stp) (x : List Bool) (k : Nat) (st : St) : Prop := noNil st.s ∧ st.h = h179 s0.cells t x ∧ st.s.length = 45 ∧ getS st.s 3 = .bptr 0 0 ∧ getS st.s 4 = .bptr 1 0 ∧ getS st.s 5 = .bptr 2 0 ∧ getS st.s 18 = words t.sk ∧ getS st.s 19 = num t.sk.length ∧ getS st.s 20 = num k ∧ far s0.act t.sk = far s0.act (t.sk.drop k)
def Q179a (s0 : Sq) (t : Stp) (x : List Bool) (r : R) : Prop := r.st.s.length = 45 ∧ ((r.x = .exit 0 ∧ r.st.h = h179 s0.cells t x ∧ noNil r.st.s ∧ getS r.st.s 4 = .bptr 1 0 ∧ getS r.st.s 5 = .bptr 2 0 ∧ far s0.act t.sk = 0) ∨ (r.x = .ret ∧ getS r.st.s 6 = num (far s0.act t.sk) ∧ far s0.act t.sk ≠ 0))
theorem loop179a (s0 : Sq) (t : Stp) (x : List Bool) (hw : t.sk.length ≤ 6) (st : St) (h0 : I179a s0 t x 0 st) : ∃ r, ev pg (.code (.going 3 L179_0) st) = some r ∧ Q179a s0 t x r := by
  refine loop_from (I179a s0 t x) t.sk.length (Q179a s0 t x) h0 ?_ ?_
  · rintro k ⟨s, h⟩ hk ⟨hn, rfl, hl, e3, e4, e5, e18, e19, e20, he⟩
    have hn := noNil_get hn
    simp only at hl e3 e4 e5 e18 e19 e20
    have hk' : (k : Int) < t.sk.length := by omega
    have wk := wrap_id (n := (k : Int) + 1) (by omega) (by omega)
    rw [far_at hk] at he
    rw [getS_expand hl]
    by_cases ha : s0.act ≤ t.sk[k].act
    · rw [if_pos ha] at he
      simp [L179_0, I179a, Q179a, List.range, List.range.loop, e3, e4, e5, e18, e19, e20, hk, hk', ha, he]
    · rw [if_neg ha] at he
      simp [L179_0, I179a, Q179a, List.range, List.range.loop, e3, e4, e5, e18, e19, e20, hk, hk', ha, he, wk, noNil, hn]
  · rintro ⟨s, h⟩ ⟨hn, rfl, hl, e3, e4, e5, e18, e19, e20, he⟩
    have hn := noNil_get hn
    simp only [List.drop_length] at hl e3 e4 e5 e18 e19 e20 he
    rw [getS_expand hl]
    simp [L179_0, Q179a, List.range, List.range.loop, e4, e5, e19, e20, he, far, noNil, hn]
def I179b (s0 : Sq) (t : Stp) (x : List Bool) (k : Nat) (st : St) : Prop := st.h = h179 s0.cells t x ∧ st.s.length = 45 ∧ getS st.s 5 = .bptr 2 0 ∧ getS st.s 31 = words t.sk ∧ getS st.s 32 = num t.sk.length ∧ getS st.s 33 = num k ∧ hit x t.sk = hit x (t.sk.drop k)
def Q179b (t : Stp) (x : List Bool) (r : R) : Prop := r.st.s.length = 45 ∧ ((r.x = .exit 2 ∧ hit x t.sk = 0) ∨ (r.x = .ret ∧ getS r.st.s 6 = num (hit x t.sk) ∧ hit x t.sk ≠ 0))
theorem loop179b (s0 : Sq) (t : Stp) (x : List Bool) (hx : x.length = 6) (hp : ∀ y ∈ t.sk, ∃ p : Nat, y.act = p ∧ p < 6) (hw : t.sk.length ≤ 6) (st : St) (h0 : I179b s0 t x 0 st) : ∃ r, ev pg (.code (.going 3 L179_1) st) = some r ∧ Q179b t x r := by
  refine loop_from (I179b s0 t x) t.sk.length (Q179b t x) h0 ?_ ?_
  · rintro k ⟨s, h⟩ hk ⟨rfl, hl, e5, e31, e32, e33, he⟩
    simp only at hl e5 e31 e32 e33
    have hk' : (k : Int) < t.sk.length := by omega
    have wk := wrap_id (n := (k : Int) + 1) (by omega) (by omega)
    obtain ⟨p, hpa, hp6⟩ := hp t.sk[k] (List.getElem_mem hk)
    rw [hit_at hk, hpa, Int.toNat_natCast] at he
    have hpl : p < x.length := by omega
    have hg : x[p]? = some x[p] := List.getElem?_eq_getElem hpl
    rw [getS_expand hl]
    by_cases ha : x[p] = t.sk[k].out
    · rw [if_pos (by rw [hg, ha])] at he
      simp [L179_1, I179b, Q179b, List.range, List.range.loop, e5, e31, e32, e33, hk, hk', hpa, hp6, hg, ha, he]
    · rw [if_neg (by rw [hg]; simpa using ha)] at he
      simp [L179_1, I179b, Q179b, List.range, List.range.loop, e5, e31, e32, e33, hk, hk', hpa, hp6, hg, ha, he, wk]
  · rintro ⟨s, h⟩ ⟨rfl, hl, e5, e31, e32, e33, he⟩
    simp only [List.drop_length] at hl e5 e31 e32 e33 he
    rw [getS_expand hl]
    simp [L179_1, Q179b, List.range, List.range.loop, e32, e33, he, hit]
theorem ev179 (s0 : Sq) (t : Stp) (x : List Bool) (hx : x.length = 6) : ev pg (.call (.fn 179 [] []) [s0.v, .agg t.row, .agg (bcells x)] []) = some { v := num (fitErr s0.act x t), st := ⟨[], []⟩ } := by
  have hc := ev197 t
  rw [ev_call, pg179]
  by_cases h : stepErr t = 0
  · obtain ⟨hw, _, _, hp⟩ := stepErr_ok h
    simp [ir179, fitErr, hc, h, ev_loop]
    generalize hr : ev pg (.code (.going 3 L179_0) _) = o
    obtain ⟨r, rfl, hl, hQ⟩ : ∃ r, o = some r ∧ Q179a s0 t x r := by rw [← hr]; exact loop179a s0 t x hw _ (by simp [I179a, noNil])
    rcases hQ with ⟨hx0, hh, hn, h4, h5, hE⟩ | ⟨hx0, h6, hE⟩
    · have hn1 : noNil (setS (setS (setS (setS r.st.s 30 (.bptr 1 0)) 31 (words t.sk)) 32 (.int .i64 t.sk.length)) 33 (.int .i64 0)) := noNil_set (noNil_set (noNil_set (noNil_set hn (by simp)) (by simp)) (by simp)) (by simp)
      simp [hx0, hh, h4, h5, hE, hl, ev_loop, adopt_none _ hn1]
      generalize hr2 : ev pg (.code (.going 3 L179_1) _) = o2
      obtain ⟨r2, rfl, hl2, hQ2⟩ : ∃ r, o2 = some r ∧ Q179b t x r := by rw [← hr2]; exact loop179b s0 t x hx hp hw _ (by simp [I179b, hl, h5])
      rcases hQ2 with ⟨hx2, hE2⟩ | ⟨hx2, h62, hE2⟩
      · simp [hx2, hE2, hl2]
      · simp [hx2, h62]
    · simp [hx0, h6, hE]
  · simp [ir179, fitErr, hc, h]
theorem six {l : List Bool} (h : l.length = 6) : ∃ a b c d e f, l = [a, b, c, d, e, f] := by
  match l, h with
  | [a, b, c, d, e, f], _ => exact ⟨a, b, c, d, e, f, rfl⟩
/-! ### what is behind a step -/
def beh (x : List Bool) (w : List Sk) : List Bool := w.foldl (fun x y => x.set y.act.toNat y.out) x
theorem beh_take {x : List Bool} {w : List Sk} {k : Nat} (hk : k < w.length) : beh x (w.take (k + 1)) = (beh x (w.take k)).set w[k].act.toNat w[k].out := by
  unfold beh
  rw [List.take_succ_eq_append_getElem hk, List.foldl_append]
  rfl
theorem beh_len : ∀ (w : List Sk) (x : List Bool), (beh x w).length = x.length
  | [], _ => rfl
  | y :: w, x => by
    show (beh (x.set y.act.toNat y.out) w).length = _
    rw [beh_len w]; simp
def I180 (x : List Bool) (t : Stp) (k : Nat) (st : St) : Prop := st.h = [⟨0, .box (bcells (beh x (t.sk.take k)))⟩, ⟨0, .box t.row⟩, ⟨0, .box (bcells (List.replicate 6 false))⟩] ∧ st.s.length = 21 ∧ getS st.s 2 = .bptr 0 0 ∧ getS st.s 4 = .bptr 2 0 ∧ getS st.s 8 = words t.sk ∧ getS st.s 9 = num t.sk.length ∧ getS st.s 10 = num k
def Q180 (x : List Bool) (t : Stp) (r : R) : Prop := r.st.s.length = 21 ∧ r.x = .exit 0 ∧ r.st.h = [⟨0, .box (bcells (beh x t.sk))⟩, ⟨0, .box t.row⟩, ⟨0, .box (bcells (List.replicate 6 false))⟩] ∧ getS r.st.s 2 = .bptr 0 0 ∧ getS r.st.s 4 = .bptr 2 0
theorem loop180 (x : List Bool) (t : Stp) (hx : x.length = 6) (hp : ∀ y ∈ t.sk, ∃ p : Nat, y.act = p ∧ p < 6) (hw : t.sk.length ≤ 6) (st : St) (h0 : I180 x t 0 st) : ∃ r, ev pg (.code (.going 3 L180_0) st) = some r ∧ Q180 x t r := by
  refine loop_from (I180 x t) t.sk.length (Q180 x t) h0 ?_ ?_
  · rintro k ⟨s, h⟩ hk ⟨rfl, hl, e2, e4, e8, e9, e10⟩
    simp only at hl e2 e4 e8 e9 e10
    have hk' : (k : Int) < t.sk.length := by omega
    have wk := wrap_id (n := (k : Int) + 1) (by omega) (by omega)
    obtain ⟨p, hpa, hp6⟩ := hp t.sk[k] (List.getElem_mem hk)
    have hb := beh_take (x := x) hk
    rw [hpa, Int.toNat_natCast] at hb
    have hbl := beh_len (t.sk.take k) x
    have hp1 : p + 1 ≤ (beh x (t.sk.take k)).length := by omega
    rw [getS_expand hl]
    simp [L180_0, I180, Q180, List.range, List.range.loop, e2, e4, e8, e9, e10, hk, hk', hpa, hp6, wk, hb, hp1, putL_one]
  · rintro ⟨s, h⟩ ⟨rfl, hl, e2, e4, e8, e9, e10⟩
    simp only [List.take_length] at hl e2 e4 e8 e9 e10
    rw [getS_expand hl]
    simp [L180_0, Q180, List.range, List.range.loop, e2, e4, e9, e10]
theorem ev180 (x : List Bool) (t : Stp) (hx : x.length = 6) (hp : ∀ y ∈ t.sk, ∃ p : Nat, y.act = p ∧ p < 6) (hw : t.sk.length ≤ 6) : ev pg (.call (.fn 180 [] []) [.agg (bcells x), .agg t.row] []) = some { v := .agg (bcells (beh x t.sk)), st := ⟨[], []⟩ } := by
  have hbl := beh_len t.sk x
  rw [ev_call, pg180]
  simp [ir180, ev_loop]
  generalize hr : ev pg (.code (.going 3 L180_0) _) = o
  obtain ⟨r, rfl, hl, hx0, hh, h2, h4⟩ : ∃ r, o = some r ∧ Q180 x t r := by rw [← hr]; exact loop180 x t hx hp hw _ (by simp [I180, beh])
  obtain ⟨a, b, c, d, e, f, hy⟩ := six (show (beh x t.sk).length = 6 by omega)
  rw [hy] at hh ⊢
  simp [hx0, hh, h2, h4, hl]
end Go.Proofs.Ytopjiafdimoeiaa
