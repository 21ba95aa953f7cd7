/- The directions by the reference; the ends. -/
import Derived.Test.YtopjiafdimoeiaaTr3
namespace Go.Proofs.Ytopjiafdimoeiaa
open Go Go.Am Go.Proofs
set_option maxRecDepth 100000
def I42 (w : List Sk) (a : Int) (k : Nat) (st : St) : Prop := ∃ g m, st.h = [⟨0, .arr 0 []⟩, ⟨g, .arr m ((dirs (w.take k) a).map brow)⟩] ∧ (m = 1 ∨ m = 0) ∧ st.s.length = 39 ∧ getS st.s 0 = words w ∧ getS st.s 1 = num a ∧ getS st.s 7 = .sl 1 g m 0 (dirs (w.take k) a).length ∧
  getS st.s 8 = num k
def Q42 (w : List Sk) (a : Int) (r : R) : Prop := ∃ g m, r.st.h = [⟨0, .arr 0 []⟩, ⟨g, .arr m ((dirs w a).map brow)⟩] ∧ r.st.s.length = 39 ∧ getS r.st.s 7 = .sl 1 g m 0 (dirs w a).length ∧ r.x = .exit 0
theorem loop42 (w : List Sk) (a : Int) (hw : w.length ≤ 4096) (st : St) (h0 : I42 w a 0 st) : ∃ r, ev pg (.code (.going 2 L42_0) st) = some r ∧ Q42 w a r := by
  refine loop_from (I42 w a) w.length (Q42 w a) h0 ?_ ?_
  · rintro k ⟨s, h⟩ hk ⟨g, m, rfl, hm, hl, e0, e1, e7, e8⟩
    simp only at hl e0 e1 e7 e8
    have hk' : (k : Int) < w.length := by omega
    have wk := wrap_id (n := (k : Int) + 1) (by omega) (by omega)
    have hd := dirs_take a hk
    have hln := dirs_len (w.take k) a
    have hlt : (w.take k).length ≤ k := by simp; omega
    have h47 : (dirs (w.take k) a).length + 1 ≤ 140737488355328 := by omega
    rw [getS_expand hl]
    by_cases hx : w[k].act = a
    · rw [if_pos hx] at hd
      simp [L42_0, I42, Q42, List.range, List.range.loop, e0, e1, e7, e8, hk, hk', hx, wk, hm, h47, hd]
      exact ⟨_, _, ⟨rfl, rfl⟩, .inl rfl, rfl, rfl⟩
    · rw [if_neg hx] at hd
      simp [L42_0, I42, Q42, List.range, List.range.loop, e0, e1, e7, e8, hk, hk', hx, wk, hd]
      exact ⟨_, _, ⟨rfl, rfl⟩, hm, rfl, rfl⟩
  · rintro ⟨s, h⟩ ⟨g, m, rfl, hm, hl, e0, e1, e7, e8⟩
    simp only [List.take_length] at hl e0 e1 e7 e8
    rw [getS_expand hl]
    simp [L42_0, I42, Q42, List.range, List.range.loop, e0, e1, e7, e8]
theorem ev42 (w : List Sk) (a : Int) (hw : w.length < 2 ^ 62) : ev pg (.call (.fn 42 [] []) [words w, num a] []) = some { v := .tup [bools (dirsE w a).1, num (dirsE w a).2], st := ⟨[], []⟩ } := by
  have hc := ev92 w hw
  have hd := ev93 a
  rw [ev_call, pg42]
  by_cases h : ckErr w = 0
  · have hle : w.length ≤ 4096 := by
      unfold ckErr at h
      split at h
      · cases h
      · omega
    by_cases ha : okAct a = true
    · simp [ir42, hc, h, hd, dirsE, ha, ev_loop]
      generalize hr : ev pg (.code (.going 2 L42_0) _) = o
      obtain ⟨r, rfl, g, m, hh, hl, h7, hx⟩ : ∃ r, o = some r ∧ Q42 w a r := by rw [← hr]; exact loop42 w a hle _ (by simp [I42, dirs]; exact ⟨_, _, ⟨rfl, rfl⟩, .inr rfl, rfl, rfl⟩)
      simp [hx, hh, hl, h7]
    · simp [ir42, hc, h, hd, dirsE, ha]
  · simp [ir42, hc, h, dirsE]
/-! ### the ends -/
def endsGo (n : Nat) : List Bool → List Sk → List Bool × Int
  | l, [] => (l, 0)
  | l, x :: r => if (n : Int) ≤ x.act then ([], 6) else if l[x.act.toNat]? = some x.out then ([], 14) else endsGo n (l.set x.act.toNat x.out) r
theorem endsGo_at {n : Nat} {l : List Bool} {w : List Sk} {k : Nat} (hk : k < w.length) : endsGo n l (w.drop k) = if (n : Int) ≤ w[k].act then ([], 6) else if l[w[k].act.toNat]? = some w[k].out then ([], 14) else endsGo n (l.set w[k].act.toNat w[k].out) (w.drop (k + 1)) := by
  rw [List.drop_eq_getElem_cons hk]; rfl
def endsE (w : List Sk) (n : Int) : List Bool × Int := if ckErr w ≠ 0 then ([], ckErr w) else if 1 ≤ n ∧ n ≤ 6 then endsGo n.toNat (List.replicate n.toNat false) w else ([], 2)
theorem firstErr_ok : ∀ {w : List Sk}, firstErr w = 0 → ∀ x ∈ w, okAct x.act = true
  | [], _, x, hx => by cases hx
  | y :: r, h, x, hx => by
    simp only [firstErr] at h
    split at h
    · rename_i hy
      rcases List.mem_cons.1 hx with rfl | hx
      · unfold skErr at hy
        split at hy
        · assumption
        · cases hy
      · exact firstErr_ok h x hx
    · contradiction
theorem ckErr_ok {w : List Sk} (h : ckErr w = 0) : w.length ≤ 4096 ∧ ∀ x ∈ w, ∃ p : Nat, x.act = p ∧ p < 6 := by
  unfold ckErr at h
  split at h
  · cases h
  · refine ⟨by omega, fun x hx => ?_⟩
    have := firstErr_ok h x hx
    simp only [okAct, Bool.and_eq_true, decide_eq_true_eq] at this
    exact ⟨x.act.toNat, by omega, by omega⟩
theorem set_rows (l : List Bool) (p : Nat) (b : Bool) : (l.map brow).set p [.bool b] = (l.set p b).map brow := by rw [List.map_set]
def I43 (w : List Sk) (n : Nat) (k : Nat) (st : St) : Prop := ∃ l, st.h = [⟨0, .arr 1 (l.map brow)⟩, ⟨0, .arr 0 []⟩] ∧ l.length = n ∧ st.s.length = 51 ∧ getS st.s 0 = words w ∧ getS st.s 1 = num n ∧ getS st.s 7 = .sl 0 0 1 0 n ∧ getS st.s 5 = num 0 ∧
  getS st.s 23 = words w ∧ getS st.s 24 = num w.length ∧ getS st.s 25 = num k ∧ endsGo n (List.replicate n false) w = endsGo n l (w.drop k)
def Q43 (w : List Sk) (n : Nat) (r : R) : Prop := r.st.s.length = 51 ∧ ((r.x = .exit 0 ∧ ∃ l, r.st.h = [⟨0, .arr 1 (l.map brow)⟩, ⟨0, .arr 0 []⟩] ∧ l.length = n ∧ getS r.st.s 7 = .sl 0 0 1 0 n ∧ endsGo n (List.replicate n false) w = (l, 0)) ∨
  (r.x = .ret ∧ getS r.st.s 4 = .nils ∧ getS r.st.s 5 = num (endsGo n (List.replicate n false) w).2 ∧ (endsGo n (List.replicate n false) w).1 = []))
theorem loop43 (w : List Sk) (n : Nat) (hw : w.length ≤ 4096) (hp : ∀ x ∈ w, ∃ p : Nat, x.act = p ∧ p < 6) (st : St) (h0 : I43 w n 0 st) : ∃ r, ev pg (.code (.going 2 L43_0) st) = some r ∧ Q43 w n r := by
  refine loop_from (I43 w n) w.length (Q43 w n) h0 ?_ ?_
  · rintro k ⟨s, h⟩ hk ⟨l, rfl, hll, hl, e0, e1, e7, e5, e23, e24, e25, he⟩
    simp only at hl e0 e1 e7 e5 e23 e24 e25
    have hk' : (k : Int) < w.length := by omega
    have wk := wrap_id (n := (k : Int) + 1) (by omega) (by omega)
    obtain ⟨p, hpa, hp6⟩ := hp w[k] (List.getElem_mem hk)
    rw [endsGo_at hk, hpa, Int.toNat_natCast] at he
    rw [getS_expand hl]
    by_cases hx : n ≤ p
    · rw [if_pos (by omega)] at he
      simp [L43_0, I43, Q43, List.range, List.range.loop, e0, e1, e7, e5, e23, e24, e25, hk, hk', wk, hpa, hx, he]
    · rw [if_neg (by omega)] at he
      have hpl : p < l.length := by omega
      have hpn : p < n := by omega
      have hg : l[p]? = some l[p] := List.getElem?_eq_getElem hpl
      by_cases hy : l[p] = w[k].out
      · rw [if_pos (by rw [hg, hy])] at he
        simp [L43_0, I43, Q43, List.range, List.range.loop, e0, e1, e7, e5, e23, e24, e25, hk, hk', wk, hpa, hx, hg, hy, hpn, he]
      · rw [if_neg (by rw [hg]; simpa using hy)] at he
        simp [L43_0, I43, Q43, List.range, List.range.loop, e0, e1, e7, e5, e23, e24, e25, hk, hk', wk, hpa, hx, hg, hy, hpn, he]
        exact ⟨l.set p w[k].out, by rw [set_rows], by simpa using hll, rfl⟩
  · rintro ⟨s, h⟩ ⟨l, rfl, hll, hl, e0, e1, e7, e5, e23, e24, e25, he⟩
    simp only [List.drop_length] at hl e0 e1 e7 e5 e23 e24 e25 he
    rw [getS_expand hl]
    simp [L43_0, Q43, List.range, List.range.loop, e0, e1, e7, e5, e23, e24, e25, he, endsGo]
    exact hll
theorem ev43 (w : List Sk) (n : Int) (hw : w.length < 2 ^ 62) : ev pg (.call (.fn 43 [] []) [words w, num n] []) = some { v := .tup [bools (endsE w n).1, num (endsE w n).2], st := ⟨[], []⟩ } := by
  have hc := ev91 w hw
  rw [ev_call, pg43]
  by_cases h : ckErr w = 0
  · obtain ⟨hle, hp⟩ := ckErr_ok h
    by_cases ha : 1 ≤ n ∧ n ≤ 6
    · obtain ⟨m, rfl⟩ : ∃ m : Nat, n = m := ⟨n.toNat, by omega⟩
      have ha1 : ¬ ((m : Int) < 1) := by omega
      have ha2 : ¬ ((6 : Int) < m) := by omega
      have hm1 : m ≤ 140737488355328 := by omega
      have hm2 : m ≤ 2 ^ 62 := by omega
      have hrep : List.replicate m ([.bool false] : List V) = (List.replicate m false).map brow := by simp
      simp [ir43, hc, h, ha1, ha2, ha, hm1, hm2, endsE, ev_loop]
      generalize hr : ev pg (.code (.going 2 L43_0) _) = o
      obtain ⟨r, rfl, hl, hQ⟩ : ∃ r, o = some r ∧ Q43 w m r := by rw [← hr]; exact loop43 w m hle hp _ (by simp [I43]; exact ⟨List.replicate m false, by simp, by simp, rfl⟩)
      rcases hQ with ⟨hx, l, hh, hll, h7, hE⟩ | ⟨hx, h4, h5, hE⟩
      · simp [hx, hh, hl, h7, hE, hll]
      · simp [hx, h4, h5, hE]
    · have ha1 : n < 1 ∨ 6 < n := by omega
      rcases ha1 with ha1 | ha1
      · simp [ir43, hc, h, ha1, endsE, ha]
      · have ha2 : ¬ (n < 1) := by omega
        simp [ir43, hc, h, ha1, ha2, endsE, ha]
  · simp [ir43, hc, h, endsE]
end Go.Proofs.Ytopjiafdimoeiaa
