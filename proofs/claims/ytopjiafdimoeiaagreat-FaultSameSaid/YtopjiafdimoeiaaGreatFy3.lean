/- The faulty control, by the program: pilots and fresh names. -/
import Derived.Test.YtopjiafdimoeiaaGreatFy2
namespace Go.Proofs.YtopjiafdimoeiaaGreat
open Go Go.Am Go.Proofs
set_option maxRecDepth 100000
abbrev brow (b : Bool) : List V := [.bool b]
abbrev tl83 (gk mk : Nat) (K : List Txt) (gv mv : Nat) (w : List Bool) : H := [⟨0, .arr 0 []⟩, ⟨gk, .arr mk (K.map srow)⟩, ⟨gv, .arr mv (w.map brow)⟩]
abbrev kTwo : V := .imm [[.str [115, 116, 117, 99, 107, 48]], [.str [115, 116, 117, 99, 107, 49]]]
structure Keep83v (li : Int) (v : Int) (gk mk nk gv mv nv : Nat) (st : List V) : Prop where
  keep : Keep83 li st
  t9 : getS st 9 = .sl 27 gk mk 0 nk
  t15 : getS st 15 = .sl 28 gv mv 0 nv
  t92 : getS st 92 = kTwo
  t93 : getS st 93 = num 2
  t94 : getS st 94 = num v
def I83c (c : Ct) (k i : Int) (cells : List V) (li v : Int) (A : Nat) (next : Int) (B : List V) (S : Ob) (gk mk : Nat) (K : List Txt) (gv mv : Nat) (w : List Bool) (ps ms : List Int) (n : Nat) (st : St) : Prop := st.h = h83 c k i cells B ⟨0, .arr 1 ((putTo (selP c k i v) next n ps).map nrow)⟩ ⟨0, .arr 1 ((putTo (selM c k i v) next n ms).map nrow)⟩ S (tl83 gk mk K gv mv w) ∧ Keep83v li v gk mk K.length gv mv w.length st.s ∧ getS st.s 16 = num v ∧ getS st.s 17 = .str (stuckT v) ∧ getS st.s 18 = .bool (needV c k i v n) ∧ getS st.s 19 = num next ∧ getS st.s 103 = faults (pilL c k i A) ∧ getS st.s 104 = num A ∧ getS st.s 105 = num n
def Q83c (c : Ct) (k i : Int) (cells : List V) (li v : Int) (A : Nat) (next : Int) (B : List V) (S : Ob) (gk mk : Nat) (K : List Txt) (gv mv : Nat) (w : List Bool) (ps ms : List Int) (r : R) : Prop := r.x = .exit 6 ∧ r.st.h = h83 c k i cells B ⟨0, .arr 1 ((putTo (selP c k i v) next A ps).map nrow)⟩ ⟨0, .arr 1 ((putTo (selM c k i v) next A ms).map nrow)⟩ S (tl83 gk mk K gv mv w) ∧ Keep83v li v gk mk K.length gv mv w.length r.st.s ∧ getS r.st.s 16 = num v ∧ getS r.st.s 17 = .str (stuckT v) ∧ getS r.st.s 18 = .bool (needV c k i v A) ∧ getS r.st.s 19 = num next
theorem putTo_get {f : Nat → Bool} {next : Int} {l : List Int} : ∀ {n j : Nat}, n ≤ j → (putTo f next n l)[j]? = l[j]?
  | 0, _, _ => rfl
  | n + 1, j, h => by
    unfold putTo
    split
    · rw [List.getElem?_set_ne (by omega)]
      exact putTo_get (by omega)
    · exact putTo_get (by omega)
theorem putTo_row {f : Nat → Bool} {next : Int} {l : List Int} {n : Nat} : (putTo f next (n + 1) l).map nrow = if f n = true then ((putTo f next n l).map nrow).set n [num next] else (putTo f next n l).map nrow := by
  rw [putTo]
  split
  · rw [List.map_set]
  · rfl
set_option maxHeartbeats 4000000 in
theorem loop83c {c : Ct} {A : Nat} (hA6 : A ≤ 6) (k i : Int) (cells : List V) (li v v0 : Int) (hcs : cells83 v0 cells) (next : Int) (gs ms' ns : Nat) (W : List (List V)) (gk mk : Nat) (K : List Txt) (gv mv : Nat) (w : List Bool) (ps ms : List Int) (hp : ps.length = A) (hm : ms.length = A) (hcp : c.plus.length = A) (hcm : c.minus.length = A) (st : St) (h0 : I83c c k i cells li v A next (b83 c gs ms' ns) ⟨gs, .arr ms' W⟩ gk mk K gv mv w ps ms 0 st) : ∃ r, ev pg (.code (.going 29 L29_2) st) = some r ∧ Q83c c k i cells li v A next (b83 c gs ms' ns) ⟨gs, .arr ms' W⟩ gk mk K gv mv w ps ms r := by
  refine loop_from (I83c c k i cells li v A next (b83 c gs ms' ns) ⟨gs, .arr ms' W⟩ gk mk K gv mv w ps ms) A (Q83c c k i cells li v A next (b83 c gs ms' ns) ⟨gs, .arr ms' W⟩ gk mk K gv mv w ps ms) h0 ?_ ?_
  · rintro n ⟨s, hh⟩ hn ⟨rfl, ⟨⟨hnn, hl, e2, e3, e4, e5, e6, e7, e8⟩, e9, e15, e92, e93, e94⟩, e16, e17, e18, e19, e103, e104, e105⟩
    simp only at hl e2 e3 e4 e5 e6 e7 e8 e9 e15 e92 e93 e94 e16 e17 e18 e19 e103 e104 e105
    have hnl : ∀ j, getS s j ≠ .nils := noNil_get hnn
    have wn := wrap_id (n := (n : Int) + 1) (by omega) (by omega)
    have hn' : (n : Int) < (A : Nat) := by omega
    have hgp : ((putTo (selP c k i v) next n ps).map nrow)[n]? = some (nrow ps[n]) := by rw [List.getElem?_map, putTo_get (Nat.le_refl _), List.getElem?_eq_getElem (by omega)]; rfl
    have hgm : ((putTo (selM c k i v) next n ms).map nrow)[n]? = some (nrow ms[n]) := by rw [List.getElem?_map, putTo_get (Nat.le_refl _), List.getElem?_eq_getElem (by omega)]; rfl
    have hgl : (pilL c k i A)[n]? = some (pil c k i n) := by
      unfold pilL
      rw [List.getElem?_map, List.getElem?_range hn]; rfl
    have hnp : n < c.plus.length := by omega
    have hnm : n < c.minus.length := by omega
    have hneed : needV c k i v (n + 1) = (needV c k i v n || (selP c k i v n || selM c k i v n)) := rfl
    unfold I83c
    rw [putTo_row, putTo_row, hneed]
    generalize ps[n] = x at *
    generalize ms[n] = y at *
    have hs1 : selP c k i v n = ((pil c k i n).1 == v) := rfl
    have hs2 : selM c k i v n = ((pil c k i n).2 == v) := rfl
    rw [hs1, hs2]
    generalize pil c k i n = p at *
    obtain ⟨p1, p2⟩ := p
    generalize pilL c k i A = G at *
    generalize (putTo (selP c k i v) next n ps).map nrow = X at *
    generalize (putTo (selM c k i v) next n ms).map nrow = Y at *
    generalize needV c k i v n = B at *
    rw [getS_expand hl]
    simp only
    have ha2 : ∀ a : Nat, a < 17 → a < 29 := fun a h => by omega
    by_cases hv1 : p1 = v
    · by_cases hv2 : p2 = v
      · rcases hcs with ⟨t, rfl⟩ | ⟨t, a, b, ha, hb', rfl⟩
        · simp [L29_2, List.range, List.range.loop, e2, e3, e4, e5, e6, e7, e8, e9, e15, e92, e93, e94, e16, e17, e18, e19, e103, e104, e105, hn', wn, hgp, hgm, hgl, hv1, hv2, hnp, hnm]
          exact ⟨⟨by simp [noNil, hnl], rfl, rfl, rfl, rfl, rfl, rfl, rfl, rfl⟩, rfl, rfl, rfl, rfl, rfl⟩
        · simp [L29_2, List.range, List.range.loop, e2, e3, e4, e5, e6, e7, e8, e9, e15, e92, e93, e94, e16, e17, e18, e19, e103, e104, e105, hn', wn, hgp, hgm, hgl, hv1, hv2, hnp, hnm, ha2 a ha, ha2 b hb']
          exact ⟨⟨by simp [noNil, hnl], rfl, rfl, rfl, rfl, rfl, rfl, rfl, rfl⟩, rfl, rfl, rfl, rfl, rfl⟩
      · have n2 : (p2 == v) = false := by simpa using hv2
        rcases hcs with ⟨t, rfl⟩ | ⟨t, a, b, ha, hb', rfl⟩
        · simp [L29_2, List.range, List.range.loop, e2, e3, e4, e5, e6, e7, e8, e9, e15, e92, e93, e94, e16, e17, e18, e19, e103, e104, e105, hn', wn, hgp, hgl, hv1, n2, hnp]
          exact ⟨⟨by simp [noNil, hnl], rfl, rfl, rfl, rfl, rfl, rfl, rfl, rfl⟩, rfl, rfl, rfl, rfl, rfl⟩
        · simp [L29_2, List.range, List.range.loop, e2, e3, e4, e5, e6, e7, e8, e9, e15, e92, e93, e94, e16, e17, e18, e19, e103, e104, e105, hn', wn, hgp, hgl, hv1, n2, hnp, ha2 a ha, ha2 b hb']
          exact ⟨⟨by simp [noNil, hnl], rfl, rfl, rfl, rfl, rfl, rfl, rfl, rfl⟩, rfl, rfl, rfl, rfl, rfl⟩
    · have n1 : (p1 == v) = false := by simpa using hv1
      by_cases hv2 : p2 = v
      · rcases hcs with ⟨t, rfl⟩ | ⟨t, a, b, ha, hb', rfl⟩
        · simp [L29_2, List.range, List.range.loop, e2, e3, e4, e5, e6, e7, e8, e9, e15, e92, e93, e94, e16, e17, e18, e19, e103, e104, e105, hn', wn, hgm, hgl, n1, hv2, hnm]
          exact ⟨⟨by simp [noNil, hnl], rfl, rfl, rfl, rfl, rfl, rfl, rfl, rfl⟩, rfl, rfl, rfl, rfl, rfl⟩
        · simp [L29_2, List.range, List.range.loop, e2, e3, e4, e5, e6, e7, e8, e9, e15, e92, e93, e94, e16, e17, e18, e19, e103, e104, e105, hn', wn, hgm, hgl, n1, hv2, hnm, ha2 a ha, ha2 b hb']
          exact ⟨⟨by simp [noNil, hnl], rfl, rfl, rfl, rfl, rfl, rfl, rfl, rfl⟩, rfl, rfl, rfl, rfl, rfl⟩
      · have n2 : (p2 == v) = false := by simpa using hv2
        rcases hcs with ⟨t, rfl⟩ | ⟨t, a, b, ha, hb', rfl⟩
        · simp [L29_2, List.range, List.range.loop, e2, e3, e4, e5, e6, e7, e8, e9, e15, e92, e93, e94, e16, e17, e18, e19, e103, e104, e105, hn', wn, hgl, n1, n2]
          exact ⟨⟨by simp [noNil, hnl], rfl, rfl, rfl, rfl, rfl, rfl, rfl, rfl⟩, rfl, rfl, rfl, rfl, rfl⟩
        · simp [L29_2, List.range, List.range.loop, e2, e3, e4, e5, e6, e7, e8, e9, e15, e92, e93, e94, e16, e17, e18, e19, e103, e104, e105, hn', wn, hgl, n1, n2, ha2 a ha, ha2 b hb']
          exact ⟨⟨by simp [noNil, hnl], rfl, rfl, rfl, rfl, rfl, rfl, rfl, rfl⟩, rfl, rfl, rfl, rfl, rfl⟩
  · rintro ⟨s, hh⟩ ⟨rfl, ⟨⟨hnn, hl, e2, e3, e4, e5, e6, e7, e8⟩, e9, e15, e92, e93, e94⟩, e16, e17, e18, e19, e103, e104, e105⟩
    simp only at hl e2 e3 e4 e5 e6 e7 e8 e9 e15 e92 e93 e94 e16 e17 e18 e19 e103 e104 e105
    have hnl : ∀ j, getS s j ≠ .nils := noNil_get hnn
    unfold Q83c
    generalize putTo (selP c k i v) next A ps = X at *
    generalize putTo (selM c k i v) next A ms = Y at *
    generalize needV c k i v A = B at *
    rw [getS_expand hl]
    simp [L29_2, List.range, List.range.loop, e2, e3, e4, e5, e6, e7, e8, e9, e15, e92, e93, e94, e16, e17, e18, e19, e103, e104, e105]
    exact ⟨⟨by simp [noNil, hnl], rfl, rfl, rfl, rfl, rfl, rfl, rfl, rfl⟩, rfl, rfl, rfl, rfl, rfl⟩
structure Keep83w (li v : Int) (gk mk nk gv mv nv : Nat) (st : List V) : Prop where
  keep : Keep83v li v gk mk nk gv mv nv st
  t16 : getS st 16 = num v
def I83d (c : Ct) (k i : Int) (cells : List V) (li v : Int) (B : List V) (P M S : Ob) (gk mk : Nat) (K : List Txt) (gv mv : Nat) (w : List Bool) (n : Nat) (st : St) : Prop := st.h = h83 c k i cells B P M S (tl83 gk mk K gv mv w) ∧ Keep83w li v gk mk K.length gv mv w.length st.s ∧ getS st.s 17 = .str (withU (stuckT v) n)
def Q83d (c : Ct) (k i : Int) (cells : List V) (li v : Int) (B : List V) (P M S : Ob) (gk mk : Nat) (K : List Txt) (gv mv : Nat) (w : List Bool) (r : R) : Prop := r.x = .exit 8 ∧ r.st.h = h83 c k i cells B P M S (tl83 gk mk K gv mv w) ∧ Keep83w li v gk mk K.length gv mv w.length r.st.s ∧ getS r.st.s 17 = .str (freshT K (stuckT v))
theorem withU_succ (s : Txt) (n : Nat) : withU s (n + 1) = withU s n ++ [95] := by
  unfold withU
  rw [List.replicate_succ', List.append_assoc]
set_option maxHeartbeats 4000000 in
theorem loop83d {c : Ct} (k i : Int) (cells : List V) (li v v0 : Int) (hcs : cells83 v0 cells) (gs ms' ns : Nat) (W : List (List V)) (ps ms : List Int) (gk mk : Nat) (K : List Txt) (hK : K.length ≤ 4096) (gv mv : Nat) (w : List Bool) (st : St) (h0 : I83d c k i cells li v (b83 c gs ms' ns) ⟨0, .arr 1 (ps.map nrow)⟩ ⟨0, .arr 1 (ms.map nrow)⟩ ⟨gs, .arr ms' W⟩ gk mk K gv mv w 0 st) : ∃ r, ev pg (.code (.going 29 L29_3) st) = some r ∧ Q83d c k i cells li v (b83 c gs ms' ns) ⟨0, .arr 1 (ps.map nrow)⟩ ⟨0, .arr 1 (ms.map nrow)⟩ ⟨gs, .arr ms' W⟩ gk mk K gv mv w r := by
  refine loop_from (I83d c k i cells li v (b83 c gs ms' ns) ⟨0, .arr 1 (ps.map nrow)⟩ ⟨0, .arr 1 (ms.map nrow)⟩ ⟨gs, .arr ms' W⟩ gk mk K gv mv w) (freeN K (stuckT v)) (Q83d c k i cells li v (b83 c gs ms' ns) ⟨0, .arr 1 (ps.map nrow)⟩ ⟨0, .arr 1 (ms.map nrow)⟩ ⟨gs, .arr ms' W⟩ gk mk K gv mv w) h0 ?_ ?_
  · rintro n ⟨s, hh⟩ hn ⟨rfl, ⟨⟨⟨hnn, hl, e2, e3, e4, e5, e6, e7, e8⟩, e9, e15, e92, e93, e94⟩, e16⟩, e17⟩
    simp only at hl e2 e3 e4 e5 e6 e7 e8 e9 e15 e92 e93 e94 e16 e17
    have hnl : ∀ j, getS s j ≠ .nils := noNil_get hnn
    have ha2 : ∀ a : Nat, a < 17 → a < 29 := fun a h => by omega
    have h123 := ev63 K (withU (stuckT v) n) hK
    have hmem : K.any (isS (withU (stuckT v) n)) = true := by
      rw [any_mem, decide_eq_true_eq]
      exact free_lt K (stuckT v) n hn
    have hlen : (withU (stuckT v) n).length ≤ 8192 := by
      have h1 := free_le K (stuckT v)
      have h2 : (stuckT v).length = 6 := rfl
      rw [List.length_append, List.length_replicate]
      omega
    have hb : (withU (stuckT v) n).length + 1 ≤ 140737488355328 := by omega
    rw [hmem] at h123
    have hsu := withU_succ (stuckT v) n
    unfold I83d
    rw [hsu]
    generalize withU (stuckT v) n = T at *
    rw [getS_expand hl]
    rcases hcs with ⟨t, rfl⟩ | ⟨t, a, b, ha, hb', rfl⟩
    · simp [L29_3, List.range, List.range.loop, e2, e3, e4, e5, e6, e7, e8, e9, e15, e92, e93, e94, e16, e17, h123, hb]
      exact ⟨⟨⟨by simp [noNil, hnl], rfl, rfl, rfl, rfl, rfl, rfl, rfl, rfl⟩, rfl, rfl, rfl, rfl, rfl⟩, rfl⟩
    · simp [L29_3, List.range, List.range.loop, e2, e3, e4, e5, e6, e7, e8, e9, e15, e92, e93, e94, e16, e17, h123, hb, ha2 a ha, ha2 b hb']
      exact ⟨⟨⟨by simp [noNil, hnl], rfl, rfl, rfl, rfl, rfl, rfl, rfl, rfl⟩, rfl, rfl, rfl, rfl, rfl⟩, rfl⟩
  · rintro ⟨s, hh⟩ ⟨rfl, ⟨⟨⟨hnn, hl, e2, e3, e4, e5, e6, e7, e8⟩, e9, e15, e92, e93, e94⟩, e16⟩, e17⟩
    simp only at hl e2 e3 e4 e5 e6 e7 e8 e9 e15 e92 e93 e94 e16 e17
    have hnl : ∀ j, getS s j ≠ .nils := noNil_get hnn
    have h123 := ev63 K (withU (stuckT v) (freeN K (stuckT v))) hK
    have hmem : K.any (isS (withU (stuckT v) (freeN K (stuckT v)))) = false := by
      rw [any_mem, decide_eq_false_iff_not]
      exact free_not K (stuckT v)
    rw [hmem] at h123
    unfold Q83d freshT
    generalize withU (stuckT v) (freeN K (stuckT v)) = T at *
    rw [getS_expand hl]
    simp [L29_3, List.range, List.range.loop, e2, e3, e4, e5, e6, e7, e8, e9, e15, e92, e93, e94, e16, e17, h123]
    exact ⟨⟨⟨by simp [noNil, hnl], rfl, rfl, rfl, rfl, rfl, rfl, rfl, rfl⟩, rfl, rfl, rfl, rfl, rfl⟩, rfl⟩
end Go.Proofs.YtopjiafdimoeiaaGreat
