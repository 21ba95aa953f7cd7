/- The faulty control, by the program; an injection. -/
import Derived.Test.YtopjiafdimoeiaaGreatFy4
namespace Go.Proofs.YtopjiafdimoeiaaGreat
open Go Go.Am Go.Proofs
set_option maxRecDepth 100000
theorem noNil_of : ∀ {s : List V}, (∀ i, getS s i ≠ .nils) → noNil s
  | [], _, v, hv => by cases hv
  | w :: s, h, v, hv => by
    cases hv with
    | head => exact h 0
    | tail _ hv => exact noNil_of (s := s) (fun i => h (i + 1)) v hv
theorem adopt_nils : ∀ {s : List V} {j : Nat} (h : H), getS s j = .nils → (∀ i, i ≠ j → getS s i ≠ .nils) → adoptL h s = (setS s j (.sl h.length 0 0 0 0), h ++ [⟨0, .arr 0 []⟩])
  | [], j, h, hj, _ => by simp [getS] at hj
  | v :: s, 0, h, hj, hn => by
    have hv : v = .nils := hj
    subst hv
    have hs : noNil s := noNil_of fun i => hn (i + 1) (by omega)
    simp only [adoptL, adopt_none _ hs]
    rfl
  | v :: s, j + 1, h, hj, hn => by
    have hv : v ≠ .nils := hn 0 (by omega)
    have ih := adopt_nils (s := s) (j := j) h hj (fun i hi => hn (i + 1) (by omega))
    cases v <;> first | exact absurd rfl hv | (simp only [adoptL, ih]; rfl)
theorem getS_out : ∀ {s : List V} {d : Nat}, s.length ≤ d → getS s d = .undef
  | [], d, _ => by cases d <;> rfl
  | v :: s, 0, h => by simp at h
  | v :: s, d + 1, h => getS_out (s := s) (by simpa using h)
theorem ne_set {s : List V} {j : Nat} {x : V} (h : ∀ i, i ≠ 15 → getS s i ≠ .nils) (hx : x ≠ .nils) : ∀ i, i ≠ 15 → getS (setS s j x) i ≠ .nils := by
  intro i hi
  by_cases e : j = i
  · subst e
    by_cases hl : j < s.length
    · rw [getS_setS hl]; exact hx
    · rw [getS_out (by rw [setS_length]; omega)]; simp
  · rw [getS_setS_ne e]; exact h i hi
theorem last83 {c : Ct} {k i : Int} {cells : List V} {li : Int} {d : Fs} {st : St} (h : R83 c k i cells li 2 d st) : ∃ r, ev pg (.code L29_4 st) = some r ∧ r.x = .exit 4 ∧ R83 c k i cells li 2 d r.st := by
  obtain ⟨gs, m, gk, mk, gv, mv, hh, hm2, hmk, hmv, hk⟩ := h
  have e93 := hk.t93
  have e94 := hk.t94
  have hl := hk.keep.len
  refine ⟨⟨.exit 4, .undef, ⟨setS st.s 95 (.bool false), st.h⟩⟩, ?_, rfl, gs, m, gk, mk, gv, mv, hh, hm2, hmk, hmv, hk.set 95 _ (by simp) (by decide) (by decide)⟩
  rw [L29_4_eq]
  simp [e93, e94, hl]
theorem going83 {c : Ct} {A : Nat} (hM : Mid c A) (hcp : c.plus.length = A) (hcm : c.minus.length = A) (k i : Int) (hk6 : 0 ≤ k ∧ k < 6) (cells : List V) (v0 li : Int) (hcs : cells83 v0 cells) (h64 : c.signals.length ≤ 64) (st : St) (h0 : R83 c k i cells li 0 (startF c k i A) st) : ∃ r, ev pg (.code (.going 29 L29_4) st) = some r ∧ r.x = .exit 4 ∧ R83 c k i cells li 2 (stepV c k i A 1 (stepV c k i A 0 (startF c k i A))) r.st := by
  have hA6 := hM.hi
  have hin := hM.inp
  obtain ⟨l1, l2⟩ := start_lens c k i A
  obtain ⟨m1, m2, m3⟩ := step_lens c k i A 0 (startF c k i A)
  have hcN : countN c A ≤ 200 := by unfold countN; omega
  have hw : (stepV c k i A 0 (startF c k i A)).w.length ≤ 1 := by
    unfold stepV startF
    simp only
    split <;> simp
  obtain ⟨r1, e1, x1, R1⟩ := round83 hM hcp hcm k i hk6 cells li v0 hcs 0 (.inl rfl) (startF c k i A) rfl rfl hcp hcm (by omega) (by omega) (Nat.zero_le _) st h0
  obtain ⟨r2, e2, x2, R2⟩ := round83 hM hcp hcm k i hk6 cells li v0 hcs 1 (.inr rfl) (stepV c k i A 0 (startF c k i A)) rfl rfl (by unfold stepV; simp only [putTo_len]; exact hcp) (by unfold stepV; simp only [putTo_len]; exact hcm) (by omega) (by omega) (by omega) _ R1
  obtain ⟨r3, e3, x3, R3⟩ := last83 R2
  refine ⟨r3, ?_, x3, R3⟩
  rw [ev_going, e1]
  simp only [x1]
  rw [ev_going, e2]
  simp only [x2]
  rw [ev_going, e3]
  simp only [x3]
def Fin83 (c : Ct) (k i : Int) (cells : List V) (D : Fs) (r : R) : Prop := r.x = .ret ∧ ∃ gs ms gk mk gv mv, r.st.h = (h83 c k i cells (b83 c gs ms (D.d.signals.map Sg.row).length) ⟨0, .arr 1 (D.d.plus.map nrow)⟩ ⟨0, .arr 1 (D.d.minus.map nrow)⟩ ⟨gs, .arr ms (D.d.signals.map Sg.row)⟩ (tl83 gk mk D.K gv mv D.w)).set 6 ⟨0, .box (b83 c gs ms (D.d.signals.map Sg.row).length)⟩ ∧ getS r.st.s 4 = .bptr 6 0 ∧ getS r.st.s 5 = .sl 28 gv mv 0 D.w.length
theorem evT3 {c : Ct} {A : Nat} (hM : Mid c A) (hcp : c.plus.length = A) (hcm : c.minus.length = A) (k i : Int) (hk6 : 0 ≤ k ∧ k < 6) (cells : List V) (li : Int) (hli : li = lineI k i) (hcs : cells83 (lineV k) cells) (h64 : c.signals.length ≤ 64) (gk mk : Nat) (hmk : mk = 1 ∨ mk = 0) (st : St) (g m : Nat) (hm : m = 10 ∨ m = 0) (hh : st.h = h83 c k i cells (b83 c g m c.signals.length) ⟨0, .arr 1 (c.plus.map nrow)⟩ ⟨0, .arr 1 (c.minus.map nrow)⟩ ⟨g, .arr m ((c.signals.map (replS li (lineV k))).map Sg.row)⟩ [⟨0, .arr 0 []⟩, ⟨gk, .arr mk ((namesTo c A (countN c A)).map srow)⟩]) (hk : Keep83 li st.s) (h9 : getS st.s 9 = .sl 27 gk mk 0 (namesTo c A (countN c A)).length) : ∃ r, ev pg (.code T83_3 st) = some r ∧ Fin83 c k i cells (stepV c k i A 1 (stepV c k i A 0 (startF c k i A))) r := by
  unfold Fin83
  have hgo := going83 hM hcp hcm k i hk6 cells (lineV k) li hcs h64
  obtain ⟨s, h⟩ := st
  simp only at hh hk h9
  subst hh
  have hl := hk.len
  have hnn := hk.nn
  generalize stepV c k i A 1 (stepV c k i A 0 (startF c k i A)) = D at *
  simp [T83_3, ev_loop, hl]
  generalize hs2 : setS (setS (setS (setS s 15 .nils) 92 _) 93 _) 94 _ = s2
  have g15 : getS s2 15 = .nils := by rw [← hs2]; simp [hl]
  have gn : ∀ i, i ≠ 15 → getS s2 i ≠ .nils := by
    rw [← hs2]
    refine ne_set (ne_set (ne_set (fun i hi => ?_) (by simp)) (by simp)) (by simp)
    rw [getS_setS_ne (Ne.symm hi)]
    exact noNil_get hnn i
  have hl2 : s2.length = 157 := by rw [← hs2]; simp [hl]
  have f : ∀ j, j ≠ 15 → j ≠ 92 → j ≠ 93 → j ≠ 94 → getS s2 j = getS s j := fun j h1 h2 h3 h4 => by
    rw [← hs2, getS_setS_ne (Ne.symm h4), getS_setS_ne (Ne.symm h3), getS_setS_ne (Ne.symm h2), getS_setS_ne (Ne.symm h1)]
  have g92 : getS s2 92 = kTwo := by rw [← hs2]; simp [hl]
  have g93 : getS s2 93 = num 2 := by rw [← hs2]; simp [hl]
  have g94 : getS s2 94 = num 0 := by rw [← hs2]; simp [hl]
  clear hs2
  rw [adopt_nils _ g15 gn]
  simp
  generalize hr : ev pg (.code (.going 29 L29_4) _) = o
  obtain ⟨r, rfl, hx, hR⟩ : ∃ r, o = some r ∧ _ := by
    rw [← hr]
    refine hgo _ ⟨g, m, gk, mk, 0, 0, ?_, hm, hmk, .inr rfl, ⟨noNil_of fun i => ?_, by simp [hl2], ?_, ?_, ?_, ?_, ?_, ?_, ?_⟩, ?_, ?_, ?_, ?_, ?_⟩
    · subst hli
      simp [startF]
    · by_cases hi : i = 15
      · subst hi; rw [getS_setS (by omega)]; simp
      · rw [getS_setS_ne (Ne.symm hi)]; exact gn i hi
    · rw [getS_setS_ne (by decide), f _ (by decide) (by decide) (by decide) (by decide)]; exact hk.t2
    · rw [getS_setS_ne (by decide), f _ (by decide) (by decide) (by decide) (by decide)]; exact hk.t3
    · rw [getS_setS_ne (by decide), f _ (by decide) (by decide) (by decide) (by decide)]; exact hk.t4
    · rw [getS_setS_ne (by decide), f _ (by decide) (by decide) (by decide) (by decide)]; exact hk.t5
    · rw [getS_setS_ne (by decide), f _ (by decide) (by decide) (by decide) (by decide)]; exact hk.t6
    · rw [getS_setS_ne (by decide), f _ (by decide) (by decide) (by decide) (by decide)]; exact hk.t7
    · rw [getS_setS_ne (by decide), f _ (by decide) (by decide) (by decide) (by decide)]; exact hk.t8
    · rw [getS_setS_ne (by decide), f _ (by decide) (by decide) (by decide) (by decide)]; exact h9
    · rw [getS_setS (by omega)]; rfl
    · rw [getS_setS_ne (by decide)]; exact g92
    · rw [getS_setS_ne (by decide)]; exact g93
    · rw [getS_setS_ne (by decide)]; exact g94
  obtain ⟨gs, m, gk, mk, gv, mv, hh, hm2, hmk, hmv, hk⟩ := hR
  obtain ⟨x, v, s4, h4⟩ := r
  simp only at hx hh hk
  subst hx hh
  have k4 := hk.keep.t4
  have k8 := hk.keep.t8
  have k15 := hk.t15
  have kl := hk.keep.len
  simp [T83_4, k4, k8, k15, kl]
theorem evT2 {c : Ct} (hfew : c.small = true) {A : Nat} (hM : Mid c A) (hcp : c.plus.length = A) (hcm : c.minus.length = A) (k i : Int) (hk6 : 0 ≤ k ∧ k < 6) (cells : List V) (li : Int) (hli : li = lineI k i) (hcs : cells83 (lineV k) cells) (h64 : c.signals.length ≤ 64) (r : R) (h0 : Q83a c A k i cells li r) : ∃ r', ev pg (.code T83_2 r.st) = some r' ∧ Fin83 c k i cells (stepV c k i A 1 (stepV c k i A 0 (startF c k i A))) r' := by
  obtain ⟨_, gk, mk, hh, hmk, hk, h9⟩ := h0
  have hloop := loop83b hfew k i cells li (lineV k) hcs gk mk (namesTo c A (countN c A))
  have hT3 := evT3 hM hcp hcm k i hk6 cells li hli hcs h64 gk mk hmk
  have hln := names_len c A (countN c A)
  obtain ⟨x, v, s, h⟩ := r
  simp only at hh hk h9
  subst hh
  have hl := hk.len
  have hnn := hk.nn
  have k2 := hk.t2
  generalize stepV c k i A 1 (stepV c k i A 0 (startF c k i A)) = D at *
  generalize hN : countN c A = N at *
  generalize namesTo c A N = K at *
  subst hln
  simp (maxDischargeDepth := 20) [T83_2, ev_loop, hl, k2, adopt_none, noNil_set, hnn]
  generalize hr : ev pg (.code (.going 28 L29_1) _) = o
  obtain ⟨r, rfl, hx, g, m, hh, hm, hk2, h92⟩ : ∃ r, o = some r ∧ _ := by
    rw [← hr]
    refine hloop _ ⟨0, 0, rfl, .inr rfl, (((hk.set 58 _ (by simp) (by decide)).set 59 _ (by simp) (by decide)).set 60 _ (by simp) (by decide)).set 61 _ (by simp) (by decide), by simp [h9], by simp [hl], by simp [hl], by simp [hl]⟩
  obtain ⟨r', hr', hF⟩ := hT3 r.st g m hm hh hk2 h92
  simp [hx, hr']
  exact hF
set_option maxHeartbeats 800000 in
theorem ev29line (c : Ct) (hfew : c.small = true) (hc : c.check = 0) {A : Nat} (hA : c.act.toNat = A) (hcp : c.plus.length = A) (hcm : c.minus.length = A) (h64 : c.signals.length ≤ 64) (kn : Nat) (hk : kn < 6) (i : Int) (t : Txt) (hsel : List.take 4 (List.drop (kn * 4) (kC 8)) = [.str t, .bool true, num (lineV kn), .nilfn]) (hli : lineI kn i = i) : ev pg (.call (.fn 29 [] []) [c.v, fv kn i] []) = some { v := .tup [(stepV c kn i A 1 (stepV c kn i A 0 (startF c kn i A))).d.v, .imm ((stepV c kn i A 1 (stepV c kn i A 0 (startF c kn i A))).w.map brow)], st := ⟨[], []⟩ } := by
  obtain ⟨f1, f2, f3, f4, f5, f6⟩ := few_parts hfew
  have h67 := ev55 [⟨0, .box c.cells⟩, ⟨0, .box [num kn, num i]⟩, ⟨0, .arr 0 []⟩, ⟨0, .arr 0 []⟩, ⟨0, .arr 0 []⟩, ⟨0, .arr 0 []⟩, ⟨0, .box [num 0, .sl 2 0 0 0 0, .sl 3 0 0 0 0, .sl 4 0 0 0 0, .sl 5 0 0 0 0]⟩, ⟨0, .box [.str [], .bool false, .int .i64 0, .nilfn]⟩]
  have h4 : 4 ≤ 24 - kn * 4 := by omega
  have h122 := ev61 c.inputs (by omega)
  have h35a := ev42 c.plus (by omega)
  have h35b := ev42 c.minus (by omega)
  have hM := mid_check hc hfew
  rw [hA] at hM
  have h73 := ev59 hM
  have hT := evT2 hfew hM hcp hcm kn i (by omega) [.str t, .bool true, num (lineV kn), .nilfn] i hli.symm (.inl ⟨t, rfl⟩) h64
  have hL := loop83a hfew hc A hA kn i [.str t, .bool true, num (lineV kn), .nilfn] (lineV kn) (.inl ⟨t, rfl⟩) i
  have hI : ∀ st : St, (st.h = h83 c kn i [.str t, .bool true, num (lineV kn), .nilfn] (b83 c 0 0 0) ⟨0, .arr 1 (c.plus.map nrow)⟩ ⟨0, .arr 1 (c.minus.map nrow)⟩ ⟨0, .arr 0 []⟩ [⟨0, .arr 0 []⟩, ⟨0, .arr 0 []⟩] ∧ Keep83 i st.s ∧ getS st.s 9 = .sl 27 0 0 0 0 ∧ getS st.s 43 = num (countN c A) ∧ getS st.s 44 = num 0) → I83a c A kn i [.str t, .bool true, num (lineV kn), .nilfn] i 0 st := fun st h => ⟨0, 0, h.1, .inr rfl, h.2.1, h.2.2.1, h.2.2.2.1, h.2.2.2.2⟩
  unfold Fin83 at hT
  have hact : (stepV c kn i A 1 (stepV c kn i A 0 (startF c kn i A))).d.act = c.act := rfl
  have hinp : (stepV c kn i A 1 (stepV c kn i A 0 (startF c kn i A))).d.inputs = c.inputs := rfl
  have hpl : (stepV c kn i A 1 (stepV c kn i A 0 (startF c kn i A))).d.plus.length = A := by unfold stepV; simp only [putTo_len]; exact hcp
  have hml : (stepV c kn i A 1 (stepV c kn i A 0 (startF c kn i A))).d.minus.length = A := by unfold stepV; simp only [putTo_len]; exact hcm
  generalize stepV c kn i A 1 (stepV c kn i A 0 (startF c kn i A)) = D at *
  generalize countN c A = N at *
  generalize lineV kn = lv at *
  rw [ev_call, pg29, ir29_eq]
  simp [ev_draw1, exT, chkOk, h67, hk, h4, hsel, h122, h35a, h35b, T83_1, ev_loop, h73]
  generalize hr : ev pg (.code (.going 28 L29_0) _) = o
  obtain ⟨r, rfl, hQ⟩ : ∃ r, o = some r ∧ _ := by
    rw [← hr]
    exact hL _ (hI _ ⟨by simp, ⟨by simp [noNil], rfl, rfl, rfl, rfl, rfl, rfl, rfl, rfl⟩, rfl, rfl, rfl⟩)
  obtain ⟨r', hr', hx, gs, ms, gk, mk, gv, mv, hh, e4, e5⟩ := hT r hQ
  simp [hQ.1, hr', hx, hh, e4, e5, hpl, hml, hcp, hcm, hact, hinp]
set_option maxHeartbeats 800000 in
theorem ev29other (c : Ct) (hfew : c.small = true) (hc : c.check = 0) {A : Nat} (hA : c.act.toNat = A) (hcp : c.plus.length = A) (hcm : c.minus.length = A) (h64 : c.signals.length ≤ 64) (kn : Nat) (hk : kn < 6) (i : Int) (t : Txt) (a b : Nat) (ha : a < 17) (hb : b < 17) (hsel : List.take 4 (List.drop (kn * 4) (kC 8)) = [.str t, .bool false, num (lineV kn), .fn 86 [] [.bptr a 0, .bptr b 0]]) (hli : lineI kn i = -1) : ev pg (.call (.fn 29 [] []) [c.v, fv kn i] []) = some { v := .tup [(stepV c kn i A 1 (stepV c kn i A 0 (startF c kn i A))).d.v, .imm ((stepV c kn i A 1 (stepV c kn i A 0 (startF c kn i A))).w.map brow)], st := ⟨[], []⟩ } := by
  obtain ⟨f1, f2, f3, f4, f5, f6⟩ := few_parts hfew
  have h67 := ev55 [⟨0, .box c.cells⟩, ⟨0, .box [num kn, num i]⟩, ⟨0, .arr 0 []⟩, ⟨0, .arr 0 []⟩, ⟨0, .arr 0 []⟩, ⟨0, .arr 0 []⟩, ⟨0, .box [num 0, .sl 2 0 0 0 0, .sl 3 0 0 0 0, .sl 4 0 0 0 0, .sl 5 0 0 0 0]⟩, ⟨0, .box [.str [], .bool false, .int .i64 0, .nilfn]⟩]
  have h4 : 4 ≤ 24 - kn * 4 := by omega
  have h122 := ev61 c.inputs (by omega)
  have h35a := ev42 c.plus (by omega)
  have h35b := ev42 c.minus (by omega)
  have hM := mid_check hc hfew
  rw [hA] at hM
  have h73 := ev59 hM
  have hT := evT2 hfew hM hcp hcm kn i (by omega) [.str t, .bool false, num (lineV kn), .fn 86 [] [.bptr a 0, .bptr b 0]] (-1) hli.symm (.inr ⟨t, a, b, ha, hb, rfl⟩) h64
  have hL := loop83a hfew hc A hA kn i [.str t, .bool false, num (lineV kn), .fn 86 [] [.bptr a 0, .bptr b 0]] (lineV kn) (.inr ⟨t, a, b, ha, hb, rfl⟩) (-1)
  have hI : ∀ st : St, (st.h = h83 c kn i [.str t, .bool false, num (lineV kn), .fn 86 [] [.bptr a 0, .bptr b 0]] (b83 c 0 0 0) ⟨0, .arr 1 (c.plus.map nrow)⟩ ⟨0, .arr 1 (c.minus.map nrow)⟩ ⟨0, .arr 0 []⟩ [⟨0, .arr 0 []⟩, ⟨0, .arr 0 []⟩] ∧ Keep83 (-1) st.s ∧ getS st.s 9 = .sl 27 0 0 0 0 ∧ getS st.s 43 = num (countN c A) ∧ getS st.s 44 = num 0) → I83a c A kn i [.str t, .bool false, num (lineV kn), .fn 86 [] [.bptr a 0, .bptr b 0]] (-1) 0 st := fun st h => ⟨0, 0, h.1, .inr rfl, h.2.1, h.2.2.1, h.2.2.2.1, h.2.2.2.2⟩
  unfold Fin83 at hT
  have hact : (stepV c kn i A 1 (stepV c kn i A 0 (startF c kn i A))).d.act = c.act := rfl
  have hinp : (stepV c kn i A 1 (stepV c kn i A 0 (startF c kn i A))).d.inputs = c.inputs := rfl
  have hpl : (stepV c kn i A 1 (stepV c kn i A 0 (startF c kn i A))).d.plus.length = A := by unfold stepV; simp only [putTo_len]; exact hcp
  have hml : (stepV c kn i A 1 (stepV c kn i A 0 (startF c kn i A))).d.minus.length = A := by unfold stepV; simp only [putTo_len]; exact hcm
  generalize stepV c kn i A 1 (stepV c kn i A 0 (startF c kn i A)) = D at *
  generalize countN c A = N at *
  generalize lineV kn = lv at *
  rw [ev_call, pg29, ir29_eq]
  simp [ev_draw1, exT, chkOk, h67, hk, h4, hsel, h122, h35a, h35b, T83_1, ev_loop, h73]
  generalize hr : ev pg (.code (.going 28 L29_0) _) = o
  obtain ⟨r, rfl, hQ⟩ : ∃ r, o = some r ∧ _ := by
    rw [← hr]
    exact hL _ (hI _ ⟨by simp, ⟨by simp [noNil], rfl, rfl, rfl, rfl, rfl, rfl, rfl, rfl⟩, rfl, rfl, rfl⟩)
  obtain ⟨r', hr', hx, gs, ms, gk, mk, gv, mv, hh, e4, e5⟩ := hT r hQ
  simp [hQ.1, hr', hx, hh, e4, e5, hpl, hml, hcp, hcm, hact, hinp]
theorem ev29 (c : Ct) (hfew : c.small = true) (k i : Int) (hf : fltE c k i = 0) : ev pg (.call (.fn 29 [] []) [c.v, fv k i] []) = some { v := .tup [(faultyF c k i).d.v, .imm ((faultyF c k i).w.map brow)], st := ⟨[], []⟩ } := by
  obtain ⟨hc, hk, hi0, hiN, hiA⟩ := flt_parts hf
  have hR := rgt_check hc hfew
  have h64 : c.signals.length ≤ 64 := by
    unfold Ct.check at hc
    split at hc
    · cases hc
    · split at hc
      · cases hc
      · omega
  unfold faultyF
  rcases (by omega : k = (0 : Nat) ∨ k = (1 : Nat) ∨ k = (2 : Nat) ∨ k = (3 : Nat) ∨ k = (4 : Nat) ∨ k = (5 : Nat)) with rfl | rfl | rfl | rfl | rfl | rfl
  · exact ev29other c hfew hc rfl hR.plus hR.minus h64 0 (by omega) i t0t 9 10 (by omega) (by omega) rfl rfl
  · exact ev29other c hfew hc rfl hR.plus hR.minus h64 1 (by omega) i t1t 11 12 (by omega) (by omega) rfl rfl
  · exact ev29line c hfew hc rfl hR.plus hR.minus h64 2 (by omega) i t2t rfl rfl
  · exact ev29line c hfew hc rfl hR.plus hR.minus h64 3 (by omega) i t3t rfl rfl
  · exact ev29other c hfew hc rfl hR.plus hR.minus h64 4 (by omega) i t4t 13 14 (by omega) (by omega) rfl rfl
  · exact ev29other c hfew hc rfl hR.plus hR.minus h64 5 (by omega) i t5t 15 16 (by omega) (by omega) rfl rfl
def injE (c : Ct) (k i : Int) : Int := if fltE c k i = 0 then (if (faultyF c k i).d.check = 0 then 0 else 12) else fltE c k i
def zeroC : Ct := ⟨0, [], [], [], []⟩
def injD (c : Ct) (k i : Int) : Ct := if injE c k i = 0 then (faultyF c k i).d else zeroC
theorem ev8 (c : Ct) (hfew : c.small = true) (k i : Int) : ev pg (.call (.fn 8 [] []) [c.v, fv k i] []) = some { v := .tup [(injD c k i).v, num (injE c k i)], st := ⟨[], []⟩ } := by
  have h19 := ev28 c hfew k i
  rw [ev_call, pg8]
  unfold injD
  by_cases he : fltE c k i = 0
  · have h83 := ev29 c hfew k i he
    have h29 := ev30 (faultyF c k i).d (faulty_small hfew (flt_parts he).1 k i)
    by_cases hd : (faultyF c k i).d.check = 0
    · have e : injE c k i = 0 := by unfold injE; rw [if_pos he, if_pos hd]
      rw [e, if_pos rfl]
      rw [he] at h19
      rw [hd] at h29
      generalize (faultyF c k i).d = D at *
      generalize (faultyF c k i).w = w at *
      simp [ir8, h19, h83, h29]
    · have e : injE c k i = 12 := by unfold injE; rw [if_pos he, if_neg hd]
      rw [e, if_neg (by omega)]
      rw [he] at h19
      generalize (faultyF c k i).d = D at *
      generalize (faultyF c k i).w = w at *
      generalize D.check = e' at *
      simp [ir8, h19, h83, h29, hd, zeroC]
  · have e : injE c k i = fltE c k i := by unfold injE; rw [if_neg he]
    rw [e, if_neg he]
    generalize fltE c k i = e' at *
    simp [ir8, h19, he, zeroC]
end Go.Proofs.YtopjiafdimoeiaaGreat
