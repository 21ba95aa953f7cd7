/- Controls: errors, by the program, are those by the reference. -/
import Derived.Test.YtopjiafdimoeiaaGreatCq2
namespace Go.Proofs.YtopjiafdimoeiaaGreat
open Go Go.Am Go.Proofs
set_option maxRecDepth 100000
theorem ev64 (c : Ct) (hfew : c.small = true) : ∃ v z, ev pg (.call (.fn 64 [] []) [c.v] [⟨0, .box c.cells⟩]) = some { v := .tup [v, num c.check], st := ⟨[], z⟩ } := by
  obtain ⟨f1, f2, f3, f4, _⟩ := few_parts hfew
  rw [ev_call, pg64]
  unfold Ct.check
  by_cases a1 : c.act < 1
  · rw [if_pos (.inl a1)]
    simp [ir64, a1]
  by_cases a2 : 6 < c.act
  · rw [if_pos (.inr a2)]
    simp [ir64, a1, a2]
  rw [if_neg (by omega)]
  by_cases a3 : 16 < c.inputs.length
  · have a3' : (16 : Int) < (c.inputs.length : Int) := by omega
    rw [if_pos (.inl a3)]
    simp [ir64, a1, a2, a3']
  have a3' : ¬ ((16 : Int) < (c.inputs.length : Int)) := by omega
  by_cases a4 : 64 < c.signals.length
  · have a4' : (64 : Int) < (c.signals.length : Int) := by omega
    rw [if_pos (.inr a4)]
    simp [ir64, a1, a2, a3', a4']
  have a4' : ¬ ((64 : Int) < (c.signals.length : Int)) := by omega
  rw [if_neg (by omega)]
  have hM : Mid c c.act.toNat := ⟨by omega, by omega, by omega, f1, f2⟩
  have hla := loop84a hM
  have hlb := loop84b hM
  have hlc := loop84c hM hfew
  have hactA : c.act = (c.act.toNat : Int) := by omega
  have hA1 := hM.lo
  have hA6 := hM.hi
  have h132 := fun (l : List (Txt × Int)) (z : H) (hcl : calm (hX c l z)) (n : Int) => ev96 hM (h := hX c l z) (i := 1) rfl hcl n
  have h131 : c.plus.length = c.act.toNat → _ := fun hp => ev45 c.plus c.minus f3 f4 (by omega)
  generalize c.act.toNat = A at *
  have w1 := wrap_id (n := 2 * c.act) (by omega) (by omega)
  unfold ctE
  have hIb : ∀ st : St, I84b c A 0 st ↔ ((∃ l, st.h = hX c l [] ∧ keysTo c A (2 * A) l) ∧ Keep84 st.s ∧ getS st.s 59 = .imm (c.inputs.map srow) ∧ getS st.s 60 = num c.inputs.length ∧ getS st.s 61 = num 0) := fun st => by
    unfold I84b
    exact ⟨fun h => ⟨h.1, h.2.1, h.2.2.1, h.2.2.2.1, h.2.2.2.2.1⟩, fun h => ⟨h.1, h.2.1, h.2.2.1, h.2.2.2.1, h.2.2.2.2, rfl⟩⟩
  have hIc : ∀ st : St, I84c c A 0 st ↔ ((∃ l, st.h = hX c l [] ∧ keysTo c A (firstN c A) l) ∧ Keep84 st.s ∧ getS st.s 74 = num c.signals.length ∧ getS st.s 75 = num 0) := fun st => by
    unfold I84c
    exact ⟨fun h => ⟨h.1, h.2.1, h.2.2.1, h.2.2.2.1⟩, fun h => ⟨h.1, h.2.1, h.2.2.1, h.2.2.2, rfl⟩⟩
  unfold Q84b at hlb
  unfold Q84c at hlc
  generalize goE (inpF c A) 0 c.inputs.length = ei at *
  generalize goE (sigF c A) 0 c.signals.length = es at *
  simp [ir64, a1, a2, a3', a4', w1, ev_loop]
  generalize hr : ev pg (.code (.going 4 L64_0) _) = o
  obtain ⟨r, rfl, hx, ⟨l, hh, hkeys⟩, ⟨hnn, hl, g1, g4⟩⟩ : ∃ r, o = some r ∧ Q84a c A r := by
    rw [← hr]
    refine hla _ ⟨⟨[], rfl, by simp [keysTo, namesTo]⟩, ⟨by simp [noNil], by simp, by simp, by simp⟩, by simp [hactA], by simp⟩
  simp (maxDischargeDepth := 9) [hx, hh, hl, g1, adopt_none, noNil_set, hnn]
  generalize hr2 : ev pg (.code (.going 4 L64_1) _) = o
  obtain ⟨r2, rfl, hQ2⟩ : ∃ r, o = some r ∧ _ := by
    rw [← hr2]
    exact hlb _ ((hIb _).2 ⟨⟨l, rfl, hkeys⟩, ⟨by simp (maxDischargeDepth := 9) [noNil_set, hnn], by simp [hl], by simp [g1], by simp [g4]⟩, by simp [hl], by simp [hl], by simp [hl]⟩)
  rcases hQ2 with ⟨hx2, ⟨l2, hh2, hkeys2⟩, ⟨hnn2, hl2, g21, g24⟩, rfl⟩ | ⟨hx2, hl2, g22, g23, hE, l2, hh2⟩
  · simp (maxDischargeDepth := 9) [hx2, hh2, hl2, g21, adopt_none, noNil_set, hnn2]
    generalize hr3 : ev pg (.code (.going 4 L64_2) _) = o
    obtain ⟨r3, rfl, hQ3⟩ : ∃ r, o = some r ∧ _ := by
      rw [← hr3]
      exact hlc _ ((hIc _).2 ⟨⟨l2, rfl, hkeys2⟩, ⟨by simp (maxDischargeDepth := 9) [noNil_set, hnn2], by simp [hl2], by simp [g21], by simp [g24]⟩, by simp [hl2], by simp [hl2]⟩)
    rcases hQ3 with ⟨hx3, ⟨l3, hh3⟩, ⟨hnn3, hl3, g31, g34⟩, rfl⟩ | ⟨hx3, hl3, g32, g33, hE3, l3, hh3⟩
    · rw [if_pos (rfl : (0 : Int) = 0)]
      unfold pilE
      by_cases n1 : c.plus.length = A
      · have n1b : ((c.plus.length : Int) != c.act) = false := by simp; omega
        by_cases n2 : c.minus.length = A
        · have n2b : ((c.minus.length : Int) != c.act) = false := by simp; omega
          rw [if_neg (by omega)]
          have h131 := h131 n1
          have h130 := ev95 (f := 96) (caps := [.bptr 1 0]) (h := hX c l3 [⟨0, .frz 1 ((c.plus ++ c.minus).map nrow)⟩]) (l := c.plus ++ c.minus) (p := badL (countN c A)) (by simp; omega) rfl rfl (fun n => h132 l3 [⟨0, .frz 1 ((c.plus ++ c.minus).map nrow)⟩] (by simp [calm, scrubO]) n) (by simp [calm, scrubO])
          rw [List.any_append] at h130
          generalize c.plus.any (badL (countN c A)) = P at *
          generalize c.minus.any (badL (countN c A)) = M at *
          simp only [ints, List.map_append] at h130
          cases P with
          | true => simp [hx3, hh3, hl3, g31, n1b, n2b, h131, h130]
          | false => cases M with
            | true => simp [hx3, hh3, hl3, g31, n1b, n2b, h131, h130]
            | false => simp [hx3, hh3, hl3, g31, g34, n1b, n2b, h131, h130]
        · have n2b : ((c.minus.length : Int) != c.act) = true := by simp; omega
          rw [if_pos (.inr n2)]
          simp [hx3, hh3, hl3, g31, n1b, n2b]
      · have n1b : ((c.plus.length : Int) != c.act) = true := by simp; omega
        rw [if_pos (.inl n1)]
        simp [hx3, hh3, hl3, g31, n1b]
    · simp [hx3, hh3, g32, g33, hE3]
  · simp [hx2, hh2, g22, g23, hE]
theorem ev30 (c : Ct) (hfew : c.small = true) : ev pg (.call (.fn 30 [] []) [c.v] []) = some { v := num c.check, st := ⟨[], []⟩ } := by
  obtain ⟨v, z, h84⟩ := ev64 c hfew
  generalize c.check = e at *
  rw [ev_call, pg30]
  simp [ir30, h84]
end Go.Proofs.YtopjiafdimoeiaaGreat
