/- States: right, by the program. -/
import Derived.Test.YtopjiafdimoeiaaGreatSa2
import Derived.Test.YtopjiafdimoeiaaGreatCq3
namespace Go.Proofs.YtopjiafdimoeiaaGreat
open Go Go.Am Go.Proofs
set_option maxRecDepth 100000
theorem ev108 {h : H} {i : Nat} {m : Int} (hi : h[i]? = some ⟨0, .box [num m]⟩) (hcl : calm h) (n : Int) : ev pg (.call (.fn 108 [] [.bptr i 0]) [num n] h) = some { v := .bool (badL m n), st := ⟨[], h⟩ } := by
  have hck := calm_cutK hcl
  rw [ev_call, pg108]
  unfold badL
  by_cases h1 : n < 0
  · simp [-cutK, ir108, h1, hck]
  · simp [-cutK, ir108, h1, hi, hck]
theorem ev107 (n : Int) (h : H) : ev pg (.call (.fn 107 [] []) [num n] h) = some { v := .fn 108 [] [.bptr h.length 0], st := ⟨[], h ++ [⟨0, .box [num n]⟩]⟩ } := by
  rw [ev_call, pg107]
  simp [ir107]
abbrev hb79 (c : Ct) (s : Ste) : H := [⟨0, .box c.cells⟩, ⟨0, .box s.cells⟩, ⟨0, .box [num 4]⟩, ⟨0, .box [num 3]⟩]
def T79 (c : Ct) (s : Ste) (k : Nat) : Tm := [none, none, some (.bptr 0 0), some (.bptr 1 0)] ++ List.replicate 59 none ++ [some (ints s.timers), some (num s.timers.length), some (num k)] ++ List.replicate 31 none
def T79r : Tm := [none, none, none, none, some (num 14)] ++ List.replicate 92 none
theorem loop79 (c : Ct) (s : Ste) (hs : s.small) (hS : Shp c s) {st : St} (h0 : At (T79 c s 0) (hb79 c s) st) : ∃ r, ev pg (.code (.going 4 L79_0) st) = some r ∧ Finds s.timers.length (tmF c s) (fun _ => EndsAs .ret T79r (hb79 c s)) (EndsAs (.exit 0) (T79 c s s.timers.length) (hb79 c s)) r := by
  have hse := hs.t
  have hv := hS.v
  have ht := hS.t
  refine loop_first _ _ (T79 c s) (hb79 c s) _ _ ?_ ?_ ?_ h0
  · intro k f hf hk hp
    have hk' : (k : Int) < s.timers.length := by omega
    have hkv : k < s.values.length := by omega
    have hkc : k < c.signals.length := by omega
    have wk := wrap_id (n := (k : Int) + 1) (by omega) (by omega)
    have hp' : tmB c.signals[k].kind s.values[k] s.timers[k] = false := by simpa [tmF, hk, hkv, hkc] using hp
    simp [tmB] at hp'
    by_cases h2 : c.signals[k].kind = 2
    · have hq := hp'.2 h2
      simp [T79, L79_0, hk, hk', hkv, hkc, h2, hq, wk, hf.ne]
    · have h0 := hp'.1 h2
      have h2b : (c.signals[k].kind == 2) = false := by simpa using h2
      simp [T79, L79_0, hk, hk', hkv, hkc, h2b, h0, wk, hf.ne]
  · intro k f hf hk hp
    have hk' : (k : Int) < s.timers.length := by omega
    have hkv : k < s.values.length := by omega
    have hkc : k < c.signals.length := by omega
    have hp' : tmB c.signals[k].kind s.values[k] s.timers[k] = true := by simpa [tmF, hk, hkv, hkc] using hp
    simp [tmB] at hp'
    by_cases h2 : c.signals[k].kind = 2
    · have hq : ¬ s.values[k] = (s.timers[k] == 2) := by simpa [h2] using hp'
      simp [T79, T79r, L79_0, hk, hk', hkv, hkc, h2, hq, hf.ne]
    · have h0 : (s.timers[k] != 0) = true := by simpa [h2] using hp'
      have h2b : (c.signals[k].kind == 2) = false := by simpa using h2
      simp [T79, T79r, L79_0, hk, hk', hkv, hkc, h2b, h0, hf.ne]
  · intro f hf
    simp [T79, L79_0, hf.ne]
theorem ev79 (c : Ct) (s : Ste) (hs : s.small) : ev pg (.call (.fn 79 [] []) [c.v, s.v] []) = some { v := num (fitE c s), st := ⟨[], []⟩ } := by
  rw [ev_call, pg79]
  by_cases hS : Shp c s
  · have hl := @loop79 c s hs hS
    have e1 : ((s.ends.length : Int) != c.act) = false := by simp [hS.e]
    have e2 : ((s.valves.length : Int) != c.act) = false := by simp [hS.w]
    have e3 : ((s.inputs.length : Int) != (c.inputs.length : Int)) = false := by simp [hS.i]
    have e4 : ((s.values.length : Int) != (c.signals.length : Int)) = false := by simp [hS.v]
    have e5 : ((s.timers.length : Int) != (c.signals.length : Int)) = false := by simp [hS.t]
    have m4 := ev107 4 (h49 c s)
    have m3 := ev107 3 [⟨0, .box c.cells⟩, ⟨0, .box s.cells⟩, ⟨0, .box [num 4]⟩]
    have a4 := ev95 (f := 108) (caps := [.bptr 2 0]) (h := [⟨0, .box c.cells⟩, ⟨0, .box s.cells⟩, ⟨0, .box [num 4]⟩]) (l := s.ends) (p := badL 4) hs.e rfl rfl (ev108 (by rfl) (by simp [calm])) (by simp [calm])
    have a3 := ev95 (f := 108) (caps := [.bptr 3 0]) (h := hb79 c s) (l := s.timers) (p := badL 3) hs.t rfl rfl (ev108 (by rfl) (by simp [calm])) (by simp [calm])
    unfold fitE
    rw [if_pos hS]
    generalize s.ends.any (badL 4) = b1 at *
    generalize s.timers.any (badL 3) = b2 at *
    generalize hB3 : anyF (tmF c s) s.timers.length = B3
    cases b1 with
    | true => simp [ev_draw1, exT, chkOk, ir79, e1, e2, e3, e4, e5, m4, a4]
    | false => cases b2 with
      | true => simp [ev_draw1, exT, chkOk, ir79, e1, e2, e3, e4, e5, m4, a4, m3, a3]
      | false =>
        simp [ev_draw1, exT, chkOk, ir79, ev_loop, e1, e2, e3, e4, e5, m4, a4, m3, a3]
        generalize hr : ev pg (.code (.going _ L79_0) _) = o
        obtain ⟨r, rfl, hQ⟩ : ∃ r, o = some r ∧ _ := by rw [← hr]; exact hl (by simp [T79])
        rcases hQ with ⟨k, hk, hp, -, f, hf, rfl⟩ | ⟨hp, f, hf, rfl⟩
        · obtain rfl : B3 = true := by rw [← hB3]; exact anyF_of hk hp
          simp [T79r]
        · obtain rfl : B3 = false := by rw [← hB3]; exact anyF_not hp
          simp [T79]
  · have hn := shp_not hS
    unfold fitE
    rw [if_neg hS]
    generalize e1 : ((s.ends.length : Int) != c.act) = b1 at hn
    generalize e2 : ((s.valves.length : Int) != c.act) = b2 at hn
    generalize e3 : ((s.inputs.length : Int) != (c.inputs.length : Int)) = b3 at hn
    generalize e4 : ((s.values.length : Int) != (c.signals.length : Int)) = b4 at hn
    generalize e5 : ((s.timers.length : Int) != (c.signals.length : Int)) = b5 at hn
    cases b1 with
    | true => simp [ir79, e1]
    | false => cases b2 with
      | true => simp [ir79, e1, e2]
      | false => cases b3 with
        | true => simp [ir79, e1, e2, e3]
        | false => cases b4 with
          | true => simp [ir79, e1, e2, e3, e4]
          | false => cases b5 with
            | true => simp [ir79, e1, e2, e3, e4, e5]
            | false => simp at hn
abbrev stE (c : Ct) (s : Ste) : Int := if c.check = 0 then fitE c s else c.check
theorem ev41 (c : Ct) (s : Ste) (hfew : c.small = true) (hs : s.small) : ev pg (.call (.fn 41 [] []) [c.v, s.v] []) = some { v := num (stE c s), st := ⟨[], []⟩ } := by
  have h1 := ev30 c hfew
  have h2 := ev79 c s hs
  rw [ev_call, pg41]
  unfold stE
  generalize c.check = e at *
  by_cases he : e = 0
  · subst he
    simp [ir41, h1, h2]
  · simp [ir41, h1, he]
end Go.Proofs.YtopjiafdimoeiaaGreat
