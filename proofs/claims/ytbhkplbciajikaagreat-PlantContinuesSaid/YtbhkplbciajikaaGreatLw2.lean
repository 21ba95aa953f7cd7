/- The law PlantRests, in Am: it returns true. -/
import Derived.Test.YtbhkplbciajikaaGreatLw1
import Derived.KernelRfl
set_option linter.all false
namespace Go.Proofs.YtbhkplbciajikaaGreat
open Go Go.Am Go.Proofs
set_option maxRecDepth 100000
theorem ev4 (c:Ct) (s:Ste):ev pg (.call (.fn 4 [] []) [c.v,s.v] [])=some { v:=.bool true,st:=⟨[],[]⟩ }:=by
 have e9:=ev9 c s
 have e10:=ev10
 rw [ev_call,pg4]
 cases hf:(c.few && s.few) with
 | false =>
  rw [hf] at e9
  simp [ir4,e9,e10]
 | true =>
  rw [hf] at e9
  obtain ⟨hc,hs⟩:=few_both hf
  have e16:=ev16 c s hc hs
  have e17:=ev17 c s hc hs
  have e18:=ev18 c hc
  have e19:=ev19 c hc
  obtain ⟨s1,s2⟩:=restR_small (s:=s) c hc
  obtain ⟨s3,s4⟩:=startR_small c hc
  generalize restR c s=x at *
  generalize startR c=y at *
  obtain ⟨a,l,e⟩:=x
  obtain ⟨b,m,f⟩:=y
  simp only at s1 s2 s3 s4
  have t1:=ev20 a a s1
  have t2:=ev20 b b s3
  have t3:=ev21 l l s2
  have t4:=ev21 m m s4
  rw [sameT_self] at t1 t2
  simp only [decide_true] at t3 t4
  simp [ir4,e9,e10,e16,e17,e18,e19,t1,t2,t3,t4]
end Go.Proofs.YtbhkplbciajikaaGreat
