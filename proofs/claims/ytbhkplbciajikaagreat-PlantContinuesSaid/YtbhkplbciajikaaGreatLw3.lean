/- The law PlantRuns, in Am: it returns true. -/
import Derived.Test.YtbhkplbciajikaaGreatLw2
import Derived.Test.YtbhkplbciajikaaGreatLw1
import Derived.KernelRfl
set_option linter.all false
namespace Go.Proofs.YtbhkplbciajikaaGreat
open Go Go.Am Go.Proofs
set_option maxRecDepth 100000
@[simp] theorem beqR_lrow (l:List (List (Int × Bool))):beqR (l.map lrow) (l.map lrow)=true:=beqR_map (fun x=>by simp [beqR_map (row:=strow)]) l
theorem ev25 (r:Crs):ev pg (.call (.fn 25 [] []) [r.v] [])=some { v:=r.v,st:=⟨[],[]⟩ }:=by
 rw [ev_call,pg25]
 simp [ir25]
theorem ev5 (c:Ct) (s:Ste) (l:List Evn):ev pg (.call (.fn 5 [] []) [c.v,s.v,evs l] [])=some { v:=.bool true,st:=⟨[],[]⟩ }:=by
 have e9:=ev9 c s
 have e10:=ev10
 rw [ev_call,pg5]
 cases hf:(c.few && s.few) with
 | false =>
  rw [hf] at e9
  simp [ir5,e9,e10]
 | true =>
  rw [hf] at e9
  by_cases h3:8192 < l.length
  ·have h1:(30:Int) < l.length:=by omega
   have h2:¬ (l.length:Int)≤4096:=by omega
   have h4:(8192:Int) < l.length:=by omega
   simp [ir5,e9,e10,h1,h2,h4]
  ·have h4:¬ (8192:Int) < l.length:=by omega
   obtain ⟨hc,hs⟩:=few_both hf
   have e22:=ev22 c s hc hs l (by omega)
   have e23:=ev23 c s hc hs l (by omega)
   have hsm:=runR_small hc s l (by omega)
   generalize runR c s l=x at *
   obtain ⟨a,i,e⟩:=x
   simp only at hsm e22 e23
   have e24:=ev24s a hsm
   have e25:=ev25 a
   simp [Crs.v] at e22 e23 e24 e25
   by_cases h1:(30:Int) < l.length
   ·by_cases h2:(l.length:Int)≤4096
    ·simp [ir5,e9,e10,h1,h2]
    ·simp [ev_draw1,exT,chkOk,ir5,e9,e10,h1,h2,h4,e22,e23,e24,e25]
   ·simp [ev_draw1,exT,chkOk,ir5,e9,e10,h1,h4,e22,e23,e24,e25]
end Go.Proofs.YtbhkplbciajikaaGreat
