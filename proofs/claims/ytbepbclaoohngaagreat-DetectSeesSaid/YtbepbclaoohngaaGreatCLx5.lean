/- The law DetectSees, in Am: it returns true. -/
import Derived.Test.YtbepbclaoohngaaGreatCDt5
import Derived.Test.YtbepbclaoohngaaGreatCAw13
import Derived.KernelRfl
set_option linter.all false
namespace Go.Proofs.YtbepbclaoohngaaGreat
open Go Go.Am Go.Proofs
set_option maxRecDepth 100000
set_option maxHeartbeats 4000000
theorem ev5(c:Ct)(k i:Int)(l:List Evn):ev pg (.call (.fn 5 [] []) [c.v,fv k i,evs l] [])=some { v:=.bool true,st:=⟨[],[]⟩ }:=by
 have e1:=ev26 c
 have e12:=ev12
 rw[qaa,pg5]
 cases hf:c.few with
 | false =>
  rw[hf]at e1
  simp[ir5,e1,e12]
 | true =>
  rw[hf]at e1
  have hs:=q4t hf
  have e2:=ev27 c hs k i l
  have e3:=ev28 c hs k i l
  generalize q3g c k i l=z at *
  by_cases h1:30<l.length
  .have h1':(30:Int)<l.length:=by omega
   by_cases h2:l.length<=4096
   .have h2':(l.length:Int)<=4096:=by omega
    simp[ir5,e1,e12,h1,h1',h2,h2']
   .have h2':¬(l.length:Int)<=4096:=by omega
    by_cases h3:8192<l.length
    .have h3':(8192:Int)<l.length:=by omega
     simp[ir5,e1,e12,h1,h1',h2,h2',h3,h3']
    .have h3':¬(8192:Int)<l.length:=by omega
     simp[ir5,e1,e2,e3,e12,h1,h1',h2,h2',h3,h3']
  .have h1':¬(30:Int)<l.length:=by omega
   have h3':¬(8192:Int)<l.length:=by omega
   simp[ir5,e1,e2,e3,e12,h1,h1',h3']
end Go.Proofs.YtbepbclaoohngaaGreat
