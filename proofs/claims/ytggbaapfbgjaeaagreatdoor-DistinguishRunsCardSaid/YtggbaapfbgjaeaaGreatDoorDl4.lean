/- The law. -/
import Derived.Test.YtggbaapfbgjaeaaGreatDoorAw15
set_option linter.all false
namespace Go.Proofs.YtggbaapfbgjaeaaGreatDoor
open Go Go.Am Go.Proofs
theorem ev4(c:Ct)(p q:Int×Int)(test:List Int):ev pg (.call (fnq 4) [c.v,.agg [num p.1,num p.2,num q.1,num q.2],qct test] [])=some (rvq (.bool true)):=ev4x ev12 c p q test
end Go.Proofs.YtggbaapfbgjaeaaGreatDoor
