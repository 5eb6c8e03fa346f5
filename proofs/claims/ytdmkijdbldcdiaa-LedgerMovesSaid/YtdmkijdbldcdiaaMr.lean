/- What a right record is. (Printed by wip/gen/gen_mr.py.) -/
import Derived.Test.YtdmkijdbldcdiaaMd
import Derived.Test.YtdmkijdbldcdiaaMe
namespace Go.Proofs.Ytdmkijdbldcdiaa
open Go.RowKit

def rightK (r : PRec) : Bool :=
  if (r.kind == 1) = true then (inR r.count 1 16 && (inR r.node 1 r.count && inR r.num 1 16)) else if (r.kind == 2) = true then inR r.num 1 1099511627776 else if (r.kind == 3) = true then rcellB r else if (r.kind == 4) = true then (tidOk r.tid && (itemsOk r.items && nodesOk r.nodes)) else if (r.kind == 5) = true then (tidOk r.tid && ((decide (r.items.length = 0) || itemsOk r.items) && nodesOk r.nodes)) else if (r.kind == 6) = true then tidOk r.tid else if (r.kind == 7) = true then tidOk r.tid else if (r.kind == 11) = true then tidOk r.tid else if (r.kind == 8) = true then (placedB r 1 && inR r.node 1 16) else if (r.kind == 9) = true then (placedB r 1 && inR r.ver 0 1099511627776) else if (r.kind == 10) = true then placedB r 1 else r.kind == 12
/-- Is a record right? -/
def rightR (r : PRec) : Bool := bareB r && rightK r
end Go.Proofs.Ytdmkijdbldcdiaa
