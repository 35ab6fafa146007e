import Derived.Test.YtbccdjaeopfalaaRows
import Derived.Test.YtbccdjaeopfalaaMem
namespace Go.Proofs.Ytbccdjaeopfalaa
open Go.RowKit
theorem Try.info3 : (Try.prog.info? 3).map (fun i => (i.zero, i.size, i.bytes)) = some (some (.int .i64 0), 1, 8) := by kernel_rfl
end Go.Proofs.Ytbccdjaeopfalaa
