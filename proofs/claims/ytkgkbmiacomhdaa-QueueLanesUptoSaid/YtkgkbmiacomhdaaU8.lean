/- The type of bytes in the table. -/
import Derived.Test.YtkgkbmiacomhdaaProg
import Derived.Test.YtkgkbmiacomhdaaApp
namespace Go.Proofs.Ytkgkbmiacomhdaa
set_option linter.unusedVariables false
set_option linter.unusedSimpArgs false
open Go.RowKit

theorem info_u8 : (Try.prog.info? 5).map (fun i => (i.zero, i.size, i.bytes)) = some (some (.int .u8 0), 1, 1) := by kernel_rfl


end Go.Proofs.Ytkgkbmiacomhdaa
