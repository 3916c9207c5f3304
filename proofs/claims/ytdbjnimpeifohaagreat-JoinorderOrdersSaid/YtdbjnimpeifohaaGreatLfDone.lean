/- lineagelaw39.JoinorderOrders answers true for every input: no condition ahead of it. -/
import Derived.Test.YtdbjnimpeifohaaGreatLfR7
import Derived.Test.YtdbjnimpeifohaaGreatLfAwake39
set_option linter.all false
namespace Go.Proofs.YtdbjnimpeifohaaGreat
open Go.Lf
theorem joinorderOrders_holds : Rows.JoinorderOrdersSaid := f7_holds (call7 awake39)
end Go.Proofs.YtdbjnimpeifohaaGreat
