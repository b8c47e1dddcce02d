import Derived.Test.YtclblpmjamcknaaGreatRows
import Derived.JoinedCond
import Derived.KernelRfl
namespace Go.Proofs.YtclblpmjamcknaaGreat
theorem c_enter:Tryz.prog.mayEnter=true:=by kernel_rfl
theorem c_lifts:Rows.cleanChecksUptoRow.lifted=Tryz.prog.liftsFinal:=by kernel_rfl
end Go.Proofs.YtclblpmjamcknaaGreat
