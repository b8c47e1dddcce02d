import Derived.Test.YtclblpmjamcknaaGreatRows
import Derived.JoinedCond
import Derived.KernelRfl
namespace Go.Proofs.YtclblpmjamcknaaGreat
theorem c_maps:mapsRowed Tryz.prog=true:=by kernel_rfl
theorem c_heard:Tryz.prog.stopsHeard=true:=by kernel_rfl
theorem c_keys:Rows.cleanChecksUptoRow.plainKeys=Tryz.prog.plainKeys:=by kernel_rfl
theorem c_make:Tryz.prog.make=some Rows.cleanChecksUptoRow.make:=by kernel_rfl
end Go.Proofs.YtclblpmjamcknaaGreat
