import Derived.Test.YtclblpmjamcknaaGreatC0
import Derived.Test.YtclblpmjamcknaaGreatC01
import Derived.Test.YtclblpmjamcknaaGreatC41
set_option linter.unusedVariables false
namespace Go.Proofs.YtclblpmjamcknaaGreat.fn4
open Go.Sx Go.ChangeShapes Go.WideShapes Go.ChangeAt Go.RowKit
theorem closed:joinedFacts Tryz.prog 4 Tryz.f4 (Rows.OpenSpec.upto Rows.cleanChecksSpec).bare Rows.cleanChecksUptoRow=true:=by
  unfold joinedFacts
  rw [← qa,← qb,← qc,← qd,laid,c_maps,c_heard,← c_keys,c_make,c_enter,← c_lifts]
  kernel_rfl
end Go.Proofs.YtclblpmjamcknaaGreat.fn4
