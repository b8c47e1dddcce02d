import Derived.Test.YtclblpmjamcknaaGreatF0
set_option linter.unusedVariables false
namespace Go.Proofs.YtclblpmjamcknaaGreat.fn4
open Go.Sx Go.ChangeShapes Go.WideShapes Go.ChangeAt Go.RowKit
theorem qa:Rows.cleanChecksUptoRow.inPlace=Tryz.prog.inPlace 4:=by kernel_rfl
theorem qb:Rows.cleanChecksUptoRow.unfollowed=Tryz.prog.unfollowed 4:=by kernel_rfl
theorem qc:Rows.cleanChecksUptoRow.recurses=Tryz.prog.recurses 4:=by
  unfold Program.recurses; rw [← qb]; rfl
theorem qd:Rows.cleanChecksUptoRow.named=Tryz.prog.varsNamed 4:=by kernel_rfl
theorem bound {H:Type} {l:List (DataW H)} (hk:Rows.uptoSmall H l=true):Rows.uptoBulkAll l≤1048576:=of_decide_eq_true hk
end Go.Proofs.YtclblpmjamcknaaGreat.fn4
