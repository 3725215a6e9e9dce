/- The arguments of the laws of layer 31. -/
import Derived.Test.YtfkbcjpiijcbfaaArgs
import Derived.Test.YtfkbcjpiijcbfaaC7
namespace Go.Proofs.Ytfkbcjpiijcbfaa
set_option linter.unusedVariables false
set_option linter.unusedSimpArgs false
open Go.ChangeShapes Go.WideShapes Go.ChangeAt Go.RowKit
theorem own : ownKnob Try.prog.godebug = none := by kernel_rfl
theorem laidOut : laidOutB Try.prog = true := by kernel_rfl
end Go.Proofs.Ytfkbcjpiijcbfaa
