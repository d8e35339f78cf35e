/- The walks of regaugeref03's Writer and Bytes. -/
import Derived.Test.YtenibcbodjkglaaH1
set_option linter.unusedVariables false
set_option linter.unusedSimpArgs false
namespace Go.Proofs.Ytenibcbodjkglaa
open Go.RowKit

/-- The document's Bytes, of a writer. -/
def bytesS (s : WS) (ys : List UInt8) : WS := if roomB s.xs.length s.at_ s.sp ys.length = true then ⟨s.at_ + ys.length, false, putL s.xs ys s.at_⟩ else ⟨s.at_, true, s.xs⟩
end Go.Proofs.Ytenibcbodjkglaa
