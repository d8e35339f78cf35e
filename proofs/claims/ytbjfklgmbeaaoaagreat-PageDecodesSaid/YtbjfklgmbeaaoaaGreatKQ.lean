/- Bytes that grow: nothing else is changed; the document's put, so told. -/
import Derived.Test.YtbjfklgmbeaaoaaGreatKP
set_option linter.unusedVariables false
set_option linter.unusedSimpArgs false
namespace Go.Proofs.YtbjfklgmbeaaoaaGreat
open Go.RowKit

end Go.Proofs.YtbjfklgmbeaaoaaGreat
