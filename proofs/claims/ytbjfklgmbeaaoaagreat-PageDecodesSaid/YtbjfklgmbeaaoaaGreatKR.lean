/- The walk of ref07's Encode: it says what page's says. -/
import Derived.Test.YtbjfklgmbeaaoaaGreatKQ
import Derived.Test.YtbjfklgmbeaaoaaGreatV4
set_option linter.unusedVariables false
set_option linter.unusedSimpArgs false
namespace Go.Proofs.YtbjfklgmbeaaoaaGreat
open Go.RowKit

end Go.Proofs.YtbjfklgmbeaaoaaGreat
