/- A node among the arguments, however long its slices. -/
import Derived.Test.YtbjfklgmbeaaoaaGreatV3
set_option linter.unusedVariables false
set_option linter.unusedSimpArgs false
namespace Go.Proofs.YtbjfklgmbeaaoaaGreat
open Go.RowKit

end Go.Proofs.YtbjfklgmbeaaoaaGreat
