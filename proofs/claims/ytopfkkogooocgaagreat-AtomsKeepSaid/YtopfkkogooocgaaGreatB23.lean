import Derived.Test.YtopfkkogooocgaaGreatB14
set_option linter.unusedVariables false
set_option linter.unusedSimpArgs false
namespace Go.Proofs.YtopfkkogooocgaaGreat
open Go.RowKit
end Go.Proofs.YtopfkkogooocgaaGreat
