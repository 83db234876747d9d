import Derived.Test.YtopfkkogooocgaaGreatProg
import Derived.WalkKit
import Derived.LaidEql
import Derived.Stop.Asserts
import Derived.RowKitTokens
import Derived.Laws.Cells
import Derived.Laws.IdiomCopy
import Derived.Test.YtopfkkogooocgaaGreatB8
set_option linter.unusedVariables false
set_option linter.unusedSimpArgs false
set_option maxRecDepth 100000
namespace Go.Proofs.YtopfkkogooocgaaGreat.As
open Go.RowKit Go.Extern.Stop Go.Stop Go.Extern
end Go.Proofs.YtopfkkogooocgaaGreat.As
namespace Go.Proofs.YtopfkkogooocgaaGreat.As
open Go.RowKit Go.Extern.Stop Go.Stop Go.Extern
end Go.Proofs.YtopfkkogooocgaaGreat.As
namespace Go.Proofs.YtopfkkogooocgaaGreat.As
open Go.RowKit Go.Extern.Stop Go.Stop Go.Extern
end Go.Proofs.YtopfkkogooocgaaGreat.As
namespace Go.Proofs.YtopfkkogooocgaaGreat.As
open Go.RowKit Go.Extern.Stop Go.Stop Go.Extern
end Go.Proofs.YtopfkkogooocgaaGreat.As
