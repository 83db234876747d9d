import Derived.Sort.Walk7a
import Derived.Sort.WalkB12
import Derived.Sort.WalkA
import Derived.Sort.WalkA6
import Derived.Sort.WalkC
import Derived.Sort.WalkC4
import Derived.Sort.Walk7
import Derived.Sort.WalkB2
import Derived.Sort.WalkB3
import Derived.Sort.WalkD2
import Derived.Sort.Walk11
import Derived.Sort.Walk13
import Derived.Sort.WalkA14
import Derived.Sort.AssemblyPlain
import Derived.Test.YtonhfknjcbakiaaDoorB1
set_option linter.unusedVariables false
set_option linter.unusedSimpArgs false
namespace Go.Proofs.YtonhfknjcbakiaaDoor
open Go.RowKit Go.Sort
structure PlnU:Prop where
 swo:SWO ltInt
 ins:insertionSort_stmt ltInt
 par:partialInsertionSort_stmt ltInt
 prt:partition_stmt ltInt
 peq:partitionEqual_stmt ltInt
 pdq:pdq_stmt ltInt
end Go.Proofs.YtonhfknjcbakiaaDoor
