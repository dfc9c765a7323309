-- WRITTEN BY a program of this session's (wip/gprint.py, over the kit's print), with functions given by hand among them. Not trusted: Lean checks it.
import Derived.Test.YtmoahkdadeiahaaQ0
import Derived.Test.YtmoahkdadeiahaaQ1
import Derived.Test.YtmoahkdadeiahaaQ2
import Derived.Test.YtmoahkdadeiahaaQ3
import Derived.Test.YtmoahkdadeiahaaQ4
import Derived.Test.YtmoahkdadeiahaaQ5
import Derived.Test.YtmoahkdadeiahaaQ6
import Derived.Test.YtmoahkdadeiahaaQ7
import Derived.Test.YtmoahkdadeiahaaQ8
import Derived.Test.YtmoahkdadeiahaaQ9
namespace Go.Proofs.Ytmoahkdadeiahaa.Q
open Go.RowKit Go.Proofs.YtmoahkdadeiahaaW.PrintWords Go.Proofs.YtmoahkdadeiahaaW.PrintLast Go.Proofs.YtmoahkdadeiahaaW.PrintMore
attribute [local go_sem] max2_int min2_int max_two min_two max_three min_three max_four min_four   -- for this text's walks alone
set_option linter.unusedVariables false
set_option linter.unusedSimpArgs false

end Go.Proofs.Ytmoahkdadeiahaa.Q
