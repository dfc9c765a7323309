-- WRITTEN BY a program of this session's (wip/gprint.py, over the kit's print), with functions given by hand among them. Not trusted: Lean checks it.
import Derived.Test.YtmefkjdnnapkjaaQ0
import Derived.Test.YtmefkjdnnapkjaaQ1
import Derived.Test.YtmefkjdnnapkjaaQ2
import Derived.Test.YtmefkjdnnapkjaaQ3
import Derived.Test.YtmefkjdnnapkjaaQ4
import Derived.Test.YtmefkjdnnapkjaaQ5
import Derived.Test.YtmefkjdnnapkjaaQ6
import Derived.Test.YtmefkjdnnapkjaaQ7
import Derived.Test.YtmefkjdnnapkjaaQ8
import Derived.Test.YtmefkjdnnapkjaaQ9
import Derived.Test.YtmefkjdnnapkjaaQ10
import Derived.Test.YtmefkjdnnapkjaaQ11
import Derived.Test.YtmefkjdnnapkjaaQ12
import Derived.Test.YtmefkjdnnapkjaaQ13
import Derived.Test.YtmefkjdnnapkjaaQ14
import Derived.Test.YtmefkjdnnapkjaaQ15
import Derived.Test.YtmefkjdnnapkjaaQ16
import Derived.Test.YtmefkjdnnapkjaaQ17
import Derived.Test.YtmefkjdnnapkjaaQ18
import Derived.Test.YtmefkjdnnapkjaaQ19
namespace Go.Proofs.Ytmefkjdnnapkjaa.Q
open Go.RowKit Go.Proofs.YtmefkjdnnapkjaaW.PrintWords Go.Proofs.YtmefkjdnnapkjaaW.PrintLast Go.Proofs.YtmefkjdnnapkjaaW.PrintMore
attribute [local go_sem] max2_int min2_int max_two min_two max_three min_three max_four min_four   -- for this text's walks alone
set_option linter.unusedVariables false
set_option linter.unusedSimpArgs false

end Go.Proofs.Ytmefkjdnnapkjaa.Q
