/- What the printed reference of the sets computes: the same plain words as the program's. -/
import Derived.Test.YtjoogjcbamnnbaaSets

namespace Go.Proofs.Ytjoogjcbamnnbaa.Sets
open Go.RowKit Go.Proofs.Ytjoogjcbamnnbaa.D Go.Proofs.YtjoogjcbamnnbaaW.PrintWords Go.Proofs.YtjoogjcbamnnbaaW.PrintLast Go.Proofs.Ytjoogjcbamnnbaa.SetMath

end Go.Proofs.Ytjoogjcbamnnbaa.Sets
