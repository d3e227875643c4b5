/- slices.IndexFunc and ContainsFunc over bytes, of any closure. -/
import Derived.Test.YtclekbkpcigkcaaAbsV
import Derived.Test.YtclekbkpcigkcaaTb
namespace Go.Proofs.Ytclekbkpcigkcaa.FnB
open Go.RowKit Mem Abs

end Go.Proofs.Ytclekbkpcigkcaa.FnB
