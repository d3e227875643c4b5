/- slices.IndexFunc and ContainsFunc over bytes, of any closure. -/
import Derived.Test.YtaojlikkaajpmaaWk
import Derived.Test.YtaojlikkaajpmaaAbsV
import Derived.Test.YtaojlikkaajpmaaTb
namespace Go.Proofs.Ytaojlikkaajpmaa.FnB
open Go.RowKit Mem Abs

end Go.Proofs.Ytaojlikkaajpmaa.FnB
