/- The reference's test of strokes. -/
import Derived.Test.YtpdmlklnbjegpaaGreatHis2
import Derived.Test.YtpdmlklnbjegpaaGreatRh1
import Derived.Deep.Cut
namespace Go.Proofs.YtpdmlklnbjegpaaGreat
open Go.RowKit

end Go.Proofs.YtpdmlklnbjegpaaGreat
