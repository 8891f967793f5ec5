/- The reference's small tests of notes. -/
import Derived.Test.YtpdmlklnbjegpaaGreatHis1
namespace Go.Proofs.YtpdmlklnbjegpaaGreat
open Go.RowKit

section
attribute [local go_sem] noteA_0 noteA_1
end
end Go.Proofs.YtpdmlklnbjegpaaGreat
