/- Joined for a claim: Small. -/
import Derived.Test.YtelcjdblnagdgaaDoorM01
namespace Go.Proofs.YtelcjdblnagdgaaDoor
open Go.RowKit


end Go.Proofs.YtelcjdblnagdgaaDoor
