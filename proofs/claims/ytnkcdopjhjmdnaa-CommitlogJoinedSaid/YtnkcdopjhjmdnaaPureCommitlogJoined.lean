/- The plain law of CommitlogJoined: what stands behind one another is told behind one another. -/
import Derived.Test.YtnkcdopjhjmdnaaDcS
namespace Go.Proofs.Ytnkcdopjhjmdnaa.Pure
open Go.RowKit Go.Proofs.Ytnkcdopjhjmdnaa.QB Go.Proofs.YtnkcdopjhjmdnaaW.PrintWords Go.Proofs.YtnkcdopjhjmdnaaW.PrintLast
theorem CommitlogJoined : thermographlaw09_CommitlogJoined.Pure := Go.Proofs.Ytnkcdopjhjmdnaa.DcQ.CommitlogJoined_pure
end Go.Proofs.Ytnkcdopjhjmdnaa.Pure
