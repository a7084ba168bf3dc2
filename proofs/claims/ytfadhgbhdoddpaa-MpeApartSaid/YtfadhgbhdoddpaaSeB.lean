/- In this seat the document's Check of a section isn't reached. -/
import Derived.Test.YtfadhgbhdoddpaaSeA
namespace Go.Proofs.Ytfadhgbhdoddpaa.SeB
end Go.Proofs.Ytfadhgbhdoddpaa.SeB
