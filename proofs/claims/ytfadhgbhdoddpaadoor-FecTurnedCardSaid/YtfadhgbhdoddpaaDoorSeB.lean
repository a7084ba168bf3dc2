/- In this seat the document's Check of a section isn't reached. -/
import Derived.Test.YtfadhgbhdoddpaaDoorSeA
namespace Go.Proofs.YtfadhgbhdoddpaaDoor.SeB
end Go.Proofs.YtfadhgbhdoddpaaDoor.SeB
