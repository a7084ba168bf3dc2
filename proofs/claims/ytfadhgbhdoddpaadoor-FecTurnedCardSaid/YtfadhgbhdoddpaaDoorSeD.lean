/- In this seat the document's Bytes of a section isn't reached. -/
import Derived.Test.YtfadhgbhdoddpaaDoorSeC
import Derived.Test.YtfadhgbhdoddpaaDoorCrD
namespace Go.Proofs.YtfadhgbhdoddpaaDoor.SeD
end Go.Proofs.YtfadhgbhdoddpaaDoor.SeD
