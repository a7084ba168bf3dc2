/- In this seat the document's Bytes of a section isn't reached. -/
import Derived.Test.YtfadhgbhdoddpaaSeC
import Derived.Test.YtfadhgbhdoddpaaCrD
namespace Go.Proofs.Ytfadhgbhdoddpaa.SeD
end Go.Proofs.Ytfadhgbhdoddpaa.SeD
