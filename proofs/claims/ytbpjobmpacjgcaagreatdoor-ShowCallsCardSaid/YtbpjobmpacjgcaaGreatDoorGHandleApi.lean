/- Of a row's list: api's errors alone. -/
import Derived.Test.YtbpjobmpacjgcaaGreatDoorGZB
namespace Go.Proofs.YtbpjobmpacjgcaaGreatDoor
open Go
def Ea (x : String × DataW Unit) : Bool := !["errors.errorType", "math/bits.deBruijn32tab", "math/bits.deBruijn64tab", "internal/strconv.uint64pow10", "unicode/utf8.acceptRanges", "unicode/utf8.first"].contains x.1
end Go.Proofs.YtbpjobmpacjgcaaGreatDoor
