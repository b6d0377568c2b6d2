/- Names and letters, as the document has them: contracts. -/
import Derived.Test.YtbpjobmpacjgcaaGreatDoorGZA
import Derived.Test.YtbpjobmpacjgcaaGreatDoorGZK
namespace Go.Proofs.YtbpjobmpacjgcaaGreatDoor
open Go Go.RowKit
def MC (k:Int):Bool:=tA k || sF k
end Go.Proofs.YtbpjobmpacjgcaaGreatDoor
