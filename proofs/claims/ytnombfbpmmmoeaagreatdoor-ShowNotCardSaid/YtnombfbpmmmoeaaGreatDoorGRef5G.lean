/- Names and letters, as the document has them: contracts. -/
import Derived.Test.YtnombfbpmmmoeaaGreatDoorGZA
import Derived.Test.YtnombfbpmmmoeaaGreatDoorGZK
namespace Go.Proofs.YtnombfbpmmmoeaaGreatDoor
open Go Go.RowKit
def K6 (k:Int):Bool:=rQ k || qW k
end Go.Proofs.YtnombfbpmmmoeaaGreatDoor
