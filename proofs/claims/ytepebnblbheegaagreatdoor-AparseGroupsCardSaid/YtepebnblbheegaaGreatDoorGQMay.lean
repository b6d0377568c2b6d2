/- AparseMay. -/
import Derived.Test.YtepebnblbheegaaGreatDoorGQTopG
import Derived.Test.YtepebnblbheegaaGreatDoorGZF
namespace Go.Proofs.YtepebnblbheegaaGreatDoor
open Go Go.RowKit
theorem parseA_codes {L:List UInt8} {c:Nat} {p:Option Nat} (hL:L.length≤8192) (h:parseA L = .error (c,p)):(101≤c∧c≤117)∧(p=none→c=111):=by
 have hm:=parseA_may L hL
 rw [h] at hm
 obtain ⟨h1,h2⟩:=hm
 refine ⟨by omega,fun e=>?_⟩
 subst e
 rcases h2 with h2 | ⟨q,h2,_⟩
 ·exact h2.1
 ·cases h2
end Go.Proofs.YtepebnblbheegaaGreatDoor
