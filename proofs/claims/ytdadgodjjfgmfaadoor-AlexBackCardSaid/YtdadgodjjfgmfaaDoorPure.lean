/- The plain functions on bytes that the contracts speak of: names, blanks, numbers. No program stands in it. -/
import Derived.Test.YtdadgodjjfgmfaaDoorKit
import Derived.Laws.Bits
namespace Go.Proofs.YtdadgodjjfgmfaaDoor
open Go Go.RowKit

def isLetter (c : UInt8) : Bool := (decide (65 ≤ c.toNat) && decide (c.toNat ≤ 90)) || (decide (97 ≤ c.toNat) && decide (c.toNat ≤ 122))
def isDigit (c : UInt8) : Bool := decide (48 ≤ c.toNat) && decide (c.toNat ≤ 57)
def isBegin (c : UInt8) : Bool := isLetter c || c.toNat == 95
def isGo (c : UInt8) : Bool := isBegin c || isDigit c
/-- The longest run of bytes of which a name could be made. -/
def runName : List UInt8 → List UInt8
  | [] => []
  | c :: l => if isBegin c then (c :: l).takeWhile isGo else []
/-- Is it a name? -/
def nameB : List UInt8 → Bool
  | [] => false
  | c :: l => decide (l.length < 20) && isBegin c && (c :: l).all isGo

theorem or32 (c : UInt8) : (decide ((97 : Int) ≤ bits BinOp.or IntKind.u8 (c.toNat : Int) 32) && decide (bits BinOp.or IntKind.u8 (c.toNat : Int) 32 ≤ 122)) = isLetter c := by
  have h : ∀ n : Fin 256, (decide ((97 : Int) ≤ bits BinOp.or IntKind.u8 (n.val : Int) 32) && decide (bits BinOp.or IntKind.u8 (n.val : Int) 32 ≤ 122)) = isLetter (UInt8.ofNat n.val) := by decide +kernel
  have h1 := h ⟨c.toNat, c.toNat_lt⟩
  simpa using h1

end Go.Proofs.YtdadgodjjfgmfaaDoor
