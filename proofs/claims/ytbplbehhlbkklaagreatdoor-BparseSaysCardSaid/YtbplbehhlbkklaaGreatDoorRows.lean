/-
  NARROWER THAN 'FOR EVERY INPUT', by the rows' own cells (each row's printed sentence says how): BparseSays: laid.
  DERIVED. THE GIVEN ROWS OF THIS SEAT. 1 by the template 'for every input the law returns true; each argument reads behind the call as it read before'; 0 by the template 'total and deterministic' (their statements: YtbplbehhlbkklaaGreatDoorTotals.lean).
  GIVEN WITH THE SEED: the statements are not yours to turn. If you find one false, say at which input.
  Laid BY PROGRAM, IN A SANDBOX (cutbox-rows.mjs): the forced cells as the released guide's own fill.sh prints them over the translation 9344eb3aea411c9d… (all of the seat's roots in one cut). By AI agents, Wed Nov 11 2026. No macro, syntax, notation, axiom, sorry.
-/
import Derived.Test.YtbplbehhlbkklaaGreatDoorChecked
import GoSem.Claim
import GoSem.ClaimJoined
import GoSem.ClaimMapViews
import Derived.JoinedTies
import Derived.KernelRfl
namespace Go.Proofs.YtbplbehhlbkklaaGreatDoor
/- THE CELL 'sum', in the pinned program and in every row, IS THE sha256 OF THE DUMP (.gsa) THAT YtbplbehhlbkklaaGreatDoorProg.lean LOADS. Nothing in Lean hashes anything: it is a label: what it is worth is what the hold of that sum in a sandbox is worth. -/
noncomputable def Tryz.pinned : Pinned := { name := "ytbplbehhlbkklaagreatdoor", sum := "9344eb3aea411c9d9732dade5d25c9ce8c267cd980b9afcd38e5f3aa0eb0981e", checked := Tryz.checked }
namespace Rows
def none {H : Type} : Left H := { results := [], args := [] }

/- WHAT THE LISTED PACKAGE-LEVEL VARIABLES READ AS WHEN THE CALL BEGINS. Each datum BY PROGRAM (the guide's laid-datum.mjs) off the statement by which the dump's own 'gosem.cut.vars' lays the variable. In a bare row this is a premise. The card (YtbplbehhlbkklaaGreatDoorCards.lean) ties it to the program's text. -/
def laid_patois_api_ErrLong {H : Type} : DataW H := .iface "*errors.errorString" (.ptr (.agg [.lit (.string [116, 111, 111, 32, 108, 111, 110, 103])]))
def laid_patois_api_ErrNest {H : Type} : DataW H := .iface "*errors.errorString" (.ptr (.agg [.lit (.string [110, 101, 115, 116, 101, 100, 32, 116, 111, 111, 32, 100, 101, 101, 112])]))
def laid_patois_api_ErrQuote {H : Type} : DataW H := .iface "*errors.errorString" (.ptr (.agg [.lit (.string [97, 32, 113, 117, 111, 116, 101, 32, 116, 104, 97, 116, 32, 100, 111, 101, 115, 32, 110, 111, 116, 32, 101, 110, 100])]))
def laid_patois_api_ErrParen {H : Type} : DataW H := .iface "*errors.errorString" (.ptr (.agg [.lit (.string [97, 32, 98, 114, 97, 99, 107, 101, 116, 32, 116, 104, 97, 116, 32, 100, 111, 101, 115, 32, 110, 111, 116, 32, 101, 110, 100])]))
def laid_patois_api_ErrBrace {H : Type} : DataW H := .iface "*errors.errorString" (.ptr (.agg [.lit (.string [97, 32, 98, 114, 97, 99, 101, 32, 116, 104, 97, 116, 32, 100, 111, 101, 115, 32, 110, 111, 116, 32, 101, 110, 100])]))
def laid_patois_api_ErrName {H : Type} : DataW H := .iface "*errors.errorString" (.ptr (.agg [.lit (.string [110, 111, 32, 110, 97, 109, 101])]))
def laid_patois_api_ErrToken {H : Type} : DataW H := .iface "*errors.errorString" (.ptr (.agg [.lit (.string [110, 111, 32, 116, 111, 107, 101, 110])]))
def laid_patois_api_ErrForm {H : Type} : DataW H := .iface "*errors.errorString" (.ptr (.agg [.lit (.string [105, 116, 32, 100, 111, 101, 115, 32, 110, 111, 116, 32, 115, 116, 97, 110, 100, 32, 104, 101, 114, 101])]))
def laid_patois_api_ErrEnd {H : Type} : DataW H := .iface "*errors.errorString" (.ptr (.agg [.lit (.string [105, 116, 32, 101, 110, 100, 115, 32, 116, 111, 111, 32, 101, 97, 114, 108, 121])]))
def laid_patois_api_ErrNode {H : Type} : DataW H := .iface "*errors.errorString" (.ptr (.agg [.lit (.string [110, 111, 32, 112, 114, 111, 103, 114, 97, 109])]))
def laid_patois_api_ErrMany {H : Type} : DataW H := .iface "*errors.errorString" (.ptr (.agg [.lit (.string [116, 111, 111, 32, 109, 97, 110, 121])]))
def laid_patois_api_ErrFuel {H : Type} : DataW H := .iface "*errors.errorString" (.ptr (.agg [.lit (.string [116, 111, 111, 32, 109, 97, 110, 121, 32, 115, 116, 101, 112, 115])]))
def laid_patois_api_ErrDeep {H : Type} : DataW H := .iface "*errors.errorString" (.ptr (.agg [.lit (.string [99, 97, 108, 108, 101, 100, 32, 116, 111, 111, 32, 100, 101, 101, 112])]))
def laid_patois_api_ErrBig {H : Type} : DataW H := .iface "*errors.errorString" (.ptr (.agg [.lit (.string [116, 111, 111, 32, 98, 105, 103])]))
def laid_patois_api_ErrSay {H : Type} : DataW H := .iface "*errors.errorString" (.ptr (.agg [.lit (.string [105, 116, 32, 99, 97, 110, 110, 111, 116, 32, 98, 101, 32, 115, 97, 105, 100])]))
def laid_patois_api_ErrCode {H : Type} : DataW H := .iface "*errors.errorString" (.ptr (.agg [.lit (.string [110, 111, 32, 99, 111, 100, 101])]))
def laid_patois_api_ErrNumber {H : Type} : DataW H := .iface "*errors.errorString" (.ptr (.agg [.lit (.string [110, 111, 32, 115, 117, 99, 104, 32, 110, 117, 109, 98, 101, 114])]))

/-- 'patoislaw13.BparseSays': WHATEVER THE INPUT: true; the input reads as it did. -/
def bparseSaysSpec : ChangeSpec := { name := "bparseSays", fn := fun _ => fun
  | [d] => { results := [.lit (.bool true)], args := [d] }
  | _ => none }
def bparseSaysRow : OpenClaim := { program := "ytbplbehhlbkklaagreatdoor", sum := "9344eb3aea411c9d9732dade5d25c9ce8c267cd980b9afcd38e5f3aa0eb0981e", func := "patois/patoislaw13.BparseSays", spec := "bparseSays", inPlace := ["internal/abi.NoEscape", "internal/bytealg.IndexByteString", "internal/bytealg.IndexString", "internal/reflectlite.TypeOf"], unfollowed := true, recurses := true, named := ["patois/api.ErrNest", "patois/api.ErrLong", "patois/api.ErrToken", "patois/api.ErrQuote", "patois/api.ErrName", "patois/api.ErrEnd", "patois/api.ErrForm", "internal/bytealg.MaxLen", "patois/api.ErrMany", "patois/api.ErrNode", "patois/api.ErrParen", "patois/api.ErrBrace", "patois/api.ErrFuel", "patois/api.ErrDeep", "patois/api.ErrBig", "patois/api.ErrSay", "patois/api.ErrCode", "patois/api.ErrNumber"], apart := false, laid := [("patois/api.ErrLong", laid_patois_api_ErrLong), ("patois/api.ErrNest", laid_patois_api_ErrNest), ("patois/api.ErrQuote", laid_patois_api_ErrQuote), ("patois/api.ErrParen", laid_patois_api_ErrParen), ("patois/api.ErrBrace", laid_patois_api_ErrBrace), ("patois/api.ErrName", laid_patois_api_ErrName), ("patois/api.ErrToken", laid_patois_api_ErrToken), ("patois/api.ErrForm", laid_patois_api_ErrForm), ("patois/api.ErrEnd", laid_patois_api_ErrEnd), ("patois/api.ErrNode", laid_patois_api_ErrNode), ("patois/api.ErrMany", laid_patois_api_ErrMany), ("patois/api.ErrFuel", laid_patois_api_ErrFuel), ("patois/api.ErrDeep", laid_patois_api_ErrDeep), ("patois/api.ErrBig", laid_patois_api_ErrBig), ("patois/api.ErrSay", laid_patois_api_ErrSay), ("patois/api.ErrCode", laid_patois_api_ErrCode), ("patois/api.ErrNumber", laid_patois_api_ErrNumber)] }
def BparseSaysSaid : Prop := bparseSaysRow.holds Tryz.pinned (OpenSpec.ofChange bparseSaysSpec)

/-- ITS FALSE NEIGHBOUR: 'it returns false'. Refute it at one input. -/
def bparseSaysWrong : ChangeSpec := { name := "bparseSays", fn := fun _ => fun
  | [d] => { results := [.lit (.bool false)], args := [d] }
  | _ => none }
def BparseSaysWrongFalsely : Prop := bparseSaysRow.holds Tryz.pinned (OpenSpec.ofChange bparseSaysWrong)

/- THE SECOND FORM. 'bulk': how many values and letters a reading holds, each counted each time it is reached (what is shared counts as often as it is met; a slice's spare places count too). A statement '..UptoSaid' is the law's where the arguments, and the package variables that the reading takes, are together of bulk at most 1048576: NARROWER than '..Said'. Prove '..Said' where nothing that the law and all that it calls make is longer than what came in: it says more and counts as full. Else prove '..UptoSaid'. A law counts once. -/
mutual
def uptoBulk {H : Type} : DataW H → Nat
  | .lit (.string bytes) => bytes.length + 1
  | .lit _ => 1
  | .nil => 1
  | .ptr d => uptoBulk d + 1
  | .slice elems spare => uptoBulkAll elems + uptoBulkAll spare + 1
  | .agg parts => uptoBulkAll parts + 1
  | .iface _ d => uptoBulk d + 1
  | .map entries => uptoBulkEntries entries + 1
  | .held _ => 1
def uptoBulkAll {H : Type} : List (DataW H) → Nat
  | [] => 0
  | d :: r => uptoBulk d + uptoBulkAll r
def uptoBulkEntries {H : Type} : List (Lit × DataW H) → Nat
  | [] => 0
  | x :: r => uptoBulkEntry x + uptoBulkEntries r
def uptoBulkEntry {H : Type} : Lit × DataW H → Nat
  | (.string bytes, d) => bytes.length + uptoBulk d + 1
  | (_, d) => uptoBulk d + 1
 end
def uptoSmall : (H : Type) → List (DataW H) → Bool := fun _ ds => decide (uptoBulkAll ds ≤ 1048576)
def OpenSpec.upto (s : _root_.Go.ChangeSpec) : _root_.Go.OpenSpec := { _root_.Go.OpenSpec.ofChange s with cond := some uptoSmall }

/-- 'patoislaw13.BparseSays', WHERE WHAT IT READS IS OF BULK AT MOST 1048576: true; the input reads as it did. -/
def bparseSaysUptoRow : OpenClaim := { program := "ytbplbehhlbkklaagreatdoor", sum := "9344eb3aea411c9d9732dade5d25c9ce8c267cd980b9afcd38e5f3aa0eb0981e", func := "patois/patoislaw13.BparseSays", spec := "bparseSays", inPlace := ["internal/abi.NoEscape", "internal/bytealg.IndexByteString", "internal/bytealg.IndexString", "internal/reflectlite.TypeOf"], unfollowed := true, recurses := true, named := ["patois/api.ErrNest", "patois/api.ErrLong", "patois/api.ErrToken", "patois/api.ErrQuote", "patois/api.ErrName", "patois/api.ErrEnd", "patois/api.ErrForm", "internal/bytealg.MaxLen", "patois/api.ErrMany", "patois/api.ErrNode", "patois/api.ErrParen", "patois/api.ErrBrace", "patois/api.ErrFuel", "patois/api.ErrDeep", "patois/api.ErrBig", "patois/api.ErrSay", "patois/api.ErrCode", "patois/api.ErrNumber"], apart := false, laid := [("patois/api.ErrLong", laid_patois_api_ErrLong), ("patois/api.ErrNest", laid_patois_api_ErrNest), ("patois/api.ErrQuote", laid_patois_api_ErrQuote), ("patois/api.ErrParen", laid_patois_api_ErrParen), ("patois/api.ErrBrace", laid_patois_api_ErrBrace), ("patois/api.ErrName", laid_patois_api_ErrName), ("patois/api.ErrToken", laid_patois_api_ErrToken), ("patois/api.ErrForm", laid_patois_api_ErrForm), ("patois/api.ErrEnd", laid_patois_api_ErrEnd), ("patois/api.ErrNode", laid_patois_api_ErrNode), ("patois/api.ErrMany", laid_patois_api_ErrMany), ("patois/api.ErrFuel", laid_patois_api_ErrFuel), ("patois/api.ErrDeep", laid_patois_api_ErrDeep), ("patois/api.ErrBig", laid_patois_api_ErrBig), ("patois/api.ErrSay", laid_patois_api_ErrSay), ("patois/api.ErrCode", laid_patois_api_ErrCode), ("patois/api.ErrNumber", laid_patois_api_ErrNumber)], narrowed := true }
def BparseSaysUptoSaid : Prop := bparseSaysUptoRow.holds Tryz.pinned (OpenSpec.upto bparseSaysSpec)

end Rows
end Go.Proofs.YtbplbehhlbkklaaGreatDoor
