/- BparseNests and BparseIfs: sources that can be counted, each read by the plain parser. No program stands in it. -/
import Derived.Test.YtepebnblbheegaaGreatDoorParseG
namespace Go.Proofs.YtepebnblbheegaaGreatDoor
open Go Go.RowKit

/-- Brackets of a kind, so many. -/
def nestSrc (n kind : Nat) : List UInt8 := (if kind = 0 then [] else [97, 32]) ++ List.replicate n (if kind = 0 then 123 else 40) ++ [32, 98]
def nestWant (n kind : Nat) : Option (Nat × Option Nat) :=
  if n = 0 then none else if 30 < n + 1 then some (102, some (if kind = 1 then 31 else if n = 30 then 31 else 30)) else some (109, some ((if kind = 0 then 0 else 2) + n + 2))
def nestGot (n kind : Nat) : Option (Nat × Option Nat) := match parseB (nestSrc n kind) with | .ok _ => none | .error e => some e
set_option maxRecDepth 100000 in
theorem nest_all : ((List.range 64).all fun n => (decide (nestGot n 0 = nestWant n 0)) && decide (nestGot n 1 = nestWant n 1)) = true := by decide +kernel
theorem nest_is (n kind : Nat) (hn : n < 64) (hk : kind < 2) : nestGot n kind = nestWant n kind := by
  have h := List.all_eq_true.1 nest_all n (List.mem_range.2 hn)
  simp only [Bool.and_eq_true, decide_eq_true_eq] at h
  match kind, hk with
  | 0, _ => exact h.1
  | 1, _ => exact h.2

/-- Ifs, so many, with so many elses. -/
def ifSrc (n m : Nat) : List UInt8 := (List.replicate n [105, 102, 40, 97, 41, 32]).flatten ++ [98] ++ (List.replicate m [32, 101, 108, 115, 101, 32, 99]).flatten
def callP (s : List UInt8) : Prog := newP 21 0 [] [litP s]
/-- An if around a program, so many times. -/
def ifIn (no : Prog) : Nat → Prog → Prog
  | 0, p => p
  | k + 1, p => ifIn no k (newP 24 0 [] [callP [97], p, no])
def ifWant (n m : Nat) : Prog := ifIn (newP 20 0 [] []) (n - m) (ifIn (callP [99]) m (callP [98]))
def ifGot (n m : Nat) : Option Prog := match parseB (ifSrc n m) with | .ok l => some l | .error _ => none
set_option maxRecDepth 100000 in
theorem if_all : ((List.range 11).all fun n => n == 0 || (List.range (n + 1)).all fun m => decide (ifGot n m = some (ifWant n m))) = true := by decide +kernel
theorem if_is (n m : Nat) (hn : 1 ≤ n) (hn2 : n ≤ 10) (hm : m ≤ n) : ifGot n m = some (ifWant n m) := by
  have h := List.all_eq_true.1 if_all n (List.mem_range.2 (by omega))
  have h0 : (n == 0) = false := by simp; omega
  rw [h0, Bool.false_or] at h
  have h1 := List.all_eq_true.1 h m (List.mem_range.2 (by omega))
  simpa using h1

end Go.Proofs.YtepebnblbheegaaGreatDoor
