/- Dialect B's tokens, as plain functions on lists of bytes. No program stands in it. -/
import Derived.Test.YtdadgodjjfgmfaaDoorPure
namespace Go.Proofs.YtdadgodjjfgmfaaDoor
open Go Go.RowKit

/-- Blanks and comments at the front: how many bytes they are ('true': within a comment). -/
def skipN : Bool → List UInt8 → Nat
  | _, [] => 0
  | true, c :: l => if c.toNat = 10 then 0 else skipN true l + 1
  | false, c :: l => if c.toNat = 32 ∨ c.toNat = 9 then skipN false l + 1 else if c.toNat = 35 then skipN true l + 1 else 0

structure BTok where
  kind : Nat
  place : Nat
  num : Nat
  text : List UInt8
  glue : Bool

def BTok.cells (t : BTok) : List Value := [.int .i64 t.kind, .int .i64 t.place, .int .i64 t.num, .string (bs t.text), .bool t.glue]

def opsB : List (List UInt8) := [[], [10], [59], [38, 38], [124, 124], [124], [40], [41], [123], [125], [96, 123], [60], [62], [62, 62], [60, 60, 60], [94], [61], [33]]

/-- The longest operator that stands at the front (the first of them), and its number. -/
def bestOp (l : List UInt8) : List (List UInt8) → Nat → List UInt8 → Nat → List UInt8 × Nat
  | [], _, b, k => (b, k)
  | o :: os, i, b, k => if b.length < o.length ∧ Lib.hasPrefix l o = true then bestOp l os (i + 1) o i else bestOp l os (i + 1) b k

/-- Does a word end ahead of a byte? -/
def endsB (c : UInt8) : Bool := [32, 9, 10, 59, 38, 124, 40, 41, 123, 125, 60, 62, 94, 61, 33, 36, 96, 39, 35].contains c.toNat

/-- What is between two quotes, behind the first: the text, and how many bytes it is with the last quote. -/
def deadB : List UInt8 → Option (List UInt8 × Nat)
  | [] => none
  | [c] => if c.toNat = 39 then some ([], 1) else none
  | c :: d :: l =>
    if c.toNat = 39 then (if d.toNat = 39 then (deadB l).map (fun x => (39 :: x.1, x.2 + 2)) else some ([], 1))
    else (deadB (d :: l)).map (fun x => (c :: x.1, x.2 + 1))

/-- How many bytes stand between the dollar and the name, and what kind of token that makes. -/
def dPre (c : Nat) : Nat := if c = 35 ∨ c = 34 then 1 else 0
def dKind (c : Nat) : Nat := if c = 35 then 21 else if c = 34 then 22 else 20
/-- A star, or the longest run. -/
def starName (l : List UInt8) : List UInt8 := if Lib.hasPrefix l [42] then [42] else runName l
/-- What begins with a dollar, behind it: its kind, number, text, and how many bytes it is. -/
def dollarB (l : List UInt8) : Option (Nat × Nat × List UInt8 × Nat) :=
  if 49 ≤ (l.headD 0).toNat ∧ (l.headD 0).toNat ≤ 57 then some (23, (l.headD 0).toNat - 48, [], 1)
  else if starName (l.drop (dPre (l.headD 0).toNat)) = [42] ∨ nameB (starName (l.drop (dPre (l.headD 0).toNat))) = true then
    some (dKind (l.headD 0).toNat, 0, starName (l.drop (dPre (l.headD 0).toNat)), dPre (l.headD 0).toNat + (starName (l.drop (dPre (l.headD 0).toNat))).length)
  else none

theorem runName_le (l : List UInt8) : (runName l).length ≤ l.length := by
  cases l with
  | nil => simp [runName]
  | cons c l =>
    rw [show runName (c :: l) = if isBegin c then (c :: l).takeWhile isGo else [] from rfl]
    split
    · exact (List.takeWhile_sublist _).length_le
    · simp
theorem starName_le (l : List UInt8) : (starName l).length ≤ l.length := by
  unfold starName
  split
  · rename_i h
    cases l with
    | nil => exact absurd h (by decide)
    | cons c l => simp
  · exact runName_le l

/-- A token at the front (behind blanks), and how many bytes it is; or an error's number, and its place. -/
def tokenB (l : List UInt8) (p : Nat) : Except (Nat × Nat) (BTok × Nat) :=
  match l with
  | [] => .ok (⟨0, p, 0, [], false⟩, 0)
  | c :: m =>
    let b := bestOp l opsB 0 [] 0
    if b.1 ≠ [] then .ok (⟨b.2, p, 0, [], false⟩, b.1.length)
    else if c.toNat = 38 ∨ c.toNat = 96 then .error (107, p)
    else if c.toNat = 39 then match deadB m with
      | some (x, n) => .ok (⟨19, p, 0, x, false⟩, n + 1)
      | none => .error (103, p)
    else if c.toNat = 36 then match dollarB m with
      | some (k, n, x, z) => .ok (⟨k, p, n, x, false⟩, z + 1)
      | none => .error (106, p)
    else .ok (⟨18, p, 0, l.takeWhile (fun c => !endsB c), false⟩, (l.takeWhile (fun c => !endsB c)).length)

/-- All tokens from a place on. -/
def lexB : Nat → Bool → List UInt8 → Nat → Except (Nat × Nat) (List BTok)
  | 0, _, _, _ => .ok []
  | f + 1, first, l, p =>
    match tokenB (l.drop (skipN false l)) (p + skipN false l) with
    | .error e => .error e
    | .ok (t, n) =>
      if t.kind = 0 then .ok [{ t with glue := !first && skipN false l == 0 }]
      else match lexB f false (l.drop (skipN false l + n)) (p + skipN false l + n) with
        | .error e => .error e
        | .ok ts => .ok ({ t with glue := !first && skipN false l == 0 } :: ts)

theorem skipN_le (b : Bool) (l : List UInt8) : skipN b l ≤ l.length := by
  induction l generalizing b with
  | nil => cases b <;> simp [skipN]
  | cons c l ih =>
    have h1 := ih true
    have h2 := ih false
    cases b <;> simp only [skipN, List.length_cons] <;> (repeat' split) <;> omega

end Go.Proofs.YtdadgodjjfgmfaaDoor
