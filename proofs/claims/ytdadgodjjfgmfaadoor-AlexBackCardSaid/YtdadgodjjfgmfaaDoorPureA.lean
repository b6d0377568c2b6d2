/- Dialect A's tokens, as plain functions on lists of bytes. No program stands in it. -/
import Derived.Test.YtdadgodjjfgmfaaDoorPureB3
namespace Go.Proofs.YtdadgodjjfgmfaaDoor
open Go Go.RowKit

structure APart where
  kind : Nat
  place : Nat
  num : Nat
  quoted : Bool
  text : List UInt8
def APart.cells (t : APart) : List Value := [.int .i64 t.kind, .int .i64 t.place, .int .i64 t.num, .bool t.quoted, .string (bs t.text)]

structure ATok where
  kind : Nat
  place : Nat
  parts : List APart

def opsA : List (List UInt8) := [[], [10], [59], [59, 59], [38, 38], [124, 124], [124], [40], [41], [60], [62], [62, 62], [60, 60, 60]]
/-- Does a word end ahead of a byte? -/
def endsA (c : UInt8) : Bool := [32, 9, 10, 59, 38, 124, 40, 41, 60, 62].contains c.toNat

/-- Where a byte stands first. -/
def idxA (b : Nat) : List UInt8 → Option Nat
  | [] => none
  | c :: l => if c.toNat = b then some 0 else (idxA b l).map (· + 1)

/-- Bytes of a kind are added: to the last part where it takes them. -/
def bytesA (P : List APart) (j : Bool) (kind i : Nat) (s : List UInt8) : List APart :=
  match P.getLast? with
  | some q => if j = true ∧ q.kind = kind then P.dropLast ++ [{ q with text := q.text ++ s }] else P ++ [⟨kind, i, 0, false, s⟩]
  | none => P ++ [⟨kind, i, 0, false, s⟩]

/-- Where a bracket ends ('false'), or a double quote ('true'): the place. -/
def scanA (L : List UInt8) : Nat → Bool → Nat → Nat → Option Nat
  | 0, _, _, _ => none
  | f + 1, false, o, i =>
    if L.length ≤ i then none
    else if (L.getD i 0).toNat = 92 then scanA L f false o (i + 2)
    else if (L.getD i 0).toNat = 39 then match idxA 39 (L.drop (i + 1)) with
      | none => none
      | some n => scanA L f false o (i + 1 + n + 1)
    else if (L.getD i 0).toNat = 34 then match scanA L f true 0 (i + 1) with
      | none => none
      | some t => scanA L f false o (t + 1)
    else if (L.getD i 0).toNat = 40 then scanA L f false (o + 1) (i + 1)
    else if (L.getD i 0).toNat = 41 then (if o = 0 then some i else scanA L f false (o - 1) (i + 1))
    else scanA L f false o (i + 1)
  | f + 1, true, _, i =>
    if L.length ≤ i then none
    else if (L.getD i 0).toNat = 34 then some i
    else if (L.getD i 0).toNat = 92 then scanA L f true 0 (i + 2)
    else if Lib.hasPrefix (L.drop i) [36, 40] then match scanA L f false 0 (i + 2) with
      | none => none
      | some t => scanA L f true 0 (t + 1)
    else scanA L f true 0 (i + 1)

abbrev AState := Nat × List APart × Bool

/-- What begins with a dollar at a place. -/
def dollarA (L : List UInt8) (q : Bool) (i : Nat) (P : List APart) (j : Bool) : Except (Nat × Nat) AState :=
  let name := runName (L.drop (i + 1))
  let c := (L.getD (i + 1) 0).toNat
  if name ≠ [] then (if nameB name = true then .ok (i + 1 + name.length, P ++ [⟨3, i, 0, q, name⟩], false) else .error (106, i))
  else if c = 123 then match idxA 125 (L.drop (i + 2)) with
    | none => .error (106, i)
    | some n => if nameB (subs L (i + 2) (i + 2 + n)) = true then .ok (i + 3 + n, P ++ [⟨3, i, 0, q, subs L (i + 2) (i + 2 + n)⟩], false) else .error (106, i)
  else if c = 42 then .ok (i + 2, P ++ [⟨3, i, 0, q, [42]⟩], false)
  else if 49 ≤ c ∧ c ≤ 57 then .ok (i + 2, P ++ [⟨5, i, c - 48, q, []⟩], false)
  else if c = 35 then .ok (i + 2, P ++ [⟨6, i, 0, q, []⟩], false)
  else if c = 40 then match scanA L (L.length + 1) false 0 (i + 2) with
    | none => .error (104, i)
    | some t => .ok (t + 1, P ++ [⟨4, i, 0, q, subs L (i + 2) t⟩], false)
  else .ok (i + 1, bytesA P j (if q then 2 else 1) i [36], true)

/-- What is between double quotes, behind the first, which stands at 'a'. -/
def doubleA (L : List UInt8) (a : Nat) : Nat → Nat → List APart → Bool → Except (Nat × Nat) AState
  | 0, _, _, _ => .error (103, a)
  | f + 1, i, P, j =>
    if L.length ≤ i then .error (103, a)
    else if (L.getD i 0).toNat = 34 then .ok (i + 1, P, false)
    else if (L.getD i 0).toNat = 92 ∧ i + 1 < L.length then
      doubleA L a f (i + 2) (bytesA P j 2 i (if [36, 34, 92].contains (L.getD (i + 1) 0).toNat then [L.getD (i + 1) 0] else [L.getD i 0, L.getD (i + 1) 0])) true
    else if (L.getD i 0).toNat = 36 then match dollarA L true i P j with
      | .error e => .error e
      | .ok (i', P', j') => doubleA L a f i' P' j'
    else doubleA L a f (i + 1) (bytesA P j 2 i [L.getD i 0]) true

/-- A word's parts. -/
def wordA (L : List UInt8) : Nat → Nat → List APart → Bool → Except (Nat × Nat) (Nat × List APart)
  | 0, i, P, _ => .ok (i, P)
  | f + 1, i, P, j =>
    if L.length ≤ i then .ok (i, P)
    else if endsA (L.getD i 0) = true then .ok (i, P)
    else if (L.getD i 0).toNat = 92 then wordA L f (min (i + 2) L.length) (P ++ [⟨2, i, 0, false, if i + 1 < L.length then [L.getD (i + 1) 0] else [92]⟩]) false
    else if (L.getD i 0).toNat = 39 then match idxA 39 (L.drop (i + 1)) with
      | none => .error (103, i)
      | some n => wordA L f (i + n + 2) (P ++ [⟨2, i, 0, false, subs L (i + 1) (i + 1 + n)⟩]) false
    else if (L.getD i 0).toNat = 34 then match doubleA L i (L.length + 1) (i + 1) (P ++ [⟨2, i, 0, false, []⟩]) true with
      | .error e => .error e
      | .ok (i', P', j') => wordA L f i' P' j'
    else if (L.getD i 0).toNat = 36 then match dollarA L false i P j with
      | .error e => .error e
      | .ok (i', P', j') => wordA L f i' P' j'
    else wordA L f (i + 1) (bytesA P j 1 i [L.getD i 0]) true

/-- A token from a place that is no blank. -/
def tokenA (L : List UInt8) (i : Nat) : Except (Nat × Nat) (ATok × Nat) :=
  if L.length ≤ i then .ok (⟨0, i, []⟩, i)
  else
    let b := bestOp (L.drop i) opsA 0 [] 0
    if b.1 ≠ [] then .ok (⟨b.2, i, []⟩, i + b.1.length)
    else if (L.getD i 0).toNat = 38 then .error (107, i)
    else match wordA L (L.length + 1) i [] false with
      | .error e => .error e
      | .ok (k, P) => .ok (⟨13, i, P⟩, k)

/-- All tokens from a place on. -/
def lexA (L : List UInt8) : Nat → Nat → Except (Nat × Nat) (List ATok)
  | 0, _ => .ok []
  | f + 1, k =>
    match tokenA L (k + skipN false (L.drop k)) with
    | .error e => .error e
    | .ok (t, n) =>
      if t.kind = 0 then .ok [t]
      else match lexA L f n with
        | .error e => .error e
        | .ok ts => .ok (t :: ts)

end Go.Proofs.YtdadgodjjfgmfaaDoor
