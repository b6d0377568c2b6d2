/- What the laws of dialect A's parser have in common. -/
import Derived.Test.YtepebnblbheegaaGreatDoorQTopG
import Derived.Test.YtepebnblbheegaaGreatDoorZF
namespace Go.Proofs.YtepebnblbheegaaGreatDoor
open Go Go.RowKit
theorem parse_okA (src : List UInt8) (l : Prog) (h : parseA src = .ok l) (hl : src.length ≤ 8192) (w : World) (sent : Nat → Addr) (hS : Sents w sent) (hmx : ∃ m, w.cell? ⟨9, 0, none⟩ = some (.int .i64 m)) (het : w.cell? ⟨18, 0, none⟩ = some (.iface 162 (.agg #[.pointer (some ⟨19, 25, none⟩)]))) :
  Calls Tryz.prog 29 #[.string (bs src)] w fun e w' => ∃ g cap b, e = .returned (.tuple #[.slice (some ⟨g, 0, none⟩) l.length cap, .nilIface]) ∧ NSl w' b (.slice (some ⟨g, 0, none⟩) l.length cap) l ∧ Below w.heap.size w w' := by
 have HP := qParse_short (bs src) w (by rw [bs_size]; exact hl) sent hS hmx het
 rw [bs_list, h] at HP
 refine HP.mono ?_
 rintro e w' ⟨hb, v, b, rfl, hN⟩
 obtain ⟨g, cap, rfl, -⟩ := id hN
 exact ⟨g, cap, b, rfl, hN, hb⟩
theorem KOwn.new1 {w : World} {B b : Nat} {u : Value} {l : Prog} (hB : B ≤ w.heap.size) (h : NSl w b u l) : KOwn (w.alloc (.cells #[u] 23)) B b (.slice (some ⟨w.heap.size, 0, none⟩) 1 1) [l] := by
 refine ⟨[u], rfl, ⟨rfl, .inr ⟨w.heap.size, 1, #[u], rfl, hB, World.alloc_heap_new w _, Nat.le_refl _, by unfold maxLen; omega, rfl, rfl⟩⟩, fun i v m hi hm => ?_⟩
 cases i with
 | zero =>
  simp only [List.getElem?_cons_zero, Option.some.injEq] at hi hm
  subst hi hm
  exact h.below ((Below.refl _ w).alloc (Nat.le_refl _) _)
 | succ i => simp at hi
end Go.Proofs.YtepebnblbheegaaGreatDoor

namespace Go.Proofs.YtepebnblbheegaaGreatDoor
open Go Go.RowKit
def modeOf (z : Int) : Nat := (Int.tmod (Int.tmod z 4 + 4) 4).toNat
theorem mode_is (z : Int) : ∃ u : Int, Int.tmod z 4 = u ∧ -3 ≤ u ∧ u ≤ 3 ∧ Int.tmod (u + 4) 4 = modeOf z ∧ modeOf z < 4 := by
 have h1 := Int.tmod_lt_of_pos z (show (0 : Int) < 4 by omega)
 have h2 := Int.lt_tmod_of_pos z (show (0 : Int) < 4 by omega)
 have h3 : Int.tmod (Int.tmod z 4 + 4) 4 = (Int.tmod z 4 + 4) % 4 := Int.tmod_eq_emod_of_nonneg (by omega)
 exact ⟨_, rfl, by omega, by omega, by unfold modeOf; rw [h3]; omega, by unfold modeOf; rw [h3]; omega⟩
def modesOf (Z : Nat → Int) (n : Nat) : List Nat := (List.range n).map fun i => modeOf (Z i)
theorem modes_len (Z : Nat → Int) (n : Nat) : (modesOf Z n).length = n := by simp [modesOf]
theorem modes_get (Z : Nat → Int) (n k : Nat) (h : k < n) : (modesOf Z n)[k]? = some (modeOf (Z k)) := by
 unfold modesOf
 rw [List.getElem?_map, List.getElem?_range h]
 rfl
end Go.Proofs.YtepebnblbheegaaGreatDoor

namespace Go.Proofs.YtepebnblbheegaaGreatDoor
open Go Go.RowKit
def kindOf (z : Int) : Nat := (Int.tmod (Int.tmod z 3 + 3) 3).toNat
theorem kind_is (z : Int) : ∃ u : Int, Int.tmod z 3 = u ∧ -2 ≤ u ∧ u ≤ 2 ∧ Int.tmod (u + 3) 3 = kindOf z ∧ kindOf z < 3 := by
 have h1 := Int.tmod_lt_of_pos z (show (0 : Int) < 3 by omega)
 have h2 := Int.lt_tmod_of_pos z (show (0 : Int) < 3 by omega)
 have h3 : Int.tmod (Int.tmod z 3 + 3) 3 = (Int.tmod z 3 + 3) % 3 := Int.tmod_eq_emod_of_nonneg (by omega)
 exact ⟨_, rfl, by omega, by omega, by unfold kindOf; rw [h3]; omega, by unfold kindOf; rw [h3]; omega⟩
def kindsOf (Z : Nat → Int) (n : Nat) : List Nat := (List.range n).map fun i => kindOf (Z i)
theorem kinds_len (Z : Nat → Int) (n : Nat) : (kindsOf Z n).length = n := by simp [kindsOf]
theorem kinds_get (Z : Nat → Int) (n k : Nat) (h : k < n) : (kindsOf Z n)[k]? = some (kindOf (Z k)) := by
 unfold kindsOf
 rw [List.getElem?_map, List.getElem?_range h]
 rfl
theorem kinds_lt (Z : Nat → Int) (n : Nat) : ∀ m ∈ kindsOf Z n, m < 3 := fun m hm => by
 obtain ⟨i, _, rfl⟩ := List.mem_map.1 hm
 obtain ⟨_, _, _, _, _, h⟩ := kind_is (Z i)
 exact h
def BoolsOf (w : World) (ao : Option Addr) (n : Nat) (Z : Nat → Bool) : Prop := ∀ i, i < n → ∃ a, ao = some a ∧ w.cell? (a.add i) = some (.bool (Z i))
theorem BoolsOf.below {w w' : World} {ao : Option Addr} {n : Nat} {Z : Nat → Bool} (h : BoolsOf w ao n Z) (hb : Below w.heap.size w w') : BoolsOf w' ao n Z := fun i hi => by
 obtain ⟨a, e, h1⟩ := h i hi
 exact ⟨a, e, bSome hb h1⟩
theorem BoolsAt.of {w : World} {ao : Option Addr} {n : Nat} (h : BoolsAt w ao n) : ∃ Z, BoolsOf w ao n Z := pick_lt false h
def notsOf (Z : Nat → Bool) (n i : Nat) : Bool := decide (i < n) && Z i
theorem notsOf_in (Z : Nat → Bool) (n i : Nat) (h : i < n) : notsOf Z n i = Z i := by simp [notsOf, h]
theorem notsOf_out (Z : Nat → Bool) (n i : Nat) (h : ¬ i < n) : notsOf Z n i = false := by simp [notsOf, h]
end Go.Proofs.YtepebnblbheegaaGreatDoor
