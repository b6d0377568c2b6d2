/- What several laws of dialect B use. -/
import Derived.Test.YtepebnblbheegaaGreatDoorBIfs
namespace Go.Proofs.YtepebnblbheegaaGreatDoor
open Go Go.RowKit

theorem parse_ok9 (src : List UInt8) (l : Prog) (h : parseB src = .ok l) (hl : src.length ≤ 8192) (w : World) (sent : Nat → Addr) (hS : Sents w sent) (hmx : ∃ m, w.cell? ⟨9, 0, none⟩ = some (.int .i64 m)) :
    Calls Tryz.prog 16 #[.string (bs src)] w fun e w' => ∃ g cap b, e = .returned (.tuple #[.slice (some ⟨g, 0, none⟩) l.length cap, .nilIface]) ∧ NSl w' b (.slice (some ⟨g, 0, none⟩) l.length cap) l ∧ Below w.heap.size w w' := by
  have HP := pParse_short (bs src) w (by rw [bs_size]; exact hl) sent hS hmx
  rw [bs_list, h] at HP
  refine HP.mono ?_
  rintro e w' ⟨hb, v, b, rfl, hN⟩
  obtain ⟨g, cap, rfl, -⟩ := id hN
  exact ⟨g, cap, b, rfl, hN, hb⟩
theorem parse_bad9 (src : List UInt8) (c : Nat) (p : Option Nat) (h : parseB src = .error (c, p)) (hl : src.length ≤ 8192) (w : World) (sent : Nat → Addr) (hS : Sents w sent) (hmx : ∃ m, w.cell? ⟨9, 0, none⟩ = some (.int .i64 m)) :
    Calls Tryz.prog 16 #[.string (bs src)] w fun e w' => ∃ t a, e = .returned (.tuple #[.slice none 0 0, .iface t (.pointer (some a))]) ∧ Below w.heap.size w w' := by
  have HP := pParse_short (bs src) w (by rw [bs_size]; exact hl) sent hS hmx
  rw [bs_list, h] at HP
  refine HP.mono ?_
  rintro e w' ⟨hb, he⟩
  cases p with
  | none => exact ⟨_, _, he, hb⟩
  | some p =>
    obtain ⟨eb, he, -⟩ := he
    exact ⟨_, _, he, hb⟩

theorem pick_lt {α β : Type} {n : Nat} (d : β) {P : Nat → α → β → Prop} (h : ∀ i, i < n → ∃ a z, P i a z) : ∃ Z : Nat → β, ∀ i, i < n → ∃ a, P i a (Z i) := by
  have h2 : ∀ i, ∃ z, i < n → ∃ a, P i a z := fun i => by
    by_cases hi : i < n
    · obtain ⟨a, z, hz⟩ := h i hi
      exact ⟨z, fun _ => ⟨a, hz⟩⟩
    · exact ⟨d, fun hh => absurd hh hi⟩
  exact ⟨fun i => Classical.choose (h2 i), fun i hi => Classical.choose_spec (h2 i) hi⟩
/-- What the integers of a slice are. -/
def IntsOf (w : World) (ao : Option Addr) (n : Nat) (Z : Nat → Int) : Prop := ∀ i, i < n → ∃ a, ao = some a ∧ w.cell? (a.add i) = some (.int .i64 (Z i)) ∧ -9223372036854775808 ≤ Z i ∧ Z i < 9223372036854775808
def IntsAt (w : World) (ao : Option Addr) (n : Nat) : Prop := ∀ i, i < n → ∃ a z, ao = some a ∧ w.cell? (a.add i) = some (.int .i64 z) ∧ -9223372036854775808 ≤ z ∧ z < 9223372036854775808
theorem IntsOf.below {w w' : World} {ao : Option Addr} {n : Nat} {Z : Nat → Int} (h : IntsOf w ao n Z) (hb : Below w.heap.size w w') : IntsOf w' ao n Z := fun i hi => by
  obtain ⟨a, h1, h2, h3⟩ := h i hi
  exact ⟨a, h1, bSome hb h2, h3⟩
theorem IntsAt.of {w : World} {ao : Option Addr} {n : Nat} (h : IntsAt w ao n) : ∃ Z, IntsOf w ao n Z := pick_lt (0 : Int) h
/-- What the strings of a slice are. -/
def StrsOf (w : World) (ao : Option Addr) (n : Nat) (Z : Nat → ByteArray) : Prop := ∀ i, i < n → ∃ a, ao = some a ∧ w.cell? (a.add i) = some (.string (Z i)) ∧ (Z i).size ≤ maxLen
def StrsAt (w : World) (ao : Option Addr) (n : Nat) : Prop := ∀ i, i < n → ∃ a z, ao = some a ∧ w.cell? (a.add i) = some (.string z) ∧ z.size ≤ maxLen
theorem StrsOf.below {w w' : World} {ao : Option Addr} {n : Nat} {Z : Nat → ByteArray} (h : StrsOf w ao n Z) (hb : Below w.heap.size w w') : StrsOf w' ao n Z := fun i hi => by
  obtain ⟨a, h1, h2, h3⟩ := h i hi
  exact ⟨a, h1, bSome hb h2, h3⟩
theorem StrsAt.of {w : World} {ao : Option Addr} {n : Nat} (h : StrsAt w ao n) : ∃ Z, StrsOf w ao n Z := pick_lt ByteArray.empty h

/-- A node of two. -/
theorem twoP_any (kind n : Int) (p q : Prog) (b : Nat) (x y : Value) (w : World) (hb : b < w.heap.size) (h1 : NSl w b x p) (h2 : NSl w b y q) (hl : p.length + q.length ≤ 100000) :
    Calls Tryz.prog 25 #[.int .i64 kind, .int .i64 n, .string (bs []), .slice (some ⟨w.heap.size, 0, none⟩) 2 2] (w.alloc (.cells #[x, y] 23)) fun e w' => ∃ v', e = .returned v' ∧ NSl w' b v' (newP kind n [] [p, q]) ∧ Below w.heap.size w w' := by
  have hb0 := (Below.refl w.heap.size w).alloc (Nat.le_refl _) (.cells #[x, y] 23)
  refine (cNewS_any kind n [] [p, q] b _ _ (by have := hb0.size; omega) (KSl.new2 hb (.inl h1) (.inl h2)) (by simp; omega) (by simp)).mono ?_
  rintro e w' ⟨v', rfl, h4, h5⟩
  exact ⟨v', rfl, h4, bNext hb0 h5⟩
/-- A node of one. -/
theorem oneP_any (kind n : Int) (s : List UInt8) (p : Prog) (b : Nat) (x : Value) (w : World) (hb : b < w.heap.size) (h1 : NSl w b x p) (hl : p.length ≤ 100000) :
    Calls Tryz.prog 25 #[.int .i64 kind, .int .i64 n, .string (bs s), .slice (some ⟨w.heap.size, 0, none⟩) 1 1] (w.alloc (.cells #[x] 23)) fun e w' => ∃ v', e = .returned v' ∧ NSl w' b v' (newP kind n s [p]) ∧ Below w.heap.size w w' := by
  have hb0 := (Below.refl w.heap.size w).alloc (Nat.le_refl _) (.cells #[x] 23)
  refine (cNewS_any kind n s [p] b _ _ (by have := hb0.size; omega) (KSl.one9 hb h1) (by simp; omega) (by simp)).mono ?_
  rintro e w' ⟨v', rfl, h4, h5⟩
  exact ⟨v', rfl, h4, bNext hb0 h5⟩

end Go.Proofs.YtepebnblbheegaaGreatDoor
