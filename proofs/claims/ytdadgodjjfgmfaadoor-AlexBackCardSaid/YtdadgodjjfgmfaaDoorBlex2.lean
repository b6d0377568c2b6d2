/- Dialect B's reader: small functions. -/
import Derived.Test.YtdadgodjjfgmfaaDoorBlex
namespace Go.Proofs.YtdadgodjjfgmfaaDoor
open Go Go.RowKit

theorem indexByte_low (l : List UInt8) (c : UInt8) : -1 ≤ Lib.indexByte l c := by
  induction l with
  | nil => simp [Lib.indexByte]
  | cons d l ih =>
    simp only [Lib.indexByte]
    split
    · omega
    · split <;> omega

theorem indexByte_iff (l : List UInt8) (c : UInt8) : (0 : Int) ≤ Lib.indexByte l c ↔ l.contains c = true := by
  induction l with
  | nil => simp [Lib.indexByte]
  | cons d l ih =>
    have h0 := indexByte_low l c
    rw [List.contains_cons, Bool.or_eq_true, ← ih, beq_iff_eq]
    simp only [Lib.indexByte]
    split
    · rename_i h
      simp only [beq_iff_eq] at h
      simp [h]
    · rename_i h
      simp only [beq_iff_eq] at h
      have h2 : ¬ c = d := fun e => h e.symm
      split
      · rename_i h3
        simp only [beq_iff_eq] at h3
        rw [h3]
        simp [h2]
      · rename_i h3
        simp only [beq_iff_eq] at h3
        simp only [h2, false_or]
        omega

theorem indexByte_ge (l : List UInt8) (c : UInt8) : decide ((0 : Int) ≤ Lib.indexByte l c) = l.contains c := by
  rw [Bool.eq_iff_iff, decide_eq_true_eq, indexByte_iff]

theorem xEnds_core (c : Int) (b : Bool) (w : World) (h : Hid (decide ((0 : Int) ≤ Lib.indexByte [32, 9, 10, 59, 38, 124, 40, 41, 123, 125, 60, 62, 94, 61, 33, 36, 96, 39, 35] c.toNat.toUInt8) = b)) :
    Calls Tryd.prog 67 #[.int .u8 c] w fun e w' => e = .returned (.bool b) ∧ w = w' := by
  go_enter Tryd.func67, Tryd.ntmps67
  go_wp2_with (go_at_call 85; refine (Tryd.strings_IndexByte _ _ _).mono ?_; rintro e w' ⟨rfl, rfl⟩)
  go_ret
  exact ⟨ret_bool h.out, rfl⟩

theorem xEnds_any (c : UInt8) (w : World) :
    Calls Tryd.prog 67 #[.int .u8 c.toNat] w fun e w' => e = .returned (.bool (endsB c)) ∧ w = w' := by
  refine xEnds_core _ _ w (Lib.hid ?_)
  rw [indexByte_ge, show ((c.toNat : Int).toNat.toUInt8) = c from by simp]
  have h : ∀ n : Fin 256, List.contains ([32, 9, 10, 59, 38, 124, 40, 41, 123, 125, 60, 62, 94, 61, 33, 36, 96, 39, 35] : List UInt8) (UInt8.ofNat n.val) = endsB (UInt8.ofNat n.val) := by decide +kernel
  have h1 := h ⟨c.toNat, c.toNat_lt⟩
  simpa using h1

theorem xFault_any (p : Int) (tv : TypeId) (xv : Value) (w : World) :
    Calls Tryd.prog 64 #[.int .i64 p, .iface tv xv] w fun e w' => e = .returned (.iface 102 (.pointer (some ⟨w.heap.size, 0, none⟩))) ∧ w.alloc (.cells #[.int .i64 p, .iface tv xv] 104) = w' := by
  go_enter Tryd.func64, Tryd.ntmps64
  go_wp2
  go_ret
  exact ⟨rfl, rfl⟩

theorem xOps_any (w : World) :
    Calls Tryd.prog 60 #[] w fun e w' => e = .returned (.slice (some ⟨w.heap.size, 0, none⟩) 18 18) ∧ Blk w' w.heap.size (opsB.map fun l => .string (bs l)) ∧ Below w.heap.size w w' := by
  go_enter Tryd.func60, Tryd.ntmps60
  go_wp2
  go_ret
  exact ⟨rfl, Blk.new w _ _, (Below.refl _ _).alloc (Nat.le_refl _) _⟩

end Go.Proofs.YtdadgodjjfgmfaaDoor
