/- Faults beside one another. -/
import Derived.Test.YtdadgodjjfgmfaaDoorSee2
namespace Go.Proofs.YtdadgodjjfgmfaaDoor
open Go Go.RowKit

theorem rPlaced_any (c p : Int) (hc : (c == 0) = false) (w : World) :
    Calls Tryd.prog 18 #[.int .i64 c, .int .i64 p] w fun e w' => ∃ b, e = .returned (faultV c (.slice (some ⟨b, 0, none⟩) 1 1)) ∧ w'.cell? ⟨b, 0, none⟩ = some (.int .i64 p) ∧ w.heap.size ≤ b ∧ Below w.heap.size w w' := by
  unfold faultV
  go_enter Tryd.func18, Tryd.ntmps18
  go_wp2
  refine bodyPost_ret (results_blk1 (p := 4) (g := w.heap.size) (cs := [.int .i64 c, .slice (some ⟨w.heap.size + 1, 0, none⟩) 1 1]) rfl _ _ _ rfl ?_ Tryd.underlying33 rfl (by kernel_rfl)) rfl ⟨w.heap.size + 1, rfl, ?_, by omega, ?_⟩
  · apply Blk.as
    repeat (first | (with_reducible assumption) | ((with_reducible apply Blk.newAt); (focus (simp; done))) | (with_reducible apply Blk.set) | ((with_reducible apply Blk.other); (case hp => first | omega | (simp; omega) | simp)) | (with_reducible apply Blk.alloc) | (with_reducible apply Blk.drewN) | (with_reducible apply Blk.drew))
    rfl
  · refine Blk.cell (cs := [.int .i64 p]) ?_ 0 rfl
    repeat (first | (with_reducible assumption) | ((with_reducible apply Blk.newAt); (focus (simp; done))) | (with_reducible apply Blk.set) | ((with_reducible apply Blk.other); (case hp => first | omega | (simp; omega) | simp)) | (with_reducible apply Blk.alloc) | (with_reducible apply Blk.drewN) | (with_reducible apply Blk.drew))
  · apply Kept.toBelow
    repeat (first | (with_reducible assumption) | (with_reducible exact Kept.refl _ _) | ((with_reducible refine Kept.setCell ?_ ?_ _); rotate_left; (focus (first | exact fun _ => rfl | exact fun h => absurd h (by first | omega | (simp; omega) | simp)))) | (with_reducible refine Kept.alloc ?_ _) | (with_reducible refine Kept.drewN ?_ _) | (with_reducible refine Kept.drew ?_))

theorem rSameInts_one (a b : Nat) (p q : Int) (w : World) (ha : w.cell? ⟨a, 0, none⟩ = some (.int .i64 p)) (hb : w.cell? ⟨b, 0, none⟩ = some (.int .i64 q)) :
    Calls Tryd.prog 68 #[.slice (some ⟨a, 0, none⟩) 1 1, .slice (some ⟨b, 0, none⟩) 1 1] w fun e w' => e = .returned (.bool (p == q)) ∧ Below w.heap.size w w' := by
  go_enter Tryd.func68, Tryd.ntmps68
  go_wp2_with fail
  go_loopg [5] (2) (fun m x wr => ∃ k : Nat, m = 2 - k ∧ k ≤ 1 ∧ x = .int .i64 k ∧ Hid (k = 1 → p = q) ∧ wr.cell? ⟨a, 0, none⟩ = some (.int .i64 p) ∧ wr.cell? ⟨b, 0, none⟩ = some (.int .i64 q) ∧ Below w.heap.size w wr)
  case atStart => exact ⟨0, rfl, by omega, rfl, Lib.hid (fun h => by omega), ha, hb, Below.refl _ _⟩
  case round =>
    clear ha hb
    obtain ⟨k, rfl, hk, rfl, hpq, ha, hb, hB⟩ := hrel
    by_cases h0 : k = 0
    · subst h0
      by_cases he : p = q
      · have he' : (p == q) = true := by rw [beq_iff_eq]; exact he
        have HE := Lib.hid he
        clear he hpq
        go_wp2_with fail
        go_quiet (fail)
        go_wp2_with fail
        go_roundg (2 - 1)
        case measure => omega
        case rel => exact ⟨1, rfl, by omega, rfl, Lib.hid (fun _ => HE.out), ha, hb, bDrewN hB _⟩
      · have he' : (p == q) = false := by rw [beq_eq_false_iff_ne]; exact he
        clear he hpq
        go_wp2_with fail
        go_quiet (fail)
        go_wp2_with fail
        go_ret
        exact ⟨by first | rfl | (rw [he']; rfl), bDrewN hB _⟩
    · obtain rfl : k = 1 := by omega
      have he' : (p == q) = true := by rw [beq_iff_eq]; exact hpq.out rfl
      go_wp2_with fail
      go_ret
      exact ⟨by first | rfl | (rw [he']; rfl), hB⟩

set_option maxRecDepth 100000 in
theorem rSameFault_one (c d : Int) (a b : Nat) (p q : Int) (w : World) (ha : w.cell? ⟨a, 0, none⟩ = some (.int .i64 p)) (hb : w.cell? ⟨b, 0, none⟩ = some (.int .i64 q)) :
    Calls Tryd.prog 47 #[faultV c (.slice (some ⟨a, 0, none⟩) 1 1), faultV d (.slice (some ⟨b, 0, none⟩) 1 1)] w fun e w' => e = .returned (.bool ((c == d) && (p == q))) ∧ Below w.heap.size w w' := by
  unfold faultV
  go_enter Tryd.func47, Tryd.ntmps47
  go_wp2_with fail
  have hw0 := ((Below.refl w.heap.size w).alloc (Nat.le_refl _) (Obj.cells #[Value.int IntKind.i64 c, Value.slice (some ⟨a, 0, none⟩) 1 1] 33))
  have hw1 := bNext hw0 ((Below.refl _ _).alloc (Nat.le_refl _) (Obj.cells #[Value.int IntKind.i64 d, Value.slice (some ⟨b, 0, none⟩) 1 1] 33))
  refine (rSameInts_one a b p q _ (bSome hw1 ha) (bSome hw1 hb)).mono ?_
  rintro e w2 ⟨rfl, hb2⟩
  have B0 := ((Blk.newAt (w := w) [Value.int IntKind.i64 c, Value.slice (some ⟨a, 0, none⟩) 1 1] 33 rfl).alloc (Obj.cells #[Value.int IntKind.i64 d, Value.slice (some ⟨b, 0, none⟩) 1 1] 33)).below hb2
  have B1 := (Blk.newAt (w := w.alloc (Obj.cells #[Value.int IntKind.i64 c, Value.slice (some ⟨a, 0, none⟩) 1 1] 33)) (b := w.heap.size + 1) [Value.int IntKind.i64 d, Value.slice (some ⟨b, 0, none⟩) 1 1] 33 (by simp)).below hb2
  have c0 := B0.cell 0 rfl
  have c1 := B1.cell 0 rfl
  have hB := bNext hw1 hb2
  clear hw0 hw1 hb2 B0 B1 ha hb
  cases hcd : (c == d) with
  | false =>
    go_wp2_with fail
    go_ret
    exact ⟨by cases hpq : (p == q) <;> simp [hcd, hpq], hB⟩
  | true =>
    go_wp2_with fail
    go_ret
    exact ⟨by cases hpq : (p == q) <;> simp [hcd, hpq], hB⟩

set_option maxRecDepth 100000 in
/-- patoissee.Same, of an error with a place and of a fault with a place. -/
theorem seeSame_at (w : World) (sent : Nat → Addr) (hS : Sents w sent) (c : Nat) (h1 : 101 ≤ c) (h2 : c ≤ 117) (p : Int) (b : Nat) (hE : ErrAt w b sent c p) (d q : Int) (g : Nat) (hg : w.cell? ⟨g, 0, none⟩ = some (.int .i64 q)) :
    Calls Tryd.prog 17 #[.iface 102 (.pointer (some ⟨b, 0, none⟩)), faultV d (.slice (some ⟨g, 0, none⟩) 1 1)] w fun e w' => e = .returned (.bool (((c : Int) == d) && (p == q))) ∧ Below w.heap.size w w' := by
  unfold faultV
  go_enter Tryd.func17, Tryd.ntmps17
  have hw0 := ((Below.refl w.heap.size w).alloc (Nat.le_refl _) (Obj.cells #[Value.int IntKind.i64 d, Value.slice (some ⟨g, 0, none⟩) 1 1] 33))
  go_wp2_with fail
  refine (seeFault_at _ sent (hS.below hw0) c h1 h2 p b (Blk.below hE hw0)).mono ?_
  unfold faultV
  rintro e w2 ⟨k, rfl, hk, hk2, hb2⟩
  have B0 := (Blk.newAt (w := w) [Value.int IntKind.i64 d, Value.slice (some ⟨g, 0, none⟩) 1 1] 33 rfl).below hb2
  have hg2 := bSome hb2 (bSome hw0 hg)
  have l1 := B0.lt
  have n1 : ¬ w.heap.size = w2.heap.size := by omega
  have hB := bNext hw0 hb2
  clear hw0 hb2 hE
  have c0 := B0.cell 0 rfl
  have c1 := B0.cell 1 rfl
  go_wp2_with fail
  have hw1 := ((Below.refl w2.heap.size w2).alloc (Nat.le_refl _) (Obj.cells #[Value.int IntKind.i64 c, Value.slice (some ⟨k, 0, none⟩) 1 1] 33))
  refine (rSameFault_one c d k g p q _ (bSome hw1 hk) (bSome hw1 hg2)).mono ?_
  rintro e w3 ⟨rfl, hb3⟩
  have hB3 := bNext (bNext hB hw1) hb3
  clear hB hw1 hb3
  go_wp2_with fail
  go_ret
  exact ⟨rfl, hB3⟩

end Go.Proofs.YtdadgodjjfgmfaaDoor
