/- What the statements' helper sees of an error with a place around it. -/
import Derived.Test.YtdadgodjjfgmfaaDoorSee
namespace Go.Proofs.YtdadgodjjfgmfaaDoor
open Go Go.RowKit

theorem bDrw {B : Nat} {a w : World} (h : Below B a w) : Below B a w.drew := ⟨h.os, h.tape, h.output, h.size, h.block⟩

theorem rAround_any (c p : Int) (hc : (c == 0) = false) (w : World) :
    Calls Tryd.prog 70 #[faultV c (.slice none 0 0), .int .i64 p] w fun e w' => ∃ b, e = .returned (faultV c (.slice (some ⟨b, 0, none⟩) 1 1)) ∧ w'.cell? ⟨b, 0, none⟩ = some (.int .i64 p) ∧ w.heap.size ≤ b ∧ Below w.heap.size w w' := by
  unfold faultV
  go_enter Tryd.func70, Tryd.ntmps70
  go_wp2
  go_region
  go_wp2_with fail
  (try simp only [Exit.inBlock, Exit.then])
  refine bodyPost_ret (results_blk1 (p := 4) (g := w.heap.size + 1) (cs := [.int .i64 c, .slice (some ⟨w.heap.size + 1 + 1, 0, none⟩) 1 1]) rfl _ _ _ rfl ?_ Tryd.underlying33 rfl (by kernel_rfl)) rfl ⟨w.heap.size + 1 + 1, rfl, ?_, by omega, ?_⟩
  · apply Blk.as
    repeat (first | (with_reducible assumption) | ((with_reducible apply Blk.newAt); (focus (simp; done))) | (with_reducible apply Blk.set) | ((with_reducible apply Blk.other); (case hp => first | omega | (simp; omega) | simp)) | (with_reducible apply Blk.alloc) | (with_reducible apply Blk.drewN) | (with_reducible apply Blk.drew))
    rfl
  · refine Blk.cell (cs := [.int .i64 p]) ?_ 0 rfl
    repeat (first | (with_reducible assumption) | ((with_reducible apply Blk.newAt); (focus (simp; done))) | (with_reducible apply Blk.set) | ((with_reducible apply Blk.other); (case hp => first | omega | (simp; omega) | simp)) | (with_reducible apply Blk.alloc) | (with_reducible apply Blk.drewN) | (with_reducible apply Blk.drew))
  · apply Kept.toBelow
    repeat (first | (with_reducible assumption) | (with_reducible exact Kept.refl _ _) | ((with_reducible refine Kept.setCell ?_ ?_ _); rotate_left; (focus (first | exact fun _ => rfl | exact fun h => absurd h (by first | omega | (simp; omega) | simp)))) | (with_reducible refine Kept.alloc ?_ _) | (with_reducible refine Kept.drewN ?_ _) | (with_reducible refine Kept.drew ?_))

set_option maxRecDepth 100000 in
theorem seefault_at (w : World) (sent : Nat → Addr) (hS : Sents w sent) (c : Nat) (h1 : 101 ≤ c) (h2 : c ≤ 117) (p : Int) (b : Nat) (hE : ErrAt w b sent c p) :
    Calls Tryd.prog 49 #[.iface 102 (.pointer (some ⟨b, 0, none⟩)), .int .i64 9] w fun e w' => ∃ g, e = .returned (faultV c (.slice (some ⟨g, 0, none⟩) 1 1)) ∧ w'.cell? ⟨g, 0, none⟩ = some (.int .i64 p) ∧ w.heap.size ≤ g ∧ Below w.heap.size w w' := by
  have hA := asAt_yes ⟨b, 0, none⟩
  have hb0 := (Below.refl w.heap.size w).alloc (Nat.le_refl _) (Obj.cells #[Value.int IntKind.i64 0, Value.slice none 0 0] 33)
  have hS1 := hS.below hb0
  unfold ErrAt at hE
  have E0 := hE.below hb0
  have d0 := E0.cell 0 rfl
  have d1 := E0.cell 1 rfl
  have B0 := Blk.newAt (w := w) [Value.int IntKind.i64 0, Value.slice none 0 0] 33 rfl
  have hc : ((c : Int) == 0) = false := by rw [beq_eq_false_iff_ne]; omega
  go_enter Tryd.func49, Tryd.ntmps49
  go_wp2_with fail
  refine (seefault_sent _ sent hS1 c h1 h2 8 (by decide) (by decide)).mono ?_
  rintro e w1 ⟨rfl, hb1⟩
  have E1 := E0.below hb1
  have B1 := B0.below hb1
  have hB1 := bNext hb0 hb1
  have d10 := E1.cell 0 rfl
  clear hS1 B0 hb0 hb1 E0 d0 d1 E1
  unfold faultV
  go_wp2_with fail
  refine wp_world (fun w3 => Blk w3 w1.heap.size [.int .i64 c, .slice none 0 0] ∧ Blk w3 w.heap.size [.int .i64 0, .slice none 0 0] ∧ w3.cell? ⟨b, 0, none⟩ = some (.int .i64 p) ∧ Below w.heap.size w w3)
    ⟨Blk.newAt _ _ rfl, B1.alloc _, bSome ((Below.refl _ _).alloc (Nat.le_refl _) _) d10, bNext hB1 ((Below.refl _ _).alloc (Nat.le_refl _) _)⟩ ?_
  have hq : w.heap.size < w1.heap.size := B1.lt
  generalize w1.heap.size = q at *
  intro w3 ⟨F3, B3, d3, hB3⟩
  clear B1 hB1 d10
  have c0 := F3.cell 0 rfl
  have c1 := F3.cell 1 rfl
  have e0 := B3.cell 0 rfl
  have e1 := B3.cell 1 rfl
  have f0 := B3.free 0
  have f1 := B3.free 1
  have n1 : ¬ w.heap.size = q := by omega
  have n2 : ¬ w.heap.size = b := by have : b < w.heap.size := Blk.lt hE; omega
  go_region_held3 (fun w' => w'.cell? ⟨b, 0, none⟩ = some (.int .i64 p) ∧ w'.cell? ⟨q, 0, none⟩ = some (.int .i64 c) ∧ w'.cell? ⟨q, 1, none⟩ = some (.slice none 0 0)) (first | exact ⟨bSome hb5 (by simp [*]), bSome hb5 (by simp [*]), bSome hb5 (by simp [*])⟩ | exact ⟨(World.cell?_setCell_other _ _ _ _ (by simp [*])).trans ((World.cell?_setCell_other _ _ _ _ (by simp [*])).trans (bSome hb5 (by simp [*]))), (World.cell?_setCell_other _ _ _ _ (by simp [*])).trans ((World.cell?_setCell_other _ _ _ _ (by simp [*])).trans (bSome hb5 (by simp [*]))), (World.cell?_setCell_other _ _ _ _ (by simp [*])).trans ((World.cell?_setCell_other _ _ _ _ (by simp [*])).trans (bSome hb5 (by simp [*])))⟩ | go_keep)
    (first
      | (go_at_call 70; refine (rAround_any _ _ hc _).mono ?_; unfold faultV; rintro e w5 ⟨g, rfl, hg, hg2, hb5⟩; have T0 := bSome hb5 (p := ⟨w.heap.size, 0, none⟩) (v := .int .i64 0) (by simp [*]); have T0f := bFree hb5 (p := ⟨w.heap.size, 0, none⟩) (v := .int .i64 0) (by simp [*]) (by simp [*]); have T3 := bSome hb5 (p := ⟨w.heap.size, 1, none⟩) (v := .slice none 0 0) (by simp [*]); have T3f := bFree hb5 (p := ⟨w.heap.size, 1, none⟩) (v := .slice none 0 0) (by simp [*]) (by simp [*])))
  have hB5 : Below w.heap.size w w5 := bNext (bDrw hB3) hb5
  have B5 := B3.drew.below hb5
  have hg2' : w3.heap.size ≤ g := hg2
  have hg3 : ¬ w.heap.size = g := by have := B3.lt; omega
  have hg4 : w.heap.size ≤ g := Nat.le_trans hB3.size hg2
  have hK := (Kept.ofBelow hB5 : Kept Nowhere w w5)
  clear hB3 hb5 B3 hB5
  go_wp2_with fail
  (try simp only [Exit.inBlock, Exit.then])
  refine bodyPost_ret (results_blk1 (p := 4) (g := w.heap.size) (cs := [.int .i64 c, .slice (some ⟨g, 0, none⟩) 1 1]) rfl _ _ _ rfl ?_ Tryd.underlying33 rfl (by kernel_rfl)) rfl ⟨g, rfl, ?_, hg4, ?_⟩
  · apply Blk.as
    repeat (first | (with_reducible assumption) | ((with_reducible apply Blk.newAt); (focus (simp; done))) | (with_reducible apply Blk.set) | ((with_reducible apply Blk.other); (case hp => first | omega | (simp; omega) | simp)) | (with_reducible apply Blk.alloc) | (with_reducible apply Blk.drewN) | (with_reducible apply Blk.drew))
    rfl
  · refine (World.cell?_setCell_other _ _ _ _ (by simp [hg3])).trans ((World.cell?_setCell_other _ _ _ _ (by simp [hg3])).trans hg)
  · apply Kept.toBelow
    repeat (first | (with_reducible assumption) | (with_reducible exact Kept.refl _ _) | ((with_reducible refine Kept.setCell ?_ ?_ _); rotate_left; (focus (first | exact fun _ => rfl | exact fun h => absurd h (by first | omega | (simp; omega) | simp)))) | (with_reducible refine Kept.alloc ?_ _) | (with_reducible refine Kept.drewN ?_ _) | (with_reducible refine Kept.drew ?_))

set_option maxRecDepth 100000 in
/-- patoissee.Fault of an error with a place. -/
theorem seeFault_at (w : World) (sent : Nat → Addr) (hS : Sents w sent) (c : Nat) (h1 : 101 ≤ c) (h2 : c ≤ 117) (p : Int) (b : Nat) (hE : ErrAt w b sent c p) :
    Calls Tryd.prog 19 #[.iface 102 (.pointer (some ⟨b, 0, none⟩))] w fun e w' => ∃ g, e = .returned (faultV c (.slice (some ⟨g, 0, none⟩) 1 1)) ∧ w'.cell? ⟨g, 0, none⟩ = some (.int .i64 p) ∧ w.heap.size ≤ g ∧ Below w.heap.size w w' := by
  have hb0 := (Below.refl w.heap.size w).alloc (Nat.le_refl _) (Obj.cells #[Value.int IntKind.i64 0, Value.slice none 0 0] 33)
  have hS1 := hS.below hb0
  have E0 : ErrAt _ b sent c p := Blk.below hE hb0
  go_enter Tryd.func19, Tryd.ntmps19
  go_wp2_with fail
  refine (seefault_at _ sent hS1 c h1 h2 p b E0).mono ?_
  rintro e w2 ⟨g, rfl, hg, hg2, hb2⟩
  have B2 := (Blk.newAt (w := w) [Value.int IntKind.i64 0, Value.slice none 0 0] 33 rfl).below hb2
  have hB2 := bNext hb0 hb2
  have c0 := B2.cell 0 rfl
  have c1 := B2.cell 1 rfl
  have f0 := B2.free 0
  have f1 := B2.free 1
  have hK := (Kept.ofBelow hB2 : Kept Nowhere w w2)
  have hg3 : g ≠ w.heap.size := by simp at hg2; omega
  have hg4 := Nat.le_trans hb0.size hg2
  clear hb2 hS1 E0 hb0
  unfold faultV
  go_wp2_with fail
  (try simp only [Exit.inBlock, Exit.then])
  refine bodyPost_ret (results_blk1 (p := 2) (g := w.heap.size) (cs := [.int .i64 c, .slice (some ⟨g, 0, none⟩) 1 1]) rfl _ _ _ rfl ?_ Tryd.underlying33 rfl (by kernel_rfl)) rfl ⟨g, rfl, ?_, hg4, ?_⟩
  · apply Blk.as
    repeat (first | (with_reducible assumption) | ((with_reducible apply Blk.newAt); (focus (simp; done))) | (with_reducible apply Blk.set) | ((with_reducible apply Blk.other); (case hp => first | omega | (simp; omega) | simp)) | (with_reducible apply Blk.alloc) | (with_reducible apply Blk.drewN) | (with_reducible apply Blk.drew))
    rfl
  · refine (World.cell?_setCell_other _ _ _ _ (by simp [hg3])).trans ((World.cell?_setCell_other _ _ _ _ (by simp [hg3])).trans hg)
  · apply Kept.toBelow
    repeat (first | (with_reducible assumption) | (with_reducible exact Kept.refl _ _) | ((with_reducible refine Kept.setCell ?_ ?_ _); rotate_left; (focus (first | exact fun _ => rfl | exact fun h => absurd h (by first | omega | (simp; omega) | simp)))) | (with_reducible refine Kept.alloc ?_ _) | (with_reducible refine Kept.drewN ?_ _) | (with_reducible refine Kept.drew ?_))

end Go.Proofs.YtdadgodjjfgmfaaDoor
