/- BparseIfs: the row. -/
import Derived.Test.YtepebnblbheegaaGreatDoorLookG
import Derived.Test.YtepebnblbheegaaGreatDoorSeeG
import Derived.LaidSub
import Derived.Lay
import Derived.Handed
import Derived.Deep.Grids
import Derived.WideKeyArgs
import Derived.MakeChecks
import Derived.Test.YtepebnblbheegaaGreatDoorBIfs
namespace Go.Proofs.YtepebnblbheegaaGreatDoor
open Go Go.ChangeShapes Go.WideShapes Go.ChangeAt Go.RowKit
open Go.ChangeMaps (open_string shut_string)
open Go.Deep (open_bools)

theorem own_bparseIfs : ownKnob Tryz.prog.godebug = none := by kernel_rfl

/-- A heap with the listed variables laid meets the condition. -/
theorem bparseIfs_door (os : Os) (args : Array Value) : laidMetH Tryz.prog Rows.bparseIfsRow.laid ((World.laidAll Tryz.prog os Rows.bparseIfsRow.laid).forCall (fun _ _ => 0) ⟨#[], args, []⟩).memory := by
  rw [MakeChecks.laidMetH_plain _ _ _ (by kernel_rfl)]
  exact laidMet_laidAll _ (by kernel_rfl) (by kernel_rfl)

set_option maxRecDepth 100000 in
theorem bparseIfs_lifted (os : Os) (started : os.Started) (H : Type) (enc : TypeId × Value → H) :
    ReturnsInHanded {} Tryz.checked os 6 .any (fun w args => (Rows.bparseIfsSpec.pre enc Tryz.prog Tryz.f6 [] false w args ∧ laidMetH Tryz.prog Rows.bparseIfsRow.laid w) ∧ sizedMet enc Tryz.prog Tryz.f6 (OpenSpec.ofChange Rows.bparseIfsSpec) false w args)
      (Rows.bparseIfsSpec.post enc Tryz.prog Tryz.f6 false true false false) := by
  refine handed_shaped (C := Tryz.checked) (X := fun w _ => laidMetH Tryz.prog Rows.bparseIfsRow.laid w) (fun _ _ _ hh h => h.of_heap hh) own_bparseIfs started (by kernel_rfl) Tryz.func6
    (ChangeSpec.witness_shaped (enc := enc) (C := Tryz.checked) (os := os) (X := fun w _ => laidMetH Tryz.prog Rows.bparseIfsRow.laid w) false (World.laidAll Tryz.prog os Rows.bparseIfsRow.laid) #[.int .i64 0, .slice none 0 0] 8 (World.laidAll_os _ _ _) (World.shaped_of_ZipB (by kernel_rfl) (by kernel_rfl)) (by kernel_rfl) (by kernel_rfl) (by kernel_rfl) (bparseIfs_door os _)) ?_
  intro W base args ds gs before hsh hval0 hW hL
  obtain ⟨sent, hS⟩ := sents_row (l := Rows.bparseIfsRow.laid) (by kernel_rfl) hL
  obtain ⟨mx, hmx⟩ := Tryz.laysM219.s1_3 W hsh
  have hval : ∀ (j : Nat) t v, Tryz.f6.params[j]? = some t → args[j]? = some v → Value.okWide Tryz.prog W .any base t v := hval0
  have hW' := hW
  obtain ⟨p, q, hA0, hV, rfl, hfz, hnd⟩ := hW
  have hA : DataW.TrodAll enc Tryz.prog W 0 (fun _ => true) true Tryz.f6.params.toList args.toList ds p := hA0
  rw [Tryz.params6] at hA hval
  obtain ⟨v0, v1, d0, d1, p0, p1, rfl, rfl, rfl, h0, h1⟩ := trodAll_two hA
  obtain ⟨rfl, rfl⟩ := trodVars_none hV
  obtain ⟨n0, rfl, rfl, rfl, hn0⟩ := open_int Tryz.underlying3 (hval 0 3 v0 rfl rfl) h0
  obtain ⟨a1, len1, cap1, rfl⟩ := okWide_slice Tryz.underlying43 (hval 1 43 v1 rfl rfl)
  simp only [List.append_nil, List.nil_append] at hW'
  have hlt1 : ∀ x ∈ p1, x.block < W.heap.size := fun x hx => by simpa using hW'.lt x (by simpa using hx)
  obtain ⟨fuel1, hf1⟩ := id h1
  have hI1 : len1 ≤ cap1 ∧ cap1 ≤ maxLen ∧ BoolsAt W a1 len1 := by
    rcases open_bools Tryz.underlying43 Tryz.underlying4 cellsBool hf1 with ⟨hcs, hx⟩ | ⟨a, len', cap', B, hcs, _, hl, hm, hx, hcell⟩
    · simp [Value.cells] at hcs
      obtain ⟨rfl, rfl, rfl⟩ := hcs
      exact ⟨Nat.le_refl _, Nat.zero_le _, fun i hi => absurd hi (by omega)⟩
    · simp [Value.cells] at hcs
      obtain ⟨rfl, rfl, rfl⟩ := hcs
      exact ⟨hl, hm, fun i hi => ⟨a, B i, rfl, hcell i (by omega)⟩⟩
  refine (ifs_all n0 a1 len1 cap1 W sent hS ⟨mx, hmx⟩ hI1.1 hI1.2.1 hI1.2.2).mono fun e W' ⟨he, hb⟩ => ?_
  subst he
  exact ⟨_, rfl, law_post hW' rfl rfl Tryz.underlying4 (fun sp hsp => trodAll_mk2 (shut_int Tryz.underlying3 hn0) (WideElems.Trod_stays laidOutP (by kernel_rfl) (of_decide_eq_true (by kernel_rfl)) h1 (fun x hx => hb.same (hlt1 x hx)) (fun x hx => hsp x (by simpa using hx)))) rfl rfl hb⟩

theorem bparseIfs_j1 : (Rows.bparseIfsRow.inPlace == Tryz.prog.inPlace 6) = true := by kernel_rfl
theorem bparseIfs_j2 : (Rows.bparseIfsRow.unfollowed == Tryz.prog.unfollowed 6) = true := by kernel_rfl
theorem bparseIfs_j3 : (Rows.bparseIfsRow.recurses == Tryz.prog.recurses 6) = true := by kernel_rfl
theorem bparseIfs_j4 : (Rows.bparseIfsRow.named == Tryz.prog.varsNamed 6) = true := by kernel_rfl
theorem bparseIfs_j : joinedFacts Tryz.prog 6 Tryz.f6 Rows.bparseIfsSpec Rows.bparseIfsRow = true := by
  unfold joinedFacts
  rw [bparseIfs_j1, bparseIfs_j2, bparseIfs_j3, bparseIfs_j4]
  kernel_rfl
theorem bparseIfs_holds : Rows.BparseIfsSaid :=
  OpenClaim.holds_of_wide 6 Tryz.f6 rfl rfl rfl rfl rfl rfl rfl ⟨rfl, rfl, rfl, rfl, rfl⟩ rfl rfl rfl rfl rfl (by kernel_rfl) Tryz.func6 bparseIfs_j
    (of_decide_eq_true (by kernel_rfl)) (by unfold Func.isWrapper; first | (rw [if_pos (by decide +kernel)]; kernel_rfl) | (rw [if_neg (by decide +kernel)]; exact ⟨rfl, rfl⟩))
    (fun os started H enc _ => bparseIfs_lifted os started H enc)
end Go.Proofs.YtepebnblbheegaaGreatDoor
