/- BparseNests: the row. -/
import Derived.Test.YtepebnblbheegaaGreatDoorLookG
import Derived.Test.YtepebnblbheegaaGreatDoorSeeG
import Derived.LaidSub
import Derived.Lay
import Derived.Handed
import Derived.Test.YtepebnblbheegaaGreatDoorBNests
namespace Go.Proofs.YtepebnblbheegaaGreatDoor
open Go Go.ChangeShapes Go.WideShapes Go.ChangeAt Go.RowKit
open Go.ChangeMaps (open_string shut_string)

theorem own_bparseNests : ownKnob Tryz.prog.godebug = none := by kernel_rfl

/-- A heap with the listed variables laid meets the condition. -/
theorem bparseNests_door (os : Os) (args : Array Value) : laidMetH Tryz.prog Rows.bparseNestsRow.laid ((World.laidAll Tryz.prog os Rows.bparseNestsRow.laid).forCall (fun _ _ => 0) ⟨#[], args, []⟩).memory := by
  rw [MakeChecks.laidMetH_plain _ _ _ (by kernel_rfl)]
  exact laidMet_laidAll _ (by kernel_rfl) (by kernel_rfl)

set_option maxRecDepth 100000 in
theorem bparseNests_lifted (os : Os) (started : os.Started) (H : Type) (enc : TypeId × Value → H) :
    ReturnsInHanded {} Tryz.checked os 4 .any (fun w args => (Rows.bparseNestsSpec.pre enc Tryz.prog Tryz.f4 [] false w args ∧ laidMetH Tryz.prog Rows.bparseNestsRow.laid w) ∧ sizedMet enc Tryz.prog Tryz.f4 (OpenSpec.ofChange Rows.bparseNestsSpec) false w args)
      (Rows.bparseNestsSpec.post enc Tryz.prog Tryz.f4 false true false false) := by
  refine handed_shaped (C := Tryz.checked) (X := fun w _ => laidMetH Tryz.prog Rows.bparseNestsRow.laid w) (fun _ _ _ hh h => h.of_heap hh) own_bparseNests started (by kernel_rfl) Tryz.func4
    (ChangeSpec.witness_shaped (enc := enc) (C := Tryz.checked) (os := os) (X := fun w _ => laidMetH Tryz.prog Rows.bparseNestsRow.laid w) false (World.laidAll Tryz.prog os Rows.bparseNestsRow.laid) #[.int .i64 0, .int .i64 0] 8 (World.laidAll_os _ _ _) (World.shaped_of_ZipB (by kernel_rfl) (by kernel_rfl)) (by kernel_rfl) (by kernel_rfl) (by kernel_rfl) (bparseNests_door os _)) ?_
  intro W base args ds gs before hsh hval0 hW hL
  obtain ⟨sent, hS⟩ := sents_row (l := Rows.bparseNestsRow.laid) (by kernel_rfl) hL
  obtain ⟨mx, hmx⟩ := Tryz.laysM219.s1_3 W hsh
  have hval : ∀ (j : Nat) t v, Tryz.f4.params[j]? = some t → args[j]? = some v → Value.okWide Tryz.prog W .any base t v := hval0
  have hW' := hW
  obtain ⟨p, q, hA0, hV, rfl, hfz, hnd⟩ := hW
  have hA : DataW.TrodAll enc Tryz.prog W 0 (fun _ => true) true Tryz.f4.params.toList args.toList ds p := hA0
  rw [Tryz.params4] at hA hval
  obtain ⟨v0, v1, d0, d1, p0, p1, rfl, rfl, rfl, h0, h1⟩ := trodAll_two hA
  obtain ⟨rfl, rfl⟩ := trodVars_none hV
  obtain ⟨n, rfl, rfl, rfl, hn⟩ := open_int Tryz.underlying3 (hval 0 3 v0 rfl rfl) h0
  obtain ⟨s, rfl, rfl, rfl, hs⟩ := open_int Tryz.underlying3 (hval 1 3 v1 rfl rfl) h1
  simp only [List.append_nil] at hW'
  refine (nests_all n s W sent hS ⟨mx, hmx⟩).mono fun e W' ⟨he, hb⟩ => ?_
  subst he
  exact ⟨_, rfl, law_post hW' rfl rfl Tryz.underlying4 (fun _ _ => trodAll_mk2 (shut_int Tryz.underlying3 hn) (shut_int Tryz.underlying3 hs)) rfl rfl hb⟩

theorem nj1 : (Rows.bparseNestsRow.inPlace == Tryz.prog.inPlace 4) = true := by kernel_rfl
theorem nj2 : (Rows.bparseNestsRow.unfollowed == Tryz.prog.unfollowed 4) = true := by kernel_rfl
theorem nj3 : (Rows.bparseNestsRow.recurses == Tryz.prog.recurses 4) = true := by kernel_rfl
theorem nj4 : (Rows.bparseNestsRow.named == Tryz.prog.varsNamed 4) = true := by kernel_rfl
theorem nj : joinedFacts Tryz.prog 4 Tryz.f4 Rows.bparseNestsSpec Rows.bparseNestsRow = true := by
  unfold joinedFacts
  rw [nj1, nj2, nj3, nj4]
  kernel_rfl
theorem bparseNests_holds : Rows.BparseNestsSaid :=
  OpenClaim.holds_of_wide 4 Tryz.f4 rfl rfl rfl rfl rfl rfl rfl ⟨rfl, rfl, rfl, rfl, rfl⟩ rfl rfl rfl rfl rfl (by kernel_rfl) Tryz.func4 nj
    (of_decide_eq_true (by kernel_rfl)) (by unfold Func.isWrapper; first | (rw [if_pos (by decide +kernel)]; kernel_rfl) | (rw [if_neg (by decide +kernel)]; exact ⟨rfl, rfl⟩))
    (fun os started H enc _ => bparseNests_lifted os started H enc)
end Go.Proofs.YtepebnblbheegaaGreatDoor
