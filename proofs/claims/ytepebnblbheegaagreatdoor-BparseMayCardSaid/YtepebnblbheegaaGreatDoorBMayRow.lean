/- BparseMay: the row. -/
import Derived.Test.YtepebnblbheegaaGreatDoorLookG
import Derived.Test.YtepebnblbheegaaGreatDoorSeeG
import Derived.LaidSub
import Derived.Lay
import Derived.Handed
import Derived.Test.YtepebnblbheegaaGreatDoorBMay
namespace Go.Proofs.YtepebnblbheegaaGreatDoor
open Go Go.ChangeShapes Go.WideShapes Go.ChangeAt Go.RowKit
open Go.ChangeMaps (open_string shut_string)

theorem own_bparseMay : ownKnob Tryz.prog.godebug = none := by kernel_rfl

/-- A heap with the listed variables laid meets the condition. -/
theorem bparseMay_door (os : Os) (args : Array Value) : laidMetH Tryz.prog Rows.bparseMayRow.laid ((World.laidAll Tryz.prog os Rows.bparseMayRow.laid).forCall (fun _ _ => 0) ⟨#[], args, []⟩).memory := by
  rw [MakeChecks.laidMetH_plain _ _ _ (by kernel_rfl)]
  exact laidMet_laidAll _ (by kernel_rfl) (by kernel_rfl)

set_option maxRecDepth 100000 in
theorem bparseMay_lifted (os : Os) (started : os.Started) (H : Type) (enc : TypeId × Value → H) :
    ReturnsInHanded {} Tryz.checked os 8 .any (fun w args => (Rows.bparseMaySpec.pre enc Tryz.prog Tryz.f8 [] false w args ∧ laidMetH Tryz.prog Rows.bparseMayRow.laid w) ∧ sizedMet enc Tryz.prog Tryz.f8 (OpenSpec.ofChange Rows.bparseMaySpec) false w args)
      (Rows.bparseMaySpec.post enc Tryz.prog Tryz.f8 false true false false) := by
  refine handed_shaped (C := Tryz.checked) (X := fun w _ => laidMetH Tryz.prog Rows.bparseMayRow.laid w) (fun _ _ _ hh h => h.of_heap hh) own_bparseMay started (by kernel_rfl) Tryz.func8
    (ChangeSpec.witness_shaped (enc := enc) (C := Tryz.checked) (os := os) (X := fun w _ => laidMetH Tryz.prog Rows.bparseMayRow.laid w) false (World.laidAll Tryz.prog os Rows.bparseMayRow.laid) #[.string ⟨#[]⟩] 8 (World.laidAll_os _ _ _) (World.shaped_of_ZipB (by kernel_rfl) (by kernel_rfl)) (by kernel_rfl) (by kernel_rfl) (by kernel_rfl) (bparseMay_door os _)) ?_
  intro W base args ds gs before hsh hval0 hW hL
  obtain ⟨sent, hS⟩ := sents_row (l := Rows.bparseMayRow.laid) (by kernel_rfl) hL
  obtain ⟨mx, hmx⟩ := Tryz.laysM219.s1_3 W hsh
  have hval : ∀ (j : Nat) t v, Tryz.f8.params[j]? = some t → args[j]? = some v → Value.okWide Tryz.prog W .any base t v := hval0
  have hW' := hW
  obtain ⟨p, q, hA0, hV, rfl, hfz, hnd⟩ := hW
  have hA : DataW.TrodAll enc Tryz.prog W 0 (fun _ => true) true Tryz.f8.params.toList args.toList ds p := hA0
  rw [Tryz.params8] at hA hval
  obtain ⟨v0, d0, rfl, rfl, h0⟩ := trodAll_one hA
  obtain ⟨rfl, rfl⟩ := trodVars_none hV
  obtain ⟨s0, rfl, rfl, rfl, hs0⟩ := open_string Tryz.underlying9 (hval 0 9 v0 rfl rfl) h0
  simp only [List.append_nil] at hW'
  refine (mayB_any s0 W sent hS ⟨mx, hmx⟩).mono fun e W' ⟨he, hb⟩ => ?_
  subst he
  exact ⟨_, rfl, law_post hW' rfl rfl Tryz.underlying4 (fun _ _ => trodAll_mk1 (shut_string Tryz.underlying9 hs0)) rfl rfl hb⟩

theorem bparseMay_j1 : (Rows.bparseMayRow.inPlace == Tryz.prog.inPlace 8) = true := by kernel_rfl
theorem bparseMay_j2 : (Rows.bparseMayRow.unfollowed == Tryz.prog.unfollowed 8) = true := by kernel_rfl
theorem bparseMay_j3 : (Rows.bparseMayRow.recurses == Tryz.prog.recurses 8) = true := by kernel_rfl
theorem bparseMay_j4 : (Rows.bparseMayRow.named == Tryz.prog.varsNamed 8) = true := by kernel_rfl
theorem bparseMay_j : joinedFacts Tryz.prog 8 Tryz.f8 Rows.bparseMaySpec Rows.bparseMayRow = true := by
  unfold joinedFacts
  rw [bparseMay_j1, bparseMay_j2, bparseMay_j3, bparseMay_j4]
  kernel_rfl
theorem bparseMay_holds : Rows.BparseMaySaid :=
  OpenClaim.holds_of_wide 8 Tryz.f8 rfl rfl rfl rfl rfl rfl rfl ⟨rfl, rfl, rfl, rfl, rfl⟩ rfl rfl rfl rfl rfl (by kernel_rfl) Tryz.func8 bparseMay_j
    (of_decide_eq_true (by kernel_rfl)) (by unfold Func.isWrapper; first | (rw [if_pos (by decide +kernel)]; kernel_rfl) | (rw [if_neg (by decide +kernel)]; exact ⟨rfl, rfl⟩))
    (fun os started H enc _ => bparseMay_lifted os started H enc)
end Go.Proofs.YtepebnblbheegaaGreatDoor
