/- AparseNests: the row. -/
import Derived.Test.YtepebnblbheegaaGreatDoorZB
import Derived.LaidSub
import Derived.Lay
import Derived.Handed
import Derived.Test.YtepebnblbheegaaGreatDoorQNests
namespace Go.Proofs.YtepebnblbheegaaGreatDoor
set_option maxRecDepth 100000
open Go Go.ChangeShapes Go.WideShapes Go.ChangeAt Go.RowKit
open Go.ChangeMaps (open_string shut_string)
theorem own_aparseNests : ownKnob Tryz.prog.godebug = none := by kernel_rfl
theorem aparseNests_door (os : Os) (args : Array Value) : laidMetH Tryz.prog Rows.aparseNestsRow.laid ((etWorld os Rows.aparseNestsRow.laid).forCall (fun _ _ => 0) ⟨#[], args, []⟩).memory := by
 exact laidMetH_of_parts (et_laid _ (by kernel_rfl) (by kernel_rfl)) (by kernel_rfl)
theorem aparseNests_lifted (os : Os) (started : os.Started) (H : Type) (enc : TypeId × Value → H) :
  ReturnsInHanded {} Tryz.checked os 9 .any (fun w args => (Rows.aparseNestsSpec.pre enc Tryz.prog Tryz.f9 [] false w args ∧ laidMetH Tryz.prog Rows.aparseNestsRow.laid w) ∧ sizedMet enc Tryz.prog Tryz.f9 (OpenSpec.ofChange Rows.aparseNestsSpec) false w args)
   (Rows.aparseNestsSpec.post enc Tryz.prog Tryz.f9 false true false false) := by
 refine handed_shaped (C := Tryz.checked) (X := fun w _ => laidMetH Tryz.prog Rows.aparseNestsRow.laid w) (fun _ _ _ hh h => h.of_heap hh) own_aparseNests started (by kernel_rfl) Tryz.func9
  (ChangeSpec.witness_shaped (enc := enc) (C := Tryz.checked) (os := os) (X := fun w _ => laidMetH Tryz.prog Rows.aparseNestsRow.laid w) false (etWorld os Rows.aparseNestsRow.laid) #[.int .i64 0, .int .i64 0] 8 (etWorld_os _ _) (World.shaped_of_ZipB (by kernel_rfl) (by kernel_rfl)) (by kernel_rfl) (by kernel_rfl) (by kernel_rfl) (aparseNests_door os _)) ?_
 intro W base args ds gs before hsh hval0 hW hL
 obtain ⟨sent, hS⟩ := sents_row (l := Rows.aparseNestsRow.laid.filter keepEt) (by kernel_rfl) (laidMetH.filter keepEt hL)
 have het := et_cell (l := Rows.aparseNestsRow.laid) (List.Mem.head _) hL
 obtain ⟨mx, hmx⟩ := Tryz.laysM219.s1_3 W hsh
 have hval : ∀ (j : Nat) t v, Tryz.f9.params[j]? = some t → args[j]? = some v → Value.okWide Tryz.prog W .any base t v := hval0
 have hW' := hW
 obtain ⟨p, q, hA0, hV, rfl, hfz, hnd⟩ := hW
 have hA : DataW.TrodAll enc Tryz.prog W 0 (fun _ => true) true Tryz.f9.params.toList args.toList ds p := hA0
 rw [Tryz.params9] at hA hval
 obtain ⟨v0, v1, d0, d1, p0, p1, rfl, rfl, rfl, h0, h1⟩ := trodAll_two hA
 obtain ⟨rfl, rfl⟩ := trodVars_none hV
 obtain ⟨n0, rfl, rfl, rfl, hn0⟩ := open_int Tryz.underlying3 (hval 0 3 v0 rfl rfl) h0
 obtain ⟨n1, rfl, rfl, rfl, hn1⟩ := open_int Tryz.underlying3 (hval 1 3 v1 rfl rfl) h1
 simp only [List.append_nil] at hW'
 refine (nestsA_all n0 n1 W sent hS ⟨mx, hmx⟩ het).mono fun e W' ⟨he, hb⟩ => ?_
 subst he
 exact ⟨_, rfl, law_post hW' rfl rfl Tryz.underlying4 (fun _ _ => trodAll_mk2 (shut_int Tryz.underlying3 hn0) (shut_int Tryz.underlying3 hn1)) rfl rfl hb⟩
theorem aparseNests_j1 : (Rows.aparseNestsRow.inPlace == Tryz.prog.inPlace 9) = true := by kernel_rfl
theorem aparseNests_j2 : (Rows.aparseNestsRow.unfollowed == Tryz.prog.unfollowed 9) = true := by kernel_rfl
theorem aparseNests_j3 : (Rows.aparseNestsRow.recurses == Tryz.prog.recurses 9) = true := by kernel_rfl
theorem aparseNests_j4 : (Rows.aparseNestsRow.named == Tryz.prog.varsNamed 9) = true := by kernel_rfl
theorem aparseNests_j : joinedFacts Tryz.prog 9 Tryz.f9 Rows.aparseNestsSpec Rows.aparseNestsRow = true := by
 unfold joinedFacts
 rw [aparseNests_j1, aparseNests_j2, aparseNests_j3, aparseNests_j4]
 kernel_rfl
theorem aparseNests_holds : Rows.AparseNestsSaid :=
 OpenClaim.holds_of_wide 9 Tryz.f9 rfl rfl rfl rfl rfl rfl rfl ⟨rfl, rfl, rfl, rfl, rfl⟩ rfl rfl rfl rfl rfl (by kernel_rfl) Tryz.func9 aparseNests_j
  (of_decide_eq_true (by kernel_rfl)) (by unfold Func.isWrapper; first | (rw [if_pos (by decide +kernel)]; kernel_rfl) | (rw [if_neg (by decide +kernel)]; exact ⟨rfl, rfl⟩))
  (fun os started H enc _ => aparseNests_lifted os started H enc)
end Go.Proofs.YtepebnblbheegaaGreatDoor
