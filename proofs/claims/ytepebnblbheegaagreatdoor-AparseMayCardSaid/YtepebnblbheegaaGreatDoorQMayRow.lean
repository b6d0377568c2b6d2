/- AparseMay: the row. -/
import Derived.Test.YtepebnblbheegaaGreatDoorZB
import Derived.LaidSub
import Derived.Lay
import Derived.Handed
import Derived.Test.YtepebnblbheegaaGreatDoorQMay
namespace Go.Proofs.YtepebnblbheegaaGreatDoor
set_option maxRecDepth 100000
open Go Go.ChangeShapes Go.WideShapes Go.ChangeAt Go.RowKit
open Go.ChangeMaps (open_string shut_string)
theorem own_aparseMay : ownKnob Tryz.prog.godebug = none := by kernel_rfl
theorem aparseMay_door (os : Os) (args : Array Value) : laidMetH Tryz.prog Rows.aparseMayRow.laid ((etWorld os Rows.aparseMayRow.laid).forCall (fun _ _ => 0) ⟨#[], args, []⟩).memory := by
 exact laidMetH_of_parts (et_laid _ (by kernel_rfl) (by kernel_rfl)) (by kernel_rfl)
theorem aparseMay_lifted (os : Os) (started : os.Started) (H : Type) (enc : TypeId × Value → H) :
  ReturnsInHanded {} Tryz.checked os 13 .any (fun w args => (Rows.aparseMaySpec.pre enc Tryz.prog Tryz.f13 [] false w args ∧ laidMetH Tryz.prog Rows.aparseMayRow.laid w) ∧ sizedMet enc Tryz.prog Tryz.f13 (OpenSpec.ofChange Rows.aparseMaySpec) false w args)
   (Rows.aparseMaySpec.post enc Tryz.prog Tryz.f13 false true false false) := by
 refine handed_shaped (C := Tryz.checked) (X := fun w _ => laidMetH Tryz.prog Rows.aparseMayRow.laid w) (fun _ _ _ hh h => h.of_heap hh) own_aparseMay started (by kernel_rfl) Tryz.func13
  (ChangeSpec.witness_shaped (enc := enc) (C := Tryz.checked) (os := os) (X := fun w _ => laidMetH Tryz.prog Rows.aparseMayRow.laid w) false (etWorld os Rows.aparseMayRow.laid) #[.string ⟨#[]⟩] 8 (etWorld_os _ _) (World.shaped_of_ZipB (by kernel_rfl) (by kernel_rfl)) (by kernel_rfl) (by kernel_rfl) (by kernel_rfl) (aparseMay_door os _)) ?_
 intro W base args ds gs before hsh hval0 hW hL
 obtain ⟨sent, hS⟩ := sents_row (l := Rows.aparseMayRow.laid.filter keepEt) (by kernel_rfl) (laidMetH.filter keepEt hL)
 have het := et_cell (l := Rows.aparseMayRow.laid) (List.Mem.head _) hL
 obtain ⟨mx, hmx⟩ := Tryz.laysM219.s1_3 W hsh
 have hval : ∀ (j : Nat) t v, Tryz.f13.params[j]? = some t → args[j]? = some v → Value.okWide Tryz.prog W .any base t v := hval0
 have hW' := hW
 obtain ⟨p, q, hA0, hV, rfl, hfz, hnd⟩ := hW
 have hA : DataW.TrodAll enc Tryz.prog W 0 (fun _ => true) true Tryz.f13.params.toList args.toList ds p := hA0
 rw [Tryz.params13] at hA hval
 obtain ⟨v0, d0, rfl, rfl, h0⟩ := trodAll_one hA
 obtain ⟨rfl, rfl⟩ := trodVars_none hV
 obtain ⟨s0, rfl, rfl, rfl, hs0⟩ := open_string Tryz.underlying9 (hval 0 9 v0 rfl rfl) h0
 simp only [List.append_nil] at hW'
 refine (mayA_any s0 W sent hS ⟨mx, hmx⟩ het).mono fun e W' ⟨he, hb⟩ => ?_
 subst he
 exact ⟨_, rfl, law_post hW' rfl rfl Tryz.underlying4 (fun _ _ => trodAll_mk1 (shut_string Tryz.underlying9 hs0)) rfl rfl hb⟩
theorem aparseMay_j1 : (Rows.aparseMayRow.inPlace == Tryz.prog.inPlace 13) = true := by kernel_rfl
theorem aparseMay_j2 : (Rows.aparseMayRow.unfollowed == Tryz.prog.unfollowed 13) = true := by kernel_rfl
theorem aparseMay_j3 : (Rows.aparseMayRow.recurses == Tryz.prog.recurses 13) = true := by kernel_rfl
theorem aparseMay_j4 : (Rows.aparseMayRow.named == Tryz.prog.varsNamed 13) = true := by kernel_rfl
theorem aparseMay_j : joinedFacts Tryz.prog 13 Tryz.f13 Rows.aparseMaySpec Rows.aparseMayRow = true := by
 unfold joinedFacts
 rw [aparseMay_j1, aparseMay_j2, aparseMay_j3, aparseMay_j4]
 kernel_rfl
theorem aparseMay_holds : Rows.AparseMaySaid :=
 OpenClaim.holds_of_wide 13 Tryz.f13 rfl rfl rfl rfl rfl rfl rfl ⟨rfl, rfl, rfl, rfl, rfl⟩ rfl rfl rfl rfl rfl (by kernel_rfl) Tryz.func13 aparseMay_j
  (of_decide_eq_true (by kernel_rfl)) (by unfold Func.isWrapper; first | (rw [if_pos (by decide +kernel)]; kernel_rfl) | (rw [if_neg (by decide +kernel)]; exact ⟨rfl, rfl⟩))
  (fun os started H enc _ => aparseMay_lifted os started H enc)
end Go.Proofs.YtepebnblbheegaaGreatDoor
