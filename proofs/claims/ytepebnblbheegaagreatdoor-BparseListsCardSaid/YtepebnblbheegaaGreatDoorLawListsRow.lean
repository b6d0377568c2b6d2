/- BparseLists: the row. -/
import Derived.Test.YtepebnblbheegaaGreatDoorLookG
import Derived.Test.YtepebnblbheegaaGreatDoorSeeG
import Derived.LaidSub
import Derived.Lay
import Derived.Handed
import Derived.SliceStrings
import Derived.WideKeyArgs
import Derived.MakeChecks
import Derived.Test.YtepebnblbheegaaGreatDoorLawLists
namespace Go.Proofs.YtepebnblbheegaaGreatDoor
open Go Go.ChangeShapes Go.WideShapes Go.ChangeAt Go.RowKit
open Go.ChangeMaps (open_string shut_string)

theorem own_bparseLists : ownKnob Tryz.prog.godebug = none := by kernel_rfl

/-- A heap with the listed variables laid meets the condition. -/
theorem bparseLists_door (os : Os) (args : Array Value) : laidMetH Tryz.prog Rows.bparseListsRow.laid ((World.laidAll Tryz.prog os Rows.bparseListsRow.laid).forCall (fun _ _ => 0) ⟨#[], args, []⟩).memory := by
  rw [MakeChecks.laidMetH_plain _ _ _ (by kernel_rfl)]
  exact laidMet_laidAll _ (by kernel_rfl) (by kernel_rfl)

set_option maxRecDepth 100000 in
theorem bparseLists_lifted (os : Os) (started : os.Started) (H : Type) (enc : TypeId × Value → H) :
    ReturnsInHanded {} Tryz.checked os 5 .any (fun w args => (Rows.bparseListsSpec.pre enc Tryz.prog Tryz.f5 [] false w args ∧ laidMetH Tryz.prog Rows.bparseListsRow.laid w) ∧ sizedMet enc Tryz.prog Tryz.f5 (OpenSpec.ofChange Rows.bparseListsSpec) false w args)
      (Rows.bparseListsSpec.post enc Tryz.prog Tryz.f5 false true false false) := by
  refine handed_shaped (C := Tryz.checked) (X := fun w _ => laidMetH Tryz.prog Rows.bparseListsRow.laid w) (fun _ _ _ hh h => h.of_heap hh) own_bparseLists started (by kernel_rfl) Tryz.func5
    (ChangeSpec.witness_shaped (enc := enc) (C := Tryz.checked) (os := os) (X := fun w _ => laidMetH Tryz.prog Rows.bparseListsRow.laid w) false (World.laidAll Tryz.prog os Rows.bparseListsRow.laid) #[.slice none 0 0, .bool false] 8 (World.laidAll_os _ _ _) (World.shaped_of_ZipB (by kernel_rfl) (by kernel_rfl)) (by kernel_rfl) (by kernel_rfl) (by kernel_rfl) (bparseLists_door os _)) ?_
  intro W base args ds gs before hsh hval0 hW hL
  obtain ⟨sent, hS⟩ := sents_row (l := Rows.bparseListsRow.laid) (by kernel_rfl) hL
  obtain ⟨mx, hmx⟩ := Tryz.laysM219.s1_3 W hsh
  have hval : ∀ (j : Nat) t v, Tryz.f5.params[j]? = some t → args[j]? = some v → Value.okWide Tryz.prog W .any base t v := hval0
  have hW' := hW
  obtain ⟨p, q, hA0, hV, rfl, hfz, hnd⟩ := hW
  have hA : DataW.TrodAll enc Tryz.prog W 0 (fun _ => true) true Tryz.f5.params.toList args.toList ds p := hA0
  rw [Tryz.params5] at hA hval
  obtain ⟨v0, v1, d0, d1, p0, p1, rfl, rfl, rfl, h0, h1⟩ := trodAll_two hA
  obtain ⟨rfl, rfl⟩ := trodVars_none hV
  obtain ⟨a0, len0, cap0, rfl⟩ := okWide_slice Tryz.underlying36 (hval 0 36 v0 rfl rfl)
  obtain ⟨b1, rfl, rfl, rfl⟩ := open_bool Tryz.underlying4 (hval 1 4 v1 rfl rfl) h1
  simp only [List.append_nil] at hW'
  have hlt0 : ∀ x ∈ p0, x.block < W.heap.size := fun x hx => by simpa using hW'.lt x (by simpa using hx)
  obtain ⟨fuel0, hf0⟩ := id h0
  have hI0 : len0 ≤ cap0 ∧ cap0 ≤ maxLen ∧ StrsAt W a0 len0 := by
    rcases open_strings Tryz.underlying36 Tryz.underlying9 cellsStr hf0 with ⟨hcs, hx⟩ | ⟨a, len', cap', ss, hcs, _, hl, hm, hz, hx, hcell, hwz⟩
    · simp [Value.cells] at hcs
      obtain ⟨rfl, rfl, rfl⟩ := hcs
      exact ⟨Nat.le_refl _, Nat.zero_le _, fun i hi => absurd hi (by omega)⟩
    · simp [Value.cells] at hcs
      obtain ⟨rfl, rfl, rfl⟩ := hcs
      simp only [if_true] at hz
      refine ⟨hl, hm, fun i hi => ⟨a, ss.getD i ByteArray.empty, rfl, hcell i (by omega), ?_⟩⟩
      have hm2 : ss.getD i ByteArray.empty ∈ ss := by
        rw [List.getD_eq_getElem?_getD, List.getElem?_eq_getElem (by omega)]
        exact List.getElem_mem _
      exact hwz _ hm2
  refine (listsLaw_all a0 len0 cap0 b1 W sent hS ⟨mx, hmx⟩ hI0.1 hI0.2.1 hI0.2.2).mono fun e W' ⟨he, hb⟩ => ?_
  subst he
  exact ⟨_, rfl, law_post hW' rfl rfl Tryz.underlying4 (fun sp hsp => by
    have h9 := trodAll_mk2 (WideElems.Trod_stays laidOutP (by kernel_rfl) (of_decide_eq_true (by kernel_rfl)) h0 (fun x hx => hb.same (hlt0 x hx)) (fun x hx => hsp x (by simpa using hx))) (shut_bool Tryz.underlying4 b1)
    rw [List.append_nil] at h9
    exact h9) rfl rfl hb⟩

theorem bparseLists_j1 : (Rows.bparseListsRow.inPlace == Tryz.prog.inPlace 5) = true := by kernel_rfl
theorem bparseLists_j2 : (Rows.bparseListsRow.unfollowed == Tryz.prog.unfollowed 5) = true := by kernel_rfl
theorem bparseLists_j3 : (Rows.bparseListsRow.recurses == Tryz.prog.recurses 5) = true := by kernel_rfl
theorem bparseLists_j4 : (Rows.bparseListsRow.named == Tryz.prog.varsNamed 5) = true := by kernel_rfl
theorem bparseLists_j : joinedFacts Tryz.prog 5 Tryz.f5 Rows.bparseListsSpec Rows.bparseListsRow = true := by
  unfold joinedFacts
  rw [bparseLists_j1, bparseLists_j2, bparseLists_j3, bparseLists_j4]
  kernel_rfl
theorem bparseLists_holds : Rows.BparseListsSaid :=
  OpenClaim.holds_of_wide 5 Tryz.f5 rfl rfl rfl rfl rfl rfl rfl ⟨rfl, rfl, rfl, rfl, rfl⟩ rfl rfl rfl rfl rfl (by kernel_rfl) Tryz.func5 bparseLists_j
    (of_decide_eq_true (by kernel_rfl)) (by unfold Func.isWrapper; first | (rw [if_pos (by decide +kernel)]; kernel_rfl) | (rw [if_neg (by decide +kernel)]; exact ⟨rfl, rfl⟩))
    (fun os started H enc _ => bparseLists_lifted os started H enc)
end Go.Proofs.YtepebnblbheegaaGreatDoor
