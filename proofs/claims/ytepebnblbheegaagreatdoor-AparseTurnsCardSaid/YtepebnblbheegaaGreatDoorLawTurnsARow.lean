/- AparseTurns: the row. -/
import Derived.Test.YtepebnblbheegaaGreatDoorZB
import Derived.LaidSub
import Derived.Lay
import Derived.Handed
import Derived.ChangeSlices
import Derived.WideKeyArgs
import Derived.MakeChecks
import Derived.Test.YtepebnblbheegaaGreatDoorLawTurnsA
namespace Go.Proofs.YtepebnblbheegaaGreatDoor
set_option maxRecDepth 100000
open Go Go.ChangeShapes Go.WideShapes Go.ChangeAt Go.RowKit
open Go.ChangeMaps (open_string shut_string)
theorem own_aparseTurns : ownKnob Tryz.prog.godebug = none := by kernel_rfl
theorem aparseTurns_door (os : Os) (args : Array Value) : laidMetH Tryz.prog Rows.aparseTurnsRow.laid ((etWorld os Rows.aparseTurnsRow.laid).forCall (fun _ _ => 0) ⟨#[], args, []⟩).memory := by
 exact laidMetH_of_parts (et_laid _ (by kernel_rfl) (by kernel_rfl)) (by kernel_rfl)
theorem aparseTurns_lifted (os : Os) (started : os.Started) (H : Type) (enc : TypeId × Value → H) :
  ReturnsInHanded {} Tryz.checked os 10 .any (fun w args => (Rows.aparseTurnsSpec.pre enc Tryz.prog Tryz.f10 [] false w args ∧ laidMetH Tryz.prog Rows.aparseTurnsRow.laid w) ∧ sizedMet enc Tryz.prog Tryz.f10 (OpenSpec.ofChange Rows.aparseTurnsSpec) false w args)
   (Rows.aparseTurnsSpec.post enc Tryz.prog Tryz.f10 false true false false) := by
 refine handed_shaped (C := Tryz.checked) (X := fun w _ => laidMetH Tryz.prog Rows.aparseTurnsRow.laid w) (fun _ _ _ hh h => h.of_heap hh) own_aparseTurns started (by kernel_rfl) Tryz.func10
  (ChangeSpec.witness_shaped (enc := enc) (C := Tryz.checked) (os := os) (X := fun w _ => laidMetH Tryz.prog Rows.aparseTurnsRow.laid w) false (etWorld os Rows.aparseTurnsRow.laid) #[.slice none 0 0, .bool false] 8 (etWorld_os _ _) (World.shaped_of_ZipB (by kernel_rfl) (by kernel_rfl)) (by kernel_rfl) (by kernel_rfl) (by kernel_rfl) (aparseTurns_door os _)) ?_
 intro W base args ds gs before hsh hval0 hW hL
 obtain ⟨sent, hS⟩ := sents_row (l := Rows.aparseTurnsRow.laid.filter keepEt) (by kernel_rfl) (laidMetH.filter keepEt hL)
 have het := et_cell (l := Rows.aparseTurnsRow.laid) (List.Mem.head _) hL
 obtain ⟨mx, hmx⟩ := Tryz.laysM219.s1_3 W hsh
 have hval : ∀ (j : Nat) t v, Tryz.f10.params[j]? = some t → args[j]? = some v → Value.okWide Tryz.prog W .any base t v := hval0
 have hW' := hW
 obtain ⟨p, q, hA0, hV, rfl, hfz, hnd⟩ := hW
 have hA : DataW.TrodAll enc Tryz.prog W 0 (fun _ => true) true Tryz.f10.params.toList args.toList ds p := hA0
 rw [Tryz.params10] at hA hval
 obtain ⟨v0, v1, d0, d1, p0, p1, rfl, rfl, rfl, h0, h1⟩ := trodAll_two hA
 obtain ⟨rfl, rfl⟩ := trodVars_none hV
 obtain ⟨a0, len0, cap0, rfl⟩ := okWide_slice Tryz.underlying28 (hval 0 28 v0 rfl rfl)
 obtain ⟨b1, rfl, rfl, rfl⟩ := open_bool Tryz.underlying4 (hval 1 4 v1 rfl rfl) h1
 simp only [List.append_nil] at hW'
 have hlt0 : ∀ x ∈ p0, x.block < W.heap.size := fun x hx => by simpa using hW'.lt x (by simpa using hx)
 obtain ⟨fuel0, hf0⟩ := id h0
 have hI0 : len0 ≤ cap0 ∧ cap0 ≤ maxLen ∧ IntsAt W a0 len0 := by
  rcases open_ints Tryz.underlying28 Tryz.underlying3 cellsInt hf0 with ⟨hcs, hx⟩ | ⟨a, len', cap', zs, hcs, _, hl, hm, hz, hx, hcell, hwz⟩
  ·simp [Value.cells] at hcs
   obtain ⟨rfl, rfl, rfl⟩ := hcs
   exact ⟨Nat.le_refl _, Nat.zero_le _, fun i hi => absurd hi (by omega)⟩
  ·simp [Value.cells] at hcs
   obtain ⟨rfl, rfl, rfl⟩ := hcs
   simp only [if_true] at hz
   refine ⟨hl, hm, fun i hi => ⟨a, zs.getD i 0, rfl, hcell i (by omega), ?_⟩⟩
   have hm2 : zs.getD i 0 ∈ zs := by
    rw [List.getD_eq_getElem?_getD, List.getElem?_eq_getElem (by omega)]
    exact List.getElem_mem _
   have hw2 := hwz _ hm2
   have h3 : IntKind.i64.min ≤ zs.getD i 0 ∧ zs.getD i 0 ≤ 9223372036854775807 := by simpa [Lit.wf] using hw2
   have h4 : IntKind.i64.min = -9223372036854775808 := by decide
   constructor <;> omega
 refine (turnsLawA_all a0 len0 cap0 b1 W sent hS ⟨mx, hmx⟩ het hI0.1 hI0.2.1 hI0.2.2).mono fun e W' ⟨he, hb⟩ => ?_
 subst he
 exact ⟨_, rfl, law_post hW' rfl rfl Tryz.underlying4 (fun sp hsp => by
  have h9 := trodAll_mk2 (WideElems.Trod_stays laidOutP (by kernel_rfl) (of_decide_eq_true (by kernel_rfl)) h0 (fun x hx => hb.same (hlt0 x hx)) (fun x hx => hsp x (by simpa using hx))) (shut_bool Tryz.underlying4 b1)
  rw [List.append_nil] at h9
  exact h9) rfl rfl hb⟩
theorem aparseTurns_j1 : (Rows.aparseTurnsRow.inPlace == Tryz.prog.inPlace 10) = true := by kernel_rfl
theorem aparseTurns_j2 : (Rows.aparseTurnsRow.unfollowed == Tryz.prog.unfollowed 10) = true := by kernel_rfl
theorem aparseTurns_j3 : (Rows.aparseTurnsRow.recurses == Tryz.prog.recurses 10) = true := by kernel_rfl
theorem aparseTurns_j4 : (Rows.aparseTurnsRow.named == Tryz.prog.varsNamed 10) = true := by kernel_rfl
theorem aparseTurns_j : joinedFacts Tryz.prog 10 Tryz.f10 Rows.aparseTurnsSpec Rows.aparseTurnsRow = true := by
 unfold joinedFacts
 rw [aparseTurns_j1, aparseTurns_j2, aparseTurns_j3, aparseTurns_j4]
 kernel_rfl
theorem aparseTurns_holds : Rows.AparseTurnsSaid :=
 OpenClaim.holds_of_wide 10 Tryz.f10 rfl rfl rfl rfl rfl rfl rfl ⟨rfl, rfl, rfl, rfl, rfl⟩ rfl rfl rfl rfl rfl (by kernel_rfl) Tryz.func10 aparseTurns_j
  (of_decide_eq_true (by kernel_rfl)) (by unfold Func.isWrapper; first | (rw [if_pos (by decide +kernel)]; kernel_rfl) | (rw [if_neg (by decide +kernel)]; exact ⟨rfl, rfl⟩))
  (fun os started H enc _ => aparseTurns_lifted os started H enc)
end Go.Proofs.YtepebnblbheegaaGreatDoor
