/- AparseChains: the row. -/
import Derived.Test.YtepebnblbheegaaGreatDoorZB
import Derived.LaidSub
import Derived.Lay
import Derived.Handed
import Derived.Deep.Grids
import Derived.ChangeSlices
import Derived.WideKeyArgs
import Derived.MakeChecks
import Derived.Test.YtepebnblbheegaaGreatDoorLawChainsA
namespace Go.Proofs.YtepebnblbheegaaGreatDoor
set_option maxRecDepth 100000
open Go Go.ChangeShapes Go.WideShapes Go.ChangeAt Go.RowKit
open Go.ChangeMaps (open_string shut_string)
open Go.Deep (open_bools)
theorem own_aparseChains : ownKnob Tryz.prog.godebug = none := by kernel_rfl
theorem aparseChains_door (os : Os) (args : Array Value) : laidMetH Tryz.prog Rows.aparseChainsRow.laid ((etWorld os Rows.aparseChainsRow.laid).forCall (fun _ _ => 0) ⟨#[], args, []⟩).memory := by
 exact laidMetH_of_parts (et_laid _ (by kernel_rfl) (by kernel_rfl)) (by kernel_rfl)
theorem aparseChains_lifted (os : Os) (started : os.Started) (H : Type) (enc : TypeId × Value → H) :
  ReturnsInHanded {} Tryz.checked os 11 .any (fun w args => (Rows.aparseChainsSpec.pre enc Tryz.prog Tryz.f11 [] false w args ∧ laidMetH Tryz.prog Rows.aparseChainsRow.laid w) ∧ sizedMet enc Tryz.prog Tryz.f11 (OpenSpec.ofChange Rows.aparseChainsSpec) false w args)
   (Rows.aparseChainsSpec.post enc Tryz.prog Tryz.f11 false true false false) := by
 refine handed_shaped (C := Tryz.checked) (X := fun w _ => laidMetH Tryz.prog Rows.aparseChainsRow.laid w) (fun _ _ _ hh h => h.of_heap hh) own_aparseChains started (by kernel_rfl) Tryz.func11
  (ChangeSpec.witness_shaped (enc := enc) (C := Tryz.checked) (os := os) (X := fun w _ => laidMetH Tryz.prog Rows.aparseChainsRow.laid w) false (etWorld os Rows.aparseChainsRow.laid) #[.slice none 0 0, .slice none 0 0] 8 (etWorld_os _ _) (World.shaped_of_ZipB (by kernel_rfl) (by kernel_rfl)) (by kernel_rfl) (by kernel_rfl) (by kernel_rfl) (aparseChains_door os _)) ?_
 intro W base args ds gs before hsh hval0 hW hL
 obtain ⟨sent, hS⟩ := sents_row (l := Rows.aparseChainsRow.laid.filter keepEt) (by kernel_rfl) (laidMetH.filter keepEt hL)
 have het := et_cell (l := Rows.aparseChainsRow.laid) (List.Mem.head _) hL
 obtain ⟨mx, hmx⟩ := Tryz.laysM219.s1_3 W hsh
 have hval : ∀ (j : Nat) t v, Tryz.f11.params[j]? = some t → args[j]? = some v → Value.okWide Tryz.prog W .any base t v := hval0
 have hW' := hW
 obtain ⟨p, q, hA0, hV, rfl, hfz, hnd⟩ := hW
 have hA : DataW.TrodAll enc Tryz.prog W 0 (fun _ => true) true Tryz.f11.params.toList args.toList ds p := hA0
 rw [Tryz.params11] at hA hval
 obtain ⟨v0, v1, d0, d1, p0, p1, rfl, rfl, rfl, h0, h1⟩ := trodAll_two hA
 obtain ⟨rfl, rfl⟩ := trodVars_none hV
 obtain ⟨a0, len0, cap0, rfl⟩ := okWide_slice Tryz.underlying28 (hval 0 28 v0 rfl rfl)
 obtain ⟨a1, len1, cap1, rfl⟩ := okWide_slice Tryz.underlying43 (hval 1 43 v1 rfl rfl)
 simp only [List.append_nil] at hW'
 have hlt0 : ∀ x ∈ p0, x.block < W.heap.size := fun x hx => by simpa using hW'.lt x (by simp [hx])
 obtain ⟨fuel0, hf0⟩ := id h0
 have hI0 : len0 ≤ cap0 ∧ cap0 ≤ maxLen ∧ IntsAt W a0 len0 := by
  rcases open_ints Tryz.underlying28 Tryz.underlying3 cellsInt hf0 with ⟨hcs, hx⟩ | ⟨a, len', cap', zs, hcs, _, hl, hm, hz, hx, hcell, hwz⟩
  ·simp [Value.cells] at hcs
   obtain ⟨rfl, rfl, rfl⟩ := hcs
   exact ⟨Nat.le_refl _, Nat.zero_le _, fun i hi => absurd hi (by omega)⟩
  ·simp [Value.cells] at hcs
   obtain ⟨rfl, rfl, rfl⟩ := hcs
   simp only [if_true] at hz
   refine ⟨hl, hm, fun i hi => ⟨a, zs.getD i 0, rfl, hcell i (by omega), ?_⟩⟩
   have hm2 : zs.getD i 0 ∈ zs := by
    rw [List.getD_eq_getElem?_getD, List.getElem?_eq_getElem (by omega)]
    exact List.getElem_mem _
   have hw2 := hwz _ hm2
   have h3 : IntKind.i64.min ≤ zs.getD i 0 ∧ zs.getD i 0 ≤ 9223372036854775807 := by simpa [Lit.wf] using hw2
   have h4 : IntKind.i64.min = -9223372036854775808 := by decide
   constructor <;> omega
 have hlt1 : ∀ x ∈ p1, x.block < W.heap.size := fun x hx => by simpa using hW'.lt x (by simp [hx])
 obtain ⟨fuel1, hf1⟩ := id h1
 have hI1 : len1 ≤ cap1 ∧ cap1 ≤ maxLen ∧ BoolsAt W a1 len1 := by
  rcases open_bools Tryz.underlying43 Tryz.underlying4 (show Tryz.prog.cellsOf 4 = 1 by kernel_rfl) hf1 with ⟨hcs, hx⟩ | ⟨a, len', cap', B, hcs, _, hl, hm, hx, hcell⟩
  ·simp [Value.cells] at hcs
   obtain ⟨rfl, rfl, rfl⟩ := hcs
   exact ⟨Nat.le_refl _, Nat.zero_le _, fun i hi => absurd hi (by omega)⟩
  ·simp [Value.cells] at hcs
   obtain ⟨rfl, rfl, rfl⟩ := hcs
   exact ⟨hl, hm, fun i hi => ⟨a, B i, rfl, hcell i (by omega)⟩⟩
 refine (chainsLawA_all a0 len0 cap0 a1 len1 cap1 W sent hS ⟨mx, hmx⟩ het hI0.1 hI0.2.1 hI0.2.2 hI1.1 hI1.2.1 hI1.2.2).mono fun e W' ⟨he, hb⟩ => ?_
 subst he
 exact ⟨_, rfl, law_post hW' rfl rfl Tryz.underlying4 (fun sp hsp => trodAll_mk2 (WideElems.Trod_stays laidOutP (by kernel_rfl) (of_decide_eq_true (by kernel_rfl)) h0 (fun x hx => hb.same (hlt0 x hx)) (fun x hx => hsp x (by simp [hx]))) (WideElems.Trod_stays laidOutP (by kernel_rfl) (of_decide_eq_true (by kernel_rfl)) h1 (fun x hx => hb.same (hlt1 x hx)) (fun x hx => hsp x (by simp [hx])))) rfl rfl hb⟩
theorem aparseChains_j1 : (Rows.aparseChainsRow.inPlace == Tryz.prog.inPlace 11) = true := by kernel_rfl
theorem aparseChains_j2 : (Rows.aparseChainsRow.unfollowed == Tryz.prog.unfollowed 11) = true := by kernel_rfl
theorem aparseChains_j3 : (Rows.aparseChainsRow.recurses == Tryz.prog.recurses 11) = true := by kernel_rfl
theorem aparseChains_j4 : (Rows.aparseChainsRow.named == Tryz.prog.varsNamed 11) = true := by kernel_rfl
theorem aparseChains_j : joinedFacts Tryz.prog 11 Tryz.f11 Rows.aparseChainsSpec Rows.aparseChainsRow = true := by
 unfold joinedFacts
 rw [aparseChains_j1, aparseChains_j2, aparseChains_j3, aparseChains_j4]
 kernel_rfl
theorem aparseChains_holds : Rows.AparseChainsSaid :=
 OpenClaim.holds_of_wide 11 Tryz.f11 rfl rfl rfl rfl rfl rfl rfl ⟨rfl, rfl, rfl, rfl, rfl⟩ rfl rfl rfl rfl rfl (by kernel_rfl) Tryz.func11 aparseChains_j
  (of_decide_eq_true (by kernel_rfl)) (by unfold Func.isWrapper; first | (rw [if_pos (by decide +kernel)]; kernel_rfl) | (rw [if_neg (by decide +kernel)]; exact ⟨rfl, rfl⟩))
  (fun os started H enc _ => aparseChains_lifted os started H enc)
end Go.Proofs.YtepebnblbheegaaGreatDoor
