/- AparseGroups: the row. -/
import Derived.Test.YtepebnblbheegaaGreatDoorGZB
import Derived.LaidSub
import Derived.Lay
import Derived.Handed
import Derived.Test.YtepebnblbheegaaGreatDoorGLawGroupsA
namespace Go.Proofs.YtepebnblbheegaaGreatDoor
set_option maxRecDepth 100000
open Go Go.ChangeShapes Go.WideShapes Go.ChangeAt Go.RowKit
open Go.ChangeMaps (open_string shut_string)
theorem own_aparseGroups:ownKnob Tryz.prog.godebug=none:=by kernel_rfl
theorem aparseGroups_door (os:Os) (args:Array Value):laidMetH Tryz.prog Rows.aparseGroupsRow.laid ((etWorld os Rows.aparseGroupsRow.laid).forCall (fun _ _=>0) ⟨#[],args,[]⟩).memory:=by
 exact laidMetH_of_parts (et_laid _ (by kernel_rfl) (by kernel_rfl)) (by kernel_rfl)
theorem aparseGroups_lifted (os:Os) (started:os.Started) (H:Type) (enc:TypeId × Value→H) :
  ReturnsInHanded {} Tryz.checked os 14 .any (fun w args=>(Rows.aparseGroupsSpec.pre enc Tryz.prog Tryz.f14 [] false w args∧laidMetH Tryz.prog Rows.aparseGroupsRow.laid w)∧sizedMet enc Tryz.prog Tryz.f14 (OpenSpec.ofChange Rows.aparseGroupsSpec) false w args)
   (Rows.aparseGroupsSpec.post enc Tryz.prog Tryz.f14 false true false false):=by
 refine handed_shaped (C:=Tryz.checked) (X:=fun w _=>laidMetH Tryz.prog Rows.aparseGroupsRow.laid w) (fun _ _ _ hh h=>h.of_heap hh) own_aparseGroups started (by kernel_rfl) Tryz.func14
  (ChangeSpec.witness_shaped (enc:=enc) (C:=Tryz.checked) (os:=os) (X:=fun w _=>laidMetH Tryz.prog Rows.aparseGroupsRow.laid w) false (etWorld os Rows.aparseGroupsRow.laid) #[.string ⟨#[]⟩,.string ⟨#[]⟩] 8 (etWorld_os _ _) (World.shaped_of_ZipB (by kernel_rfl) (by kernel_rfl)) (by kernel_rfl) (by kernel_rfl) (by kernel_rfl) (aparseGroups_door os _)) ?_
 intro W base args ds gs before hsh hval0 hW hL
 obtain ⟨sent,hS⟩:=sents_row (l:=Rows.aparseGroupsRow.laid.filter keepEt) (by kernel_rfl) (laidMetH.filter keepEt hL)
 have het:=et_cell (l:=Rows.aparseGroupsRow.laid) (List.Mem.head _) hL
 obtain ⟨mx,hmx⟩:=Tryz.laysM219.s1_3 W hsh
 have hval:∀ (j:Nat) t v,Tryz.f14.params[j]?=some t→args[j]?=some v→Value.okWide Tryz.prog W .any base t v:=hval0
 have hW':=hW
 obtain ⟨p,q,hA0,hV,rfl,hfz,hnd⟩:=hW
 have hA:DataW.TrodAll enc Tryz.prog W 0 (fun _=>true) true Tryz.f14.params.toList args.toList ds p:=hA0
 rw [Tryz.params14] at hA hval
 obtain ⟨v0,v1,d0,d1,p0,p1,rfl,rfl,rfl,h0,h1⟩:=trodAll_two hA
 obtain ⟨rfl,rfl⟩:=trodVars_none hV
 obtain ⟨s0,rfl,rfl,rfl,hs0⟩:=open_string Tryz.underlying9 (hval 0 9 v0 rfl rfl) h0
 obtain ⟨s1,rfl,rfl,rfl,hs1⟩:=open_string Tryz.underlying9 (hval 1 9 v1 rfl rfl) h1
 simp only [List.append_nil] at hW'
 refine (groupsLawA_all s0 s1 W sent hS ⟨mx,hmx⟩ het).mono fun e W' ⟨he,hb⟩=>?_
 subst he
 exact ⟨_,rfl,law_post hW' rfl rfl Tryz.underlying4 (fun _ _=>trodAll_mk2 (shut_string Tryz.underlying9 hs0) (shut_string Tryz.underlying9 hs1)) rfl rfl hb⟩
theorem aparseGroups_j1:(Rows.aparseGroupsRow.inPlace == Tryz.prog.inPlace 14)=true:=by kernel_rfl
theorem aparseGroups_j2:(Rows.aparseGroupsRow.unfollowed == Tryz.prog.unfollowed 14)=true:=by kernel_rfl
theorem aparseGroups_j3:(Rows.aparseGroupsRow.recurses == Tryz.prog.recurses 14)=true:=by kernel_rfl
theorem aparseGroups_j4:(Rows.aparseGroupsRow.named == Tryz.prog.varsNamed 14)=true:=by kernel_rfl
theorem aparseGroups_j:joinedFacts Tryz.prog 14 Tryz.f14 Rows.aparseGroupsSpec Rows.aparseGroupsRow=true:=by
 unfold joinedFacts
 rw [aparseGroups_j1,aparseGroups_j2,aparseGroups_j3,aparseGroups_j4]
 kernel_rfl
theorem aparseGroups_holds:Rows.AparseGroupsSaid :=
 OpenClaim.holds_of_wide 14 Tryz.f14 rfl rfl rfl rfl rfl rfl rfl ⟨rfl,rfl,rfl,rfl,rfl⟩ rfl rfl rfl rfl rfl (by kernel_rfl) Tryz.func14 aparseGroups_j
  (of_decide_eq_true (by kernel_rfl)) (by unfold Func.isWrapper; first | (rw [if_pos (by decide +kernel)]; kernel_rfl) | (rw [if_neg (by decide +kernel)]; exact ⟨rfl,rfl⟩))
  (fun os started H enc _=>aparseGroups_lifted os started H enc)
end Go.Proofs.YtepebnblbheegaaGreatDoor
