/- AparseSettings: the row. -/
import Derived.Test.YtbfeoinoepoiaaaGreatDoorGZB
import Derived.LaidSub
import Derived.Lay
import Derived.Handed
import Derived.SliceStrings
import Derived.WideKeyArgs
import Derived.MakeChecks
import Derived.Test.YtbfeoinoepoiaaaGreatDoorGLawSetsA
namespace Go.Proofs.YtbfeoinoepoiaaaGreatDoor
set_option maxRecDepth 100000
open Go Go.ChangeShapes Go.WideShapes Go.ChangeAt Go.RowKit
open Go.ChangeMaps (open_string shut_string)
theorem own_aparseSettings:ownKnob Tryz.prog.godebug=none:=by kernel_rfl
theorem aparseSettings_door (os:Os) (args:Array Value):laidMetH Tryz.prog Rows.aparseSettingsRow.laid ((etWorld os Rows.aparseSettingsRow.laid).forCall (fun _ _=>0) ⟨#[],args,[]⟩).memory:=by
 exact laidMetH_of_parts (et_laid _ (by kernel_rfl) (by kernel_rfl)) (by kernel_rfl)
theorem aparseSettings_lifted (os:Os) (started:os.Started) (H:Type) (enc:TypeId × Value→H) :
  ReturnsInHanded {} Tryz.checked os 4 .any (fun w args=>(Rows.aparseSettingsSpec.pre enc Tryz.prog Tryz.f4 [] false w args∧laidMetH Tryz.prog Rows.aparseSettingsRow.laid w)∧sizedMet enc Tryz.prog Tryz.f4 (OpenSpec.ofChange Rows.aparseSettingsSpec) false w args)
   (Rows.aparseSettingsSpec.post enc Tryz.prog Tryz.f4 false true false false):=by
 refine handed_shaped (C:=Tryz.checked) (X:=fun w _=>laidMetH Tryz.prog Rows.aparseSettingsRow.laid w) (fun _ _ _ hh h=>h.of_heap hh) own_aparseSettings started (by kernel_rfl) Tryz.func4
  (ChangeSpec.witness_shaped (enc:=enc) (C:=Tryz.checked) (os:=os) (X:=fun w _=>laidMetH Tryz.prog Rows.aparseSettingsRow.laid w) false (etWorld os Rows.aparseSettingsRow.laid) #[.slice none 0 0,.int .i64 0] 8 (etWorld_os _ _) (World.shaped_of_ZipB (by kernel_rfl) (by kernel_rfl)) (by kernel_rfl) (by kernel_rfl) (by kernel_rfl) (aparseSettings_door os _)) ?_
 intro W base args ds gs before hsh hval0 hW hL
 obtain ⟨sent,hS⟩:=sents_row (l:=Rows.aparseSettingsRow.laid.filter keepEt) (by kernel_rfl) (laidMetH.filter keepEt hL)
 have het:=et_cell (l:=Rows.aparseSettingsRow.laid) (List.Mem.head _) hL
 obtain ⟨mx,hmx⟩:=Tryz.laysM219.s1_3 W hsh
 have hval:∀ (j:Nat) t v,Tryz.f4.params[j]?=some t→args[j]?=some v→Value.okWide Tryz.prog W .any base t v:=hval0
 have hW':=hW
 obtain ⟨p,q,hA0,hV,rfl,hfz,hnd⟩:=hW
 have hA:DataW.TrodAll enc Tryz.prog W 0 (fun _=>true) true Tryz.f4.params.toList args.toList ds p:=hA0
 rw [Tryz.params4] at hA hval
 obtain ⟨v0,v1,d0,d1,p0,p1,rfl,rfl,rfl,h0,h1⟩:=trodAll_two hA
 obtain ⟨rfl,rfl⟩:=trodVars_none hV
 obtain ⟨a0,len0,cap0,rfl⟩:=okWide_slice Tryz.underlying36 (hval 0 36 v0 rfl rfl)
 obtain ⟨n1,rfl,rfl,rfl,hn1⟩:=open_int Tryz.underlying3 (hval 1 3 v1 rfl rfl) h1
 simp only [List.append_nil] at hW'
 have hlt0:∀ x∈p0,x.block<W.heap.size:=fun x hx=>by simpa using hW'.lt x (by simpa using hx)
 obtain ⟨fuel0,hf0⟩:=id h0
 have hI0:len0≤cap0∧cap0≤maxLen∧StrsAt W a0 len0:=by
  rcases open_strings Tryz.underlying36 Tryz.underlying9 cellsStr hf0 with ⟨hcs,hx⟩ | ⟨a,len',cap',ss,hcs,_,hl,hm,hz,hx,hcell,hwz⟩
  ·simp [Value.cells] at hcs
   obtain ⟨rfl,rfl,rfl⟩:=hcs
   exact ⟨Nat.le_refl _,Nat.zero_le _,fun i hi=>absurd hi (by omega)⟩
  ·simp [Value.cells] at hcs
   obtain ⟨rfl,rfl,rfl⟩:=hcs
   simp only [if_true] at hz
   refine ⟨hl,hm,fun i hi=>⟨a,ss.getD i ByteArray.empty,rfl,hcell i (by omega),?_⟩⟩
   have hm2:ss.getD i ByteArray.empty∈ss:=by
    rw [List.getD_eq_getElem?_getD,List.getElem?_eq_getElem (by omega)]
    exact List.getElem_mem _
   exact hwz _ hm2
 refine (setsLawA_all a0 len0 cap0 n1 W sent hS ⟨mx,hmx⟩ het hI0.1 hI0.2.1 hI0.2.2).mono fun e W' ⟨he,hb⟩=>?_
 subst he
 exact ⟨_,rfl,law_post hW' rfl rfl Tryz.underlying4 (fun sp hsp=>by
  have h9:=trodAll_mk2 (WideElems.Trod_stays laidOutP (by kernel_rfl) (of_decide_eq_true (by kernel_rfl)) h0 (fun x hx=>hb.same (hlt0 x hx)) (fun x hx=>hsp x (by simpa using hx))) (shut_int Tryz.underlying3 hn1)
  rw [List.append_nil] at h9
  exact h9) rfl rfl hb⟩
theorem aparseSettings_j1:(Rows.aparseSettingsRow.inPlace == Tryz.prog.inPlace 4)=true:=by kernel_rfl
theorem aparseSettings_j2:(Rows.aparseSettingsRow.unfollowed == Tryz.prog.unfollowed 4)=true:=by kernel_rfl
theorem aparseSettings_j3:(Rows.aparseSettingsRow.recurses == Tryz.prog.recurses 4)=true:=by kernel_rfl
theorem aparseSettings_j4:(Rows.aparseSettingsRow.named == Tryz.prog.varsNamed 4)=true:=by kernel_rfl
theorem aparseSettings_j:joinedFacts Tryz.prog 4 Tryz.f4 Rows.aparseSettingsSpec Rows.aparseSettingsRow=true:=by
 unfold joinedFacts
 rw [aparseSettings_j1,aparseSettings_j2,aparseSettings_j3,aparseSettings_j4]
 kernel_rfl
theorem aparseSettings_holds:Rows.AparseSettingsSaid :=
 OpenClaim.holds_of_wide 4 Tryz.f4 rfl rfl rfl rfl rfl rfl rfl ⟨rfl,rfl,rfl,rfl,rfl⟩ rfl rfl rfl rfl rfl (by kernel_rfl) Tryz.func4 aparseSettings_j
  (of_decide_eq_true (by kernel_rfl)) (by unfold Func.isWrapper; first | (rw [if_pos (by decide +kernel)]; kernel_rfl) | (rw [if_neg (by decide +kernel)]; exact ⟨rfl,rfl⟩))
  (fun os started H enc _=>aparseSettings_lifted os started H enc)
end Go.Proofs.YtbfeoinoepoiaaaGreatDoor
