/- BparseSays: the row. -/
import Derived.Test.YtbplbehhlbkklaaGreatDoorGZB
import Derived.LaidSub
import Derived.Lay
import Derived.Handed
import Derived.Test.YtbplbehhlbkklaaGreatDoorGLawSays
import Derived.Test.YtbplbehhlbkklaaGreatDoorGHandedZ
namespace Go.Proofs.YtbplbehhlbkklaaGreatDoor
set_option maxRecDepth 100000
open Go Go.ChangeShapes Go.WideShapes Go.ChangeAt Go.RowKit
open Go.ChangeMaps (open_string shut_string)
theorem own_bparseSays:ownKnob Tryz.prog.godebug=none:=by kernel_rfl
theorem bparseSays_door (os:Os)(args:Array Value):laidMetH Tryz.prog Rows.bparseSaysRow.laid ((World.laidAll Tryz.prog os Rows.bparseSaysRow.laid).forCall (fun _ _=>0) ⟨#[],args,[]⟩).memory:=by
 rw[MakeChecks.laidMetH_plain _ _ _ (by kernel_rfl)]
 exact laidMet_laidAll _ (by kernel_rfl) (by kernel_rfl)
theorem bparseSays_lifted (os:Os)(started:os.Started)(H:Type)(enc:TypeId×Value→H) :
  ReturnsInHanded {} Tryz.checked os 3 .any (fun w args=>(Rows.bparseSaysSpec.pre enc Tryz.prog Tryz.f3 [] false w args∧laidMetH Tryz.prog Rows.bparseSaysRow.laid w)∧sizedMet enc Tryz.prog Tryz.f3 (OpenSpec.ofChange Rows.bparseSaysSpec) false w args)
   (Rows.bparseSaysSpec.post enc Tryz.prog Tryz.f3 false true false false):=by
 refine handed_sized (C:=Tryz.checked) (X:=fun w _=>laidMetH Tryz.prog Rows.bparseSaysRow.laid w) (fun _ _ _ hh h=>h.of_heap hh) own_bparseSays started (by kernel_rfl) Tryz.func3
  (ChangeSpec.witness_shaped (enc:=enc) (C:=Tryz.checked) (os:=os) (X:=fun w _=>laidMetH Tryz.prog Rows.bparseSaysRow.laid w) false (World.laidAll Tryz.prog os Rows.bparseSaysRow.laid) #[.string ⟨#[]⟩] 8 (World.laidAll_os _ _ _) (World.shaped_of_ZipB (by kernel_rfl) (by kernel_rfl)) (by kernel_rfl) (by kernel_rfl) (by kernel_rfl) (bparseSays_door os _)) ?_
 intro W base args ds gs before hsh hval0 hW hL hZ;obtain⟨sent,hS⟩:=sents_row (l:=Rows.bparseSaysRow.laid) (by kernel_rfl) hL
 obtain⟨mx,hmx⟩:=Tryz.laysM219.s1_3 W hsh;have hval:∀ (j:Nat) t v,Tryz.f3.params[j]?=some t→args[j]?=some v→Value.okWide Tryz.prog W .any base t v:=hval0;have hW':=hW;obtain⟨p,q,hA0,hV,rfl,hfz,hnd⟩:=hW;have hA:DataW.TrodAll enc Tryz.prog W 0 (fun _=>true) true Tryz.f3.params.toList args.toList ds p:=hA0
 rw[Tryz.params3] at hA hval;obtain⟨v0,d0,rfl,rfl,h0⟩:=trodAll_one hA;obtain⟨rfl,rfl⟩:=trodVars_none hV;obtain⟨s0,rfl,rfl,rfl,hs0⟩:=open_string Tryz.underlying9 (hval 0 9 v0 rfl rfl) h0
 have hsz:s0.size≤140737488355328:=by
  obtain⟨ds',gs',before',hW9,hall⟩:=hZ;obtain⟨p',q',hA9,hV9,rfl,-,-⟩:=hW9;have hA9:DataW.TrodAll enc Tryz.prog W 0 (fun _=>true) true Tryz.f3.params.toList [Value.string s0] ds' p':=hA9
  rw[Tryz.params3] at hA9 hall;obtain⟨v1,d1,hv1,rfl,h1⟩:=trodAll_one hA9;obtain⟨rfl,rfl⟩:=trodVars_none hV9
  cases hv1
  obtain⟨s1,hs1,rfl,-,-⟩:=open_string Tryz.underlying9 (hval 0 9 _ rfl rfl) h1
  cases hs1
  have h9:=List.all_eq_true.1 hall s0.data.toList.length (List.Mem.head _);rw[decide_eq_true_eq,size_eq] at h9;unfold reachBytes at h9;omega
 simp only[List.append_nil] at hW';refine (bparseSays_any s0 W sent hS ⟨mx,hmx⟩ hsz).mono fun e W' ⟨he,hb⟩=>?_
 subst he;exact⟨_,rfl,law_post hW' rfl rfl Tryz.underlying4 (fun _ _=>trodAll_mk1 (shut_string Tryz.underlying9 hs0)) rfl rfl hb⟩
theorem bparseSays_j1:(Rows.bparseSaysRow.inPlace==Tryz.prog.inPlace 3)=true:=by kernel_rfl
theorem bparseSays_j2:(Rows.bparseSaysRow.unfollowed==Tryz.prog.unfollowed 3)=true:=by kernel_rfl
theorem bparseSays_j3:(Rows.bparseSaysRow.recurses==Tryz.prog.recurses 3)=true:=by kernel_rfl
theorem bparseSays_j4:(Rows.bparseSaysRow.named==Tryz.prog.varsNamed 3)=true:=by kernel_rfl
theorem bparseSays_j:joinedFacts Tryz.prog 3 Tryz.f3 Rows.bparseSaysSpec Rows.bparseSaysRow=true:=by
 unfold joinedFacts;rw[bparseSays_j1,bparseSays_j2,bparseSays_j3,bparseSays_j4];kernel_rfl
theorem bparseSays_holds:Rows.BparseSaysSaid :=
 OpenClaim.holds_of_wide 3 Tryz.f3 rfl rfl rfl rfl rfl rfl rfl ⟨rfl,rfl,rfl,rfl,rfl⟩ rfl rfl rfl rfl rfl (by kernel_rfl) Tryz.func3 bparseSays_j
  (of_decide_eq_true (by kernel_rfl)) (by unfold Func.isWrapper;first | (rw[if_pos (by decide +kernel)];kernel_rfl) | (rw[if_neg (by decide +kernel)];exact⟨rfl,rfl⟩))
  (fun os started H enc _=>bparseSays_lifted os started H enc)
end Go.Proofs.YtbplbehhlbkklaaGreatDoor
