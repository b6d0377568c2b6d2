/- ShowNot: the row. -/
import Derived.Test.YtnombfbpmmmoeaaGreatDoorGZB
import Derived.LaidSub
import Derived.Lay
import Derived.Handed
import Derived.Test.YtnombfbpmmmoeaaGreatDoorGHandleApi
import Derived.Test.YtnombfbpmmmoeaaGreatDoorGLawNot
namespace Go.Proofs.YtnombfbpmmmoeaaGreatDoor
set_option maxRecDepth 100000
open Go Go.ChangeShapes Go.WideShapes Go.ChangeAt Go.RowKit
open Go.ChangeMaps (open_string shut_string)
theorem Mt:ownKnob Tryz.prog.godebug=none:=by kernel_rfl
theorem Mo (os:Os)(args:Array Value):laidMetH Tryz.prog Rows.showNotRow.laid ((xZ os Rows.showNotRow.laid).forCall (fun _ _=>0) ⟨#[],args,[]⟩).memory:=by
 exact laidMetH_of_parts (KE _ (by kernel_rfl) (by kernel_rfl)) (by kernel_rfl)
theorem Mh (os:Os)(started:os.Started)(H:Type)(enc:TypeId×Value→H) :
  ReturnsInHanded {} Tryz.checked os 5 .any (fun w args=>(Rows.showNotSpec.pre enc Tryz.prog Tryz.f5 [] false w args∧laidMetH Tryz.prog Rows.showNotRow.laid w)∧sizedMet enc Tryz.prog Tryz.f5 (OpenSpec.ofChange Rows.showNotSpec) false w args)
   (Rows.showNotSpec.post enc Tryz.prog Tryz.f5 false true false false):=by
 refine D4 (C:=Tryz.checked) (X:=fun w _=>laidMetH Tryz.prog Rows.showNotRow.laid w) (fun _ _ _ hh h=>h.of_heap hh) Mt started (by kernel_rfl) Tryz.func5
  (ChangeSpec.witness_shaped (enc:=enc) (C:=Tryz.checked) (os:=os) (X:=fun w _=>laidMetH Tryz.prog Rows.showNotRow.laid w) false (xZ os Rows.showNotRow.laid) #[.int .i64 0,.int .i64 0] 8 (Hp _ _) (World.shaped_of_ZipB (by kernel_rfl) (by kernel_rfl)) (by kernel_rfl) (by kernel_rfl) (by kernel_rfl) (Mo os _)) ?_
 intro W base args ds gs before hsh hval0 hW hL;obtain⟨sent,hS⟩:=IE (l:=Rows.showNotRow.laid.filter CL) (by kernel_rfl) (laidMetH.filter CL hL)
 have het:=Kz (l:=Rows.showNotRow.laid) (.tail _ (.tail _ (.tail _ (.tail _ (.head _))))) hL;obtain⟨mx,hmx⟩:=Tryz.laysM219.s1_3 W hsh;have hval:∀ (j:Nat) t v,Tryz.f5.params[j]?=some t→args[j]?=some v→Value.okWide Tryz.prog W .any base t v:=hval0;have hW':=hW;obtain⟨p,q,hA0,hV,rfl,hfz,hnd⟩:=hW;have hA:DataW.TrodAll enc Tryz.prog W 0 (fun _=>true) true Tryz.f5.params.toList args.toList ds p:=hA0
 rw[Tryz.params5] at hA hval;obtain⟨v0,v1,d0,d1,p0,p1,rfl,rfl,rfl,h0,h1⟩:=trodAll_two hA;obtain⟨rfl,rfl⟩:=trodVars_none hV;obtain⟨n0,rfl,rfl,rfl,hn0⟩:=open_int Tryz.underlying3 (hval 0 3 v0 rfl rfl) h0;obtain⟨n1,rfl,rfl,rfl,hn1⟩:=open_int Tryz.underlying3 (hval 1 3 v1 rfl rfl) h1;simp only[List.append_nil] at hW';refine (MM n0 n1 sent W hS ⟨mx,hmx⟩ het).mono fun e W' ⟨he,hb⟩=>?_
 subst he;exact⟨_,rfl,J2 hW' rfl rfl Tryz.underlying4 (fun _ _=>trodAll_mk2 (shut_int Tryz.underlying3 hn0) (shut_int Tryz.underlying3 hn1)) rfl rfl hb⟩
theorem ML:(Rows.showNotRow.inPlace==Tryz.prog.inPlace 5)=true:=by kernel_rfl
theorem MJ:(Rows.showNotRow.unfollowed==Tryz.prog.unfollowed 5)=true:=by kernel_rfl
theorem MC:(Rows.showNotRow.recurses==Tryz.prog.recurses 5)=true:=by kernel_rfl
theorem Mz:(Rows.showNotRow.named==Tryz.prog.varsNamed 5)=true:=by kernel_rfl
theorem MQ:joinedFacts Tryz.prog 5 Tryz.f5 Rows.showNotSpec Rows.showNotRow=true:=by
 unfold joinedFacts;rw[ML,MJ,MC,Mz];kernel_rfl
theorem Ml:Rows.ShowNotSaid :=
 OpenClaim.holds_of_wide 5 Tryz.f5 rfl rfl rfl rfl rfl rfl rfl ⟨rfl,rfl,rfl,rfl,rfl⟩ rfl rfl rfl rfl rfl (by kernel_rfl) Tryz.func5 MQ
  (of_decide_eq_true (by kernel_rfl)) (by unfold Func.isWrapper;first | (rw[if_pos (by decide +kernel)];kernel_rfl) | (rw[if_neg (by decide +kernel)];exact⟨rfl,rfl⟩))
  (fun os started H enc _=>Mh os started H enc)
end Go.Proofs.YtnombfbpmmmoeaaGreatDoor
