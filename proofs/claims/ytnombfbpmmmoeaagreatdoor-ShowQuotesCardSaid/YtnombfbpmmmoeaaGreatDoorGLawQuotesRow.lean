/- ShowQuotes: the row. -/
import Derived.Test.YtnombfbpmmmoeaaGreatDoorGZB
import Derived.LaidSub
import Derived.Lay
import Derived.Handed
import Derived.Test.YtnombfbpmmmoeaaGreatDoorGHandleApi
import Derived.Test.YtnombfbpmmmoeaaGreatDoorGZT
namespace Go.Proofs.YtnombfbpmmmoeaaGreatDoor
set_option maxRecDepth 100000
open Go Go.ChangeShapes Go.WideShapes Go.ChangeAt Go.RowKit
open Go.ChangeMaps (open_string shut_string)
theorem DH:ownKnob Tryz.prog.godebug=none:=by kernel_rfl
theorem DC (os:Os)(args:Array Value):laidMetH Tryz.prog Rows.showQuotesRow.laid ((xZ os Rows.showQuotesRow.laid).forCall (fun _ _=>0) ⟨#[],args,[]⟩).memory:=by
 exact laidMetH_of_parts (KE _ (by kernel_rfl) (by kernel_rfl)) (by kernel_rfl)
theorem Du (os:Os)(started:os.Started)(H:Type)(enc:TypeId×Value→H) :
  ReturnsInHanded {} Tryz.checked os 3 .any (fun w args=>(Rows.showQuotesSpec.pre enc Tryz.prog Tryz.f3 [] false w args∧laidMetH Tryz.prog Rows.showQuotesRow.laid w)∧sizedMet enc Tryz.prog Tryz.f3 (OpenSpec.ofChange Rows.showQuotesSpec) false w args)
   (Rows.showQuotesSpec.post enc Tryz.prog Tryz.f3 false true false false):=by
 refine D4 (C:=Tryz.checked) (X:=fun w _=>laidMetH Tryz.prog Rows.showQuotesRow.laid w) (fun _ _ _ hh h=>h.of_heap hh) DH started (by kernel_rfl) Tryz.func3
  (ChangeSpec.witness_shaped (enc:=enc) (C:=Tryz.checked) (os:=os) (X:=fun w _=>laidMetH Tryz.prog Rows.showQuotesRow.laid w) false (xZ os Rows.showQuotesRow.laid) #[.string ⟨#[]⟩,.string ⟨#[]⟩] 8 (Hp _ _) (World.shaped_of_ZipB (by kernel_rfl) (by kernel_rfl)) (by kernel_rfl) (by kernel_rfl) (by kernel_rfl) (DC os _)) ?_
 intro W base args ds gs before hsh hval0 hW hL;obtain⟨sent,hS⟩:=IE (l:=Rows.showQuotesRow.laid.filter CL) (by kernel_rfl) (laidMetH.filter CL hL)
 have het:=Kz (l:=Rows.showQuotesRow.laid) (.tail _ (.tail _ (.tail _ (.tail _ (.head _))))) hL;obtain⟨mx,hmx⟩:=Tryz.laysM219.s1_3 W hsh;have hval:∀ (j:Nat) t v,Tryz.f3.params[j]?=some t→args[j]?=some v→Value.okWide Tryz.prog W .any base t v:=hval0;have hW':=hW;obtain⟨p,q,hA0,hV,rfl,hfz,hnd⟩:=hW;have hA:DataW.TrodAll enc Tryz.prog W 0 (fun _=>true) true Tryz.f3.params.toList args.toList ds p:=hA0
 rw[Tryz.params3] at hA hval;obtain⟨v0,v1,d0,d1,p0,p1,rfl,rfl,rfl,h0,h1⟩:=trodAll_two hA;obtain⟨rfl,rfl⟩:=trodVars_none hV;obtain⟨s0,rfl,rfl,rfl,hs0⟩:=open_string Tryz.underlying9 (hval 0 9 v0 rfl rfl) h0;obtain⟨s1,rfl,rfl,rfl,hs1⟩:=open_string Tryz.underlying9 (hval 1 9 v1 rfl rfl) h1;simp only[List.append_nil] at hW';refine (Ei s0 s1 sent W hS ⟨mx,hmx⟩ het).mono fun e W' ⟨he,hb⟩=>?_
 subst he;exact⟨_,rfl,J2 hW' rfl rfl Tryz.underlying4 (fun _ _=>trodAll_mk2 (shut_string Tryz.underlying9 hs0) (shut_string Tryz.underlying9 hs1)) rfl rfl hb⟩
theorem DU:(Rows.showQuotesRow.inPlace==Tryz.prog.inPlace 3)=true:=by kernel_rfl
theorem En:(Rows.showQuotesRow.unfollowed==Tryz.prog.unfollowed 3)=true:=by kernel_rfl
theorem Ek:(Rows.showQuotesRow.recurses==Tryz.prog.recurses 3)=true:=by kernel_rfl
theorem D6:(Rows.showQuotesRow.named==Tryz.prog.varsNamed 3)=true:=by kernel_rfl
theorem EP:joinedFacts Tryz.prog 3 Tryz.f3 Rows.showQuotesSpec Rows.showQuotesRow=true:=by
 unfold joinedFacts;rw[DU,En,Ek,D6];kernel_rfl
theorem Dx:Rows.ShowQuotesSaid :=
 OpenClaim.holds_of_wide 3 Tryz.f3 rfl rfl rfl rfl rfl rfl rfl ⟨rfl,rfl,rfl,rfl,rfl⟩ rfl rfl rfl rfl rfl (by kernel_rfl) Tryz.func3 EP
  (of_decide_eq_true (by kernel_rfl)) (by unfold Func.isWrapper;first | (rw[if_pos (by decide +kernel)];kernel_rfl) | (rw[if_neg (by decide +kernel)];exact⟨rfl,rfl⟩))
  (fun os started H enc _=>Du os started H enc)
end Go.Proofs.YtnombfbpmmmoeaaGreatDoor
