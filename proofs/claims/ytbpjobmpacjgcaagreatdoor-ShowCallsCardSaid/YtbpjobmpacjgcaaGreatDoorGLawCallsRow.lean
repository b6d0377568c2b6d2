/- ShowCalls: the row. -/
import Derived.Test.YtbpjobmpacjgcaaGreatDoorGZB
import Derived.LaidSub
import Derived.Lay
import Derived.Handed
import Derived.SliceStrings
import Derived.ChangeSlices
import Derived.WideKeyArgs
import Derived.MakeChecks
import Derived.Test.YtbpjobmpacjgcaaGreatDoorGHandleApi
import Derived.Test.YtbpjobmpacjgcaaGreatDoorGLawCalls
namespace Go.Proofs.YtbpjobmpacjgcaaGreatDoor
set_option maxRecDepth 100000
open Go Go.ChangeShapes Go.WideShapes Go.ChangeAt Go.RowKit
open Go.ChangeMaps (open_string shut_string)
theorem Fd:ownKnob Tryz.prog.godebug=none:=by kernel_rfl
theorem E7 (os:Os)(args:Array Value):laidMetH Tryz.prog Rows.showCallsRow.laid ((y7 os Rows.showCallsRow.laid).forCall (fun _ _=>0) ⟨#[],args,[]⟩).memory:=by
 exact laidMetH_of_parts (Mf _ (by kernel_rfl) (by kernel_rfl)) (by kernel_rfl)
theorem ES (os:Os)(started:os.Started)(H:Type)(enc:TypeId×Value→H) :
  ReturnsInHanded {} Tryz.checked os 3 .any (fun w args=>(Rows.showCallsSpec.pre enc Tryz.prog Tryz.f3 [] false w args∧laidMetH Tryz.prog Rows.showCallsRow.laid w)∧sizedMet enc Tryz.prog Tryz.f3 (OpenSpec.ofChange Rows.showCallsSpec) false w args)
   (Rows.showCallsSpec.post enc Tryz.prog Tryz.f3 false true false false):=by
 refine Fc (C:=Tryz.checked) (X:=fun w _=>laidMetH Tryz.prog Rows.showCallsRow.laid w) (fun _ _ _ hh h=>h.of_heap hh) Fd started (by kernel_rfl) Tryz.func3
  (ChangeSpec.witness_shaped (enc:=enc) (C:=Tryz.checked) (os:=os) (X:=fun w _=>laidMetH Tryz.prog Rows.showCallsRow.laid w) false (y7 os Rows.showCallsRow.laid) #[.slice none 0 0,.slice none 0 0,.bool false] 8 (Jj _ _) (World.shaped_of_ZipB (by kernel_rfl) (by kernel_rfl)) (by kernel_rfl) (by kernel_rfl) (by kernel_rfl) (E7 os _)) ?_
 intro W base args ds gs before hsh hval0 hW hL;obtain⟨sent,hS⟩:=JA (l:=Rows.showCallsRow.laid.filter Ea) (by kernel_rfl) (laidMetH.filter Ea hL)
 have het:=Mg (l:=Rows.showCallsRow.laid) (.tail _ (.tail _ (.tail _ (.tail _ (.head _))))) hL;obtain⟨mx,hmx⟩:=Tryz.laysM219.s1_3 W hsh;have hval:∀ (j:Nat) t v,Tryz.f3.params[j]?=some t→args[j]?=some v→Value.okWide Tryz.prog W .any base t v:=hval0;have hW':=hW;obtain⟨p,q,hA0,hV,rfl,hfz,hnd⟩:=hW;have hA:DataW.TrodAll enc Tryz.prog W 0 (fun _=>true) true Tryz.f3.params.toList args.toList ds p:=hA0
 rw[Tryz.params3] at hA hval;obtain⟨v0,v1,v2,d0,d1,d2,p0,p1,p2,rfl,rfl,rfl,h0,h1,h2⟩:=trodAll_three hA;obtain⟨rfl,rfl⟩:=trodVars_none hV;obtain⟨a0,len0,cap0,rfl⟩:=okWide_slice Tryz.underlying22 (hval 0 22 v0 rfl rfl);obtain⟨a1,len1,cap1,rfl⟩:=okWide_slice Tryz.underlying23 (hval 1 23 v1 rfl rfl);obtain⟨b2,rfl,rfl,rfl⟩:=open_bool Tryz.underlying4 (hval 2 4 v2 rfl rfl) h2;simp only[List.append_nil] at hW';have hlt0:∀ x∈p0,x.block<W.heap.size:=fun x hx=>by simpa using hW'.lt x (by simp [hx])
 obtain⟨fuel0,hf0⟩:=id h0
 have hI0:len0≤cap0∧cap0≤maxLen∧Nj W a0 len0:=by
  rcases open_strings Tryz.underlying22 Tryz.underlying9 Di hf0 with ⟨hcs,hx⟩ | ⟨a,len',cap',ss,hcs,_,hl,hm,hz,hx,hcell,hwz⟩
  ·simp [Value.cells] at hcs
   obtain⟨rfl,rfl,rfl⟩:=hcs;exact⟨Nat.le_refl _,Nat.zero_le _,fun i hi=>absurd hi (by omega)⟩
  ·simp [Value.cells] at hcs
   obtain⟨rfl,rfl,rfl⟩:=hcs;simp only[if_true] at hz;refine ⟨hl,hm,fun i hi=>⟨a,ss.getD i ByteArray.empty,rfl,hcell i (by omega),?_⟩⟩
   have hm2:ss.getD i ByteArray.empty∈ss:=by
    rw[List.getD_eq_getElem?_getD,List.getElem?_eq_getElem (by omega)]
    exact List.getElem_mem _
   exact hwz _ hm2
 have hlt1:∀ x∈p1,x.block<W.heap.size:=fun x hx=>by simpa using hW'.lt x (by simp [hx])
 obtain⟨fuel1,hf1⟩:=id h1
 have hI1:len1≤cap1∧cap1≤maxLen∧Nk W a1 len1:=by
  rcases open_ints Tryz.underlying23 Tryz.underlying3 KE hf1 with ⟨hcs,hx⟩ | ⟨a,len',cap',zs,hcs,_,hl,hm,hz,hx,hcell,hwz⟩
  ·simp [Value.cells] at hcs
   obtain⟨rfl,rfl,rfl⟩:=hcs;exact⟨Nat.le_refl _,Nat.zero_le _,fun i hi=>absurd hi (by omega)⟩
  ·simp [Value.cells] at hcs
   obtain⟨rfl,rfl,rfl⟩:=hcs;simp only[if_true] at hz;refine ⟨hl,hm,fun i hi=>⟨a,zs.getD i 0,rfl,hcell i (by omega),?_⟩⟩
   have hm2:zs.getD i 0∈zs:=by
    rw[List.getD_eq_getElem?_getD,List.getElem?_eq_getElem (by omega)]
    exact List.getElem_mem _
   have hw2:=hwz _ hm2;have h3:IntKind.i64.min≤zs.getD i 0∧zs.getD i 0≤9223372036854775807:=by simpa [Lit.wf] using hw2
   have h4:IntKind.i64.min = -9223372036854775808:=by decide
   constructor <;> omega
 refine (FH a0 len0 cap0 a1 len1 cap1 b2 sent W hS ⟨mx,hmx⟩ het hI0.1 hI0.2.1 hI0.2.2 hI1.1 hI1.2.1 hI1.2.2).mono fun e W' ⟨he,hb⟩=>?_
 subst he
 exact⟨_,rfl,Ls hW' rfl rfl Tryz.underlying4 (fun sp hsp=>by
  have h9:=trodAll_mk3 (WideElems.Trod_stays DD (by kernel_rfl) (of_decide_eq_true (by kernel_rfl)) h0 (fun x hx=>hb.same (hlt0 x hx)) (fun x hx=>hsp x (by simp [hx]))) (WideElems.Trod_stays DD (by kernel_rfl) (of_decide_eq_true (by kernel_rfl)) h1 (fun x hx=>hb.same (hlt1 x hx)) (fun x hx=>hsp x (by simp [hx]))) (shut_bool Tryz.underlying4 b2)
  rw[List.append_nil] at h9;exact h9) rfl rfl hb⟩
theorem FM:(Rows.showCallsRow.inPlace==Tryz.prog.inPlace 3)=true:=by kernel_rfl
theorem Gl:(Rows.showCallsRow.unfollowed==Tryz.prog.unfollowed 3)=true:=by kernel_rfl
theorem Gx:(Rows.showCallsRow.recurses==Tryz.prog.recurses 3)=true:=by kernel_rfl
theorem Gk:(Rows.showCallsRow.named==Tryz.prog.varsNamed 3)=true:=by kernel_rfl
theorem Hq:joinedFacts Tryz.prog 3 Tryz.f3 Rows.showCallsSpec Rows.showCallsRow=true:=by
 unfold joinedFacts;rw[FM,Gl,Gx,Gk];kernel_rfl
theorem EU:Rows.ShowCallsSaid :=
 OpenClaim.holds_of_wide 3 Tryz.f3 rfl rfl rfl rfl rfl rfl rfl ⟨rfl,rfl,rfl,rfl,rfl⟩ rfl rfl rfl rfl rfl (by kernel_rfl) Tryz.func3 Hq
  (of_decide_eq_true (by kernel_rfl)) (by unfold Func.isWrapper;first | (rw[if_pos (by decide +kernel)];kernel_rfl) | (rw[if_neg (by decide +kernel)];exact⟨rfl,rfl⟩))
  (fun os started H enc _=>ES os started H enc)
end Go.Proofs.YtbpjobmpacjgcaaGreatDoor
