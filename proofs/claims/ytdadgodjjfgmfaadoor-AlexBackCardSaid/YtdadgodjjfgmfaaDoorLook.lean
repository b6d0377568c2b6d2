/- The last step of every row of this seat: the law has returned true, and nothing that lay in memory has turned. -/
import Derived.Test.YtdadgodjjfgmfaaDoorKit
import Derived.Test.YtdadgodjjfgmfaaDoorRows
import Derived.ProofKit
import Derived.LaidMore
import Derived.OpenShut
import Derived.Stop.Joined
import Derived.ChangeSame
import Derived.ChangeMaps5
namespace Go.Proofs.YtdadgodjjfgmfaaDoor
open Go Go.RowKit Go.WideShapes Go.ChangeShapes Go.ChangeAt

/-- A law's post, out of 'Below': its result is the one bool; its arguments read as they read. -/
theorem law_post {H : Type} {enc : TypeId × Value → H} {P : Program} {f : Func} {s : ChangeSpec} {apart fresh handsOn again : Bool} {W W' : World} {args : Array Value} {ds : List (DataW H)} {before : List MemPlace} {tb : TypeId}
    (hW : DataW.Whole enc P f.params.toList s.vars apart W args.toList ds [] before) (hvars : s.vars = []) (hrt : f.resultTypes = #[tb]) (htb : P.underlying tb = some .bool)
    (hargs : ∀ sp : Nat → Bool, (∀ p ∈ before, sp p.block = true) → DataW.TrodAll enc P W' 0 sp true f.params.toList args.toList (s.fn H (ds ++ [])).args before)
    (hr : (s.fn H (ds ++ [])).results = [.lit (.bool true)]) (hv : (s.fn H (ds ++ [])).vars = []) (hb : Below W.heap.size W W') :
    s.post enc P f apart fresh handsOn again W args (.bool true) W' := by
  have low : ∀ p ∈ before, p.block < W.heap.size := fun p hp => hW.lt p hp
  have res : ∀ (b : Nat) (sp : Nat → Bool) (hd : Bool), DataW.TrodAll enc P W' b sp hd f.resultTypes.toList ((Value.bool true).resultList f.resultTypes.size) (s.fn H (ds ++ [])).results [] := fun b sp hd => by
    rw [hrt, hr]
    exact trodAll_mk1 (shut_bool htb true)
  have nov : ∀ sp : Nat → Bool, DataW.TrodVars enc P W' sp s.vars (s.fn H (ds ++ [])).vars [] := fun sp => by
    rw [hvars, hv]
    exact rfl
  refine ⟨ds, [], before, [], before, [], hW, res _ _ _, hargs _ (fun p hp => by simpa using low p hp), nov _, World.keptBut_mono (fun p hp => ⟨hp, ?_⟩) (hb.frame (· ∈ before)), fun _ => ⟨?_, ?_⟩⟩
  · simpa using hp
  · intro j t r ht hres
    rw [hrt] at ht hres
    cases j with
    | zero =>
      simp [Value.resultList] at ht hres
      subst ht hres
      exact okWide_bool_mk htb true
    | succ j => simp at ht
  · obtain ⟨_, _, _, _, _, hz, hn⟩ := hW
    refine ⟨_, _, before, ⟨before, [], trodAll_append (hargs _ (fun _ _ => rfl)) (res _ _ _), nov _, (List.append_nil _).symm, fun b off hp => ?_, fun ha => ?_⟩, fun p hp _ => hp⟩
    · rw [hb.frozen (low _ hp)]
      exact hz b off hp
    · exact hn ha

end Go.Proofs.YtdadgodjjfgmfaaDoor
