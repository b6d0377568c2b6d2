/- The document's parser of dialect B: all of it at once, by induction on the fuel. -/
import Derived.Test.YtbplbehhlbkklaaGreatDoorGZCommand
import Derived.Test.YtbplbehhlbkklaaGreatDoorGZSimple
namespace Go.Proofs.YtbplbehhlbkklaaGreatDoor
open Go Go.RowKit
structure AllZ (b g cap:Nat) (ts:List BTok) (f:Nat):Prop where
 list:ZDoes b g cap ts 20 1 (fun d=>zS d - 14) (pList ts f)
 pipe:ZDoes b g cap ts 50 0 (fun d=>zS d+2) (pPipe ts f)
 command:ZDoes b g cap ts 87 0 zS (pCommand ts f)
 one:ZDoesO b g cap ts f
section
variable {b g cap:Nat} {ts:List BTok}
theorem z_command0:ZDoes b g cap ts 87 0 zS (pCommand ts 0):=by
 intro w i d dz f _ hi hS hX
 cases f with
 | some x=>exact zcommand_bad w i d dz x _ _ hi hS
 | none=>exact absurd (by rw[pCommand]) (hX.out rfl)
theorem z_one0:ZDoesO b g cap ts 0:=fun w i d how _ _ _ _ _ hX=>absurd (by rw[pOne]) hX.out
theorem z_words (F:ZFix cap ts){f:Nat}(h:∀ f',f'<f→ZDoesO b g cap ts f'):∀ f',f'≤f→ZDoesW b g cap ts f':=by
 intro f' hf'
 cases f' with
 | succ k=>exact zword_walk F k fun f'' h2=>h f'' (by omega)
 | zero =>
  have h1:=zword_walk (b:=b) (g:=g) F 0 fun f'' h2=>absurd h2 (by omega)
  intro w i d dz f how hhow hdz hi hS hX
  cases f with
  | none=>exact absurd (by rw[pWord]) (hX.out rfl)
  | some x=>exact h1 w i d dz (some x) how hhow hdz hi hS (Lib.hid fun e=>by cases e)
theorem z_list0 (F:ZFix cap ts):ZDoes b g cap ts 20 1 (fun d=>zS d - 14) (pList ts 0)∧ZDoes b g cap ts 50 0 (fun d=>zS d+2) (pPipe ts 0):=by
 have hp:ZDoes b g cap ts 50 0 (fun d=>zS d+2) (pPipe ts 0):=(zpipe_walk F 0 fun f' h=>by cases Nat.le_zero.1 h;exact z_command0).other fun d i=>by rw[pPipe]
 exact⟨(zlist_walk F 0 fun f' h=>by cases Nat.le_zero.1 h;exact hp).other fun d i=>by rw[pList],hp⟩
theorem z_below (F:ZFix cap ts){f:Nat}(h:∀ f',f'≤f→ZDoes b g cap ts 87 0 zS (pCommand ts f')):∀ f',f'≤f→ZDoes b g cap ts 116 0 (fun d=>zS d - 19) (pBody ts f'):=by
 intro f' hf
 cases f' with
 | succ k=>exact zbelow_walk F k (h k (by omega))
 | zero=>exact (zbelow_walk F 0 z_command0).other fun d i=>by rw[pBody]
theorem z_block (F:ZFix cap ts){f:Nat}(h:∀ f',f'≤f→ZDoes b g cap ts 20 1 (fun d=>zS d - 14) (pList ts f')):∀ f',f'≤f→ZDoes b g cap ts 112 0 (fun d=>zS d - 14) (pBlock ts f'):=by
 intro f' hf
 cases f' with
 | succ k=>exact zblock_walk F k (h k (by omega))
 | zero=>exact (zblock_walk F 0 (z_list0 F).1).other fun d i=>by rw[pBlock]
theorem z_simple (F:ZFix cap ts){f:Nat}(h:∀ f',f'≤f→ZDoesW b g cap ts f'):∀ f',f'≤f→ZDoes b g cap ts 114 0 zS (pSimple ts f'):=by
 intro f' hf
 cases f' with
 | succ k=>exact zsimple_walk F k fun f'' h2=>h f'' (by omega)
 | zero=>exact (zsimple_walk F 0 fun f'' h2=>absurd h2 (by omega)).other fun d i=>by rw[pSimple]
theorem allZ (F:ZFix cap ts):∀ f,AllZ b g cap ts f:=by
 intro f
 induction f using Nat.strongRecOn with
 | _ f ih =>
  have hword:∀ f',f'≤f→ZDoesW b g cap ts f':=z_words F fun f' h=>(ih f' h).one
  cases f with
  | zero=>exact⟨(z_list0 F).1,(z_list0 F).2,z_command0,z_one0⟩
  | succ f =>
   have hcom:∀ f',f'≤f→ZDoes b g cap ts 87 0 zS (pCommand ts f'):=fun f' h=>(ih f' (by omega)).command
   have hlist:∀ f',f'≤f→ZDoes b g cap ts 20 1 (fun d=>zS d - 14) (pList ts f'):=fun f' h=>(ih f' (by omega)).list
   refine ⟨?_,?_,?_,?_⟩
   ·exact zlist_walk F f fun f' h=>(ih f' (by omega)).pipe
   ·exact zpipe_walk F f hcom
   ·exact zcommand_walk F f ⟨z_block F hlist,fun f' h=>zbetween_walk F f' (hlist f' h),z_below F hcom,hlist,z_simple F fun f' h=>hword f' (by omega),fun f' h=>zturns_walk F f' fun f'' h2=>hword f'' (by omega),fun f' h=>zwords_walk F f' fun f'' h2=>hword f'' (by omega),fun f' h=>hword f' (by omega)⟩
   ·exact zone_walk F f (hlist f (Nat.le_refl _)) fun f' h=>hword f' (by omega)
end
end Go.Proofs.YtbplbehhlbkklaaGreatDoor
