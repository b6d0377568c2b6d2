/- core.Depth ends, whatever the program that may be. -/
import Derived.Test.YtepebnblbheegaaGreatDoorGZK
import Derived.Test.YtepebnblbheegaaGreatDoorGZD
namespace Go.Proofs.YtepebnblbheegaaGreatDoor
open Go Go.RowKit
def SizesOk (l:Prog):Prop:=∀ x∈l,1≤x.size∧x.size≤l.length∧0≤x.k∧x.k≤l.length
theorem WFP.sizes {K:Int→Bool} {M:Nat} {w:Bool} {D:Nat} {l:Prog} (h:WFP K M w D l):SizesOk l:=by
 induction h with
 | node w D kind n s kids hk hf hc hK ih =>
  intro x hx
  have hpos:∀ kid∈kids,0<kid.length:=fun kid hkid=>by
   obtain ⟨j,hj⟩:=List.getElem?_of_mem hkid
   exact (hK j kid hj).pos.1
  have hlen:kids.length≤kids.flatten.length:=by
   clear hk hf hc hK ih hx
   induction kids with
   | nil=>exact Nat.le_refl _
   | cons a l ih =>
    have h1:=hpos a (by simp)
    have h2:=ih fun k hk=>hpos k (by simp [hk])
    rw [List.flatten_cons,List.length_append,List.length_cons]
    omega
  have hl:(newP kind n s kids).length=kids.flatten.length+1:=len_newP _ _ _ _
  rw [hl]
  rw [newP] at hx
  rcases List.mem_cons.1 hx with rfl | hx
  ·dsimp only
   omega
  ·obtain ⟨kid,hkid,hxk⟩:=List.mem_flatten.1 hx
   obtain ⟨j,hj⟩:=List.getElem?_of_mem hkid
   obtain ⟨a1,a2,a3,a4⟩:=ih j kid hj x hxk
   have:kid.length≤kids.flatten.length:=by
    obtain ⟨p,q,rfl⟩:=List.append_of_mem hkid
    simp
    omega
   omega
structure Lv where
 c:Nat
 e:Nat
 left:Int
def Lv.cells (x:Lv):List Value:=[.int .i64 x.c,.int .i64 x.e,.int .i64 x.left]
def lvU (L:List Lv):Nat:=(L.map fun x=>x.e - x.c).sum
def LvOk (n:Nat) (L:List Lv):Prop:=∀ x∈L,x.c≤x.e∧x.e≤n∧-1≤x.left∧x.left≤n
theorem lvU_snoc (L:List Lv) (x:Lv):lvU (L++[x])=lvU L+(x.e - x.c):=by simp [lvU]
theorem LvOk.snoc {n:Nat} {L:List Lv} (h:LvOk n L) {x:Lv} (hx:x.c≤x.e∧x.e≤n∧-1≤x.left∧x.left≤n):LvOk n (L++[x]):=fun y hy=>by
 rcases List.mem_append.1 hy with hy | hy
 ·exact h y hy
 ·rw [List.mem_singleton] at hy
  subst hy
  exact hx
theorem lv_cells_len (L:List Lv):(L.flatMap Lv.cells).length=L.length * 3:=by
 induction L with
 | nil=>rfl
 | cons x L ih =>
  rw [List.flatMap_cons,List.length_append,ih,List.length_cons,show (Lv.cells x).length=3 from rfl]
  omega
def LOwn (w:World) (B:Nat) (v:Value) (L:List Lv):Prop:=w.ownsRow B 94 3 v L.length (L.flatMap Lv.cells)
theorem ownsRow_set {w:World} {B g n cap sz i:Nat} {e:TypeId} {us:List Value} (h:w.ownsRow B e sz (.slice (some ⟨g,0,none⟩) n cap) n us) (_hi:i<n * sz) (u:Value):(w.setCell ⟨g,i,none⟩ u).ownsRow B e sz (.slice (some ⟨g,0,none⟩) n cap) n (us.set i u):=by
 refine ⟨by simp [h.1],?_⟩
 rcases h.2 with ⟨hv,h0⟩ | ⟨g',cap',cur,hv,hg,hh,hc1,hc2,hsz,ht⟩
 ·cases hv
 ·injection hv with e1 e2 e3
  injection e1 with e1
  injection e1 with e1
  subst e1 e3
  have hgl:=lt_of_block hh
  refine .inr ⟨g,cap,cur.set! i u,rfl,hg,?_,hc1,hc2,by simpa using hsz,?_⟩
  ·show (w.heap.modify g _)[g]?=_
   have h':w.heap[g] = .cells cur e (0,0):=by simpa [Array.getElem?_eq_getElem hgl] using hh
   rw [Array.getElem?_eq_getElem (by simpa using hgl),Array.getElem_modify_self,h']
   simp
  ·rw [Array.set!_eq_setIfInBounds,Array.toList_setIfInBounds,List.take_set,ht]
theorem lv_set (L:List Lv) (x:Lv) (c:Nat) (left:Int):(((L++[x]).flatMap Lv.cells).set (L.length * 3) (.int .i64 c)).set (L.length * 3+2) (.int .i64 left)=(L++[(⟨c,x.e,left⟩:Lv)]).flatMap Lv.cells:=by
 have hl:=lv_cells_len L
 rw [List.flatMap_append,List.flatMap_append,← hl,List.set_append_right _ _ (Nat.le_refl _),Nat.sub_self,List.set_append_right _ _ (by omega)]
 rw [show (L.flatMap Lv.cells).length+2 - (L.flatMap Lv.cells).length=2 by omega]
 rfl
theorem lv_drop (L:List Lv) (x:Lv):((L++[x]).flatMap Lv.cells).take (L.length * 3)=L.flatMap Lv.cells:=by
 rw [List.flatMap_append,← lv_cells_len L,List.take_left]
end Go.Proofs.YtepebnblbheegaaGreatDoor
