/- Dialect B's parser: what each function of it comes to, as the plain parser says. -/
import Derived.Test.YtbfeoinoepoiaaaGreatDoorGBKitG
import Derived.Deep.DeepCutAuto
import Derived.Test.YtbfeoinoepoiaaaGreatDoorGParseG
namespace Go.Proofs.YtbfeoinoepoiaaaGreatDoor
open Go Go.RowKit
structure EnvB (w:World) (b:Nat) (sent:Nat→Addr):Prop where
 env:Env w sent
 ne:∀ c g,(c,g)∈errVars→g≠b
 mx:∃ m,w.cell? ⟨9,0,none⟩=some (.int .i64 m)
 mne:9≠b
theorem EnvB.kept {w w':World} {b:Nat} {sent:Nat→Addr} (h:EnvB w b sent) (hk:Kept (At b) w w'):EnvB w' b sent :=
 ⟨fun c g hg=>hk.cell (h.env c g hg) (h.ne c g hg),h.ne,h.mx.elim fun m hm=>⟨m,hk.cell hm h.mne⟩,h.mne⟩
def PErr (w w':World) (sent:Nat→Addr) (c p:Nat) (v:Value):Prop:=∃ eb,v = .iface 58 (.pointer (some ⟨eb,0,none⟩))∧ErrAt w' eb sent c p∧w.heap.size≤eb
theorem PErr.kept {w w' w'':World} {sent:Nat→Addr} {c p:Nat} {v:Value} {b:Nat} (h:PErr w w' sent c p v) (hb:b<w.heap.size) (hk:Kept (At b) w' w''):PErr w w'' sent c p v:=by
 obtain ⟨eb,h1,h2,h3⟩:=h
 refine ⟨eb,h1,?_,h3⟩
 unfold ErrAt at h2 ⊢
 exact h2.kept hk (fun e=>by unfold At at e; omega)
theorem PErr.from {w0 w w':World} {sent:Nat→Addr} {c p:Nat} {v:Value} (h:PErr w w' sent c p v) (hs:w0.heap.size≤w.heap.size):PErr w0 w' sent c p v:=by
 obtain ⟨eb,h1,h2,h3⟩:=h
 exact ⟨eb,h1,h2,Nat.le_trans hs h3⟩
theorem NSl0.none (w:World) (b:Nat):NSl0 w b (.slice none 0 0) []:=.inr ⟨rfl,rfl⟩
def KOwn (w:World) (B b:Nat) (v:Value) (L:List Prog):Prop:=∃ us:List Value,us.length=L.length∧w.ownsRow B 23 1 v L.length us∧∀ (i:Nat) (u:Value) (l:Prog),us[i]?=some u→L[i]?=some l→NSl w b u l
theorem KOwn.nil (w:World) (B b:Nat):KOwn w B b (.slice none 0 0) []:=⟨[],rfl,World.ownsRow_nil _ _ _ _,fun i u l h=>by simp at h⟩
theorem ownsRow_kept {w w':World} {B:Nat} {e:TypeId} {size:Nat} {v:Value} {n:Nat} {xs:List Value} {S:Nat→Prop} (h:w.ownsRow B e size v n xs) (hk:Kept S w w') (hS:∀ k,B≤k→k<w.heap.size→¬ S k):w'.ownsRow B e size v n xs:=by
 refine ⟨h.1,?_⟩
 rcases h.2 with h2 | ⟨g,cap,cur,hv,hg,hh,r⟩
 ·exact .inl h2
 ·exact .inr ⟨g,cap,cur,hv,hg,(hk.block g (lt_of_block hh) (hS g hg (lt_of_block hh))).trans hh,r⟩
theorem KOwn.kept {w w':World} {B b:Nat} {v:Value} {L:List Prog} (h:KOwn w B b v L) (hb:b<B) (hk:Kept (At b) w w'):KOwn w' B b v L:=by
 obtain ⟨us,h1,h2,h3⟩:=h
 exact ⟨us,h1,ownsRow_kept h2 hk (fun k hk _ e=>by unfold At at e; omega),fun i u l hu hl=>(h3 i u l hu hl).kept hk⟩
theorem KOwn.below {w w':World} {B b:Nat} {v:Value} {L:List Prog} (h:KOwn w B b v L) (hb:b<B) (hk:Below w.heap.size w w'):KOwn w' B b v L:=h.kept hb (.ofBelow hk)
theorem KOwn.form {w:World} {B b:Nat} {v:Value} {L:List Prog} (h:KOwn w B b v L):∃ ao cap,v = .slice ao L.length cap:=by
 obtain ⟨us,h1,h2,_⟩:=h
 rcases h2.2 with ⟨hv,h0⟩ | ⟨g,cap,cur,hv,_⟩
 ·exact ⟨none,0,by rw [hv,h0]⟩
 ·exact ⟨_,_,hv⟩
theorem KOwn.ksl {w:World} {B b:Nat} {v:Value} {L:List Prog} (h:KOwn w B b v L) (hb:b<B):KSl w b v L:=by
 obtain ⟨us,h1,h2,h3⟩:=h
 by_cases hl:0<L.length
 ·obtain ⟨g,cap,q1,q2,q3,q4,q5,q6⟩:=row_cell h2 hl
  refine ⟨_,cap,q1,q2,q3,fun _=>⟨g,rfl,q5,by omega,fun i l hi=>?_⟩⟩
  have hil:=(List.getElem?_eq_some_iff.1 hi).1
  have hu:us[i]?=some us[i]:=List.getElem?_eq_getElem (by omega)
  exact ⟨_,q6 i _ hu,.inl (h3 i _ l hu hi)⟩
 ·have h0:L=[]:=List.length_eq_zero_iff.1 (by omega)
  subst h0
  rcases h2.2 with ⟨hv,_⟩ | ⟨g,cap,cur,hv,_,_,q1,q2,_⟩
  ·exact ⟨none,0,hv,Nat.le_refl _,Nat.zero_le _,fun h=>absurd h (by simp)⟩
  ·exact ⟨_,cap,hv,q1,q2,fun h=>absurd h (by simp)⟩
theorem KOwn.snoc {w':World} {B b:Nat} {v':Value} {L:List Prog} {l:Prog} {u:Value} {us:List Value} (h1:us.length=L.length) (h3:∀ (i:Nat) (u:Value) (l:Prog),us[i]?=some u→L[i]?=some l→NSl w' b u l) (hu:NSl w' b u l) (hown:w'.ownsRow B 23 1 v' (L.length+1) (us++[u])):KOwn w' B b v' (L++[l]):=by
 refine ⟨us++[u],by simp [h1],by rw [List.length_append]; exact hown,fun i x y hx hy=>?_⟩
 by_cases hi:i<us.length
 ·rw [List.getElem?_append_left hi] at hx
  rw [List.getElem?_append_left (by omega)] at hy
  exact h3 i x y hx hy
 ·rw [List.getElem?_append_right (by omega)] at hx hy
  obtain ⟨k,hk⟩:∃ k,i - us.length=k:=⟨_,rfl⟩
  have hk2:i - L.length=k:=by omega
  rw [hk] at hx
  rw [hk2] at hy
  cases k with
  | zero =>
   cases hx
   cases hy
   exact hu
  | succ k=>simp at hx
theorem KOwn.grown {w0 w w':World} {b:Nat} {v v':Value} {L:List Prog} {l:Prog} {u:Value} {us:List Value} {o:Obj} (hs:w0.heap.size≤w.heap.size) (h1:us.length=L.length) (h2:w.ownsRow w0.heap.size 23 1 v L.length us) (h3:∀ (i:Nat) (u:Value) (l:Prog),us[i]?=some u→L[i]?=some l→NSl w b u l) (hu:NSl w b u l)
  (hown:w'.ownsRow w0.heap.size 23 1 v' (L.length+1) (us++[u])) (hg:(w.alloc o).grownBy w' v.ownBlock):KOwn w' w0.heap.size b v' (L++[l])∧Below w0.heap.size w w':=by
 have hb1:=(Below.refl w.heap.size w).alloc (Nat.le_refl _) o
 have hrow:∀ k,v.ownBlock=some k→∃ cur fz t,(w.alloc o).heap[k]?=some (.cells cur t fz)∧t≠74:=fun k hk=>by
  obtain ⟨cur,fz,e⟩:=ownsRow_tag h2 k hk
  exact ⟨cur,fz,23,(hb1.block k (lt_of_block e)).trans e,by decide⟩
 have hlt:=World.ownsRow.lt h2
 refine ⟨KOwn.snoc h1 (fun i x y hx hy=>((h3 i x y hx hy).below hb1).grown hg hrow) ((hu.below hb1).grown hg hrow) hown,?_⟩
 exact (hb1.mono hs).trans ((Kept.grown (S:=fun k=>some k=v.ownBlock) (Kept.refl _ _) hg (fun k h _=>h.symm)).below (by simp; omega) (fun i hi e=>by have:=hlt _ e.symm; omega))
end Go.Proofs.YtbfeoinoepoiaaaGreatDoor
namespace Go.Proofs.YtbfeoinoepoiaaaGreatDoor
open Go Go.RowKit
end Go.Proofs.YtbfeoinoepoiaaaGreatDoor
namespace Go.Proofs.YtbfeoinoepoiaaaGreatDoor
open Go Go.RowKit
end Go.Proofs.YtbfeoinoepoiaaaGreatDoor
namespace Go.Proofs.YtbfeoinoepoiaaaGreatDoor
open Go Go.RowKit
end Go.Proofs.YtbfeoinoepoiaaaGreatDoor
namespace Go.Proofs.YtbfeoinoepoiaaaGreatDoor
open Go Go.RowKit
end Go.Proofs.YtbfeoinoepoiaaaGreatDoor

namespace Go.Proofs.YtbfeoinoepoiaaaGreatDoor
open Go Go.RowKit
theorem some_err {α:Type} {c p:Nat} {r:Except (Nat × Nat) (α × Nat)} (h:(some (Except.error (c,p)):PRes α)=some r):r = .error (c,p):=(Option.some.inj h).symm
theorem some_ok {α:Type} {a:α} {i:Nat} {r:Except (Nat × Nat) (α × Nat)} (h:(some (Except.ok (a,i)):PRes α)=some r):r = .ok (a,i):=(Option.some.inj h).symm
end Go.Proofs.YtbfeoinoepoiaaaGreatDoor
namespace Go.Proofs.YtbfeoinoepoiaaaGreatDoor
open Go Go.RowKit
end Go.Proofs.YtbfeoinoepoiaaaGreatDoor
namespace Go.Proofs.YtbfeoinoepoiaaaGreatDoor
open Go Go.RowKit
theorem KSl.first {w:World} {b:Nat} {v:Value} {L:List Prog} (h:KSl w b v L) (hp:0<L.length) (hne:∀ l∈L,0<l.length):∃ g cap u,v = .slice (some ⟨g,0,none⟩) L.length cap∧L.length≤cap∧w.cell? ⟨g,0,none⟩=some u∧NSl w b u (L.headD []):=by
 obtain ⟨ao,cap,rfl,h1,h2,h3⟩:=h
 obtain ⟨g,rfl,_,_,h4⟩:=h3 hp
 cases L with
 | nil=>simp at hp
 | cons l L =>
  obtain ⟨u,h5,h6⟩:=h4 0 l rfl
  refine ⟨g,cap,u,rfl,h1,h5,?_⟩
  rcases h6 with h6 | ⟨_,rfl⟩
  ·exact h6
  ·have:=hne [] (by simp)
   simp at this
end Go.Proofs.YtbfeoinoepoiaaaGreatDoor
namespace Go.Proofs.YtbfeoinoepoiaaaGreatDoor
open Go Go.RowKit
theorem bs_app (l m:List UInt8):bs l++bs m=bs (l++m):=by
 unfold bs
 apply ByteArray.ext
 simp
end Go.Proofs.YtbfeoinoepoiaaaGreatDoor

namespace Go.Proofs.YtbfeoinoepoiaaaGreatDoor
open Go Go.RowKit
end Go.Proofs.YtbfeoinoepoiaaaGreatDoor
namespace Go.Proofs.YtbfeoinoepoiaaaGreatDoor
open Go Go.RowKit
end Go.Proofs.YtbfeoinoepoiaaaGreatDoor
namespace Go.Proofs.YtbfeoinoepoiaaaGreatDoor
open Go Go.RowKit
theorem KSl.kept {w w':World} {b:Nat} {v:Value} {L:List Prog} (h:KSl w b v L) (hk:Kept (At b) w w'):KSl w' b v L:=by
 obtain ⟨ao,cap,h1,h2,h3,h4⟩:=h
 refine ⟨ao,cap,h1,h2,h3,fun hl=>?_⟩
 obtain ⟨g,e1,e2,e3,e4⟩:=h4 hl
 refine ⟨g,e1,Nat.lt_of_lt_of_le e2 hk.size,e3,fun i l hi=>?_⟩
 obtain ⟨u,u1,u2⟩:=e4 i l hi
 exact ⟨u,hk.cell u1 e3,u2.kept hk⟩
end Go.Proofs.YtbfeoinoepoiaaaGreatDoor
namespace Go.Proofs.YtbfeoinoepoiaaaGreatDoor
open Go Go.RowKit
theorem bNextW {w w':World} {o:Obj} (h:Below (w.alloc o).heap.size (w.alloc o) w'):Below w.heap.size w w':=bNext ((Below.refl _ w).alloc (Nat.le_refl _) o) h
end Go.Proofs.YtbfeoinoepoiaaaGreatDoor
