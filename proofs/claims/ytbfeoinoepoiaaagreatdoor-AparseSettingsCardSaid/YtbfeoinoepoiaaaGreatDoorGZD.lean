/- Dialect B's parser: items joined. -/
import Derived.Test.YtbfeoinoepoiaaaGreatDoorGBPatG
import Derived.Deep.RegionWith
import Derived.Test.YtbfeoinoepoiaaaGreatDoorGZC
import Derived.RangeFuncNested
import Derived.RangeFuncBound
import Derived.RangeFuncCalls
import Derived.RangeFuncLeaves
import Derived.RangeFuncBox
import Derived.Shelf.Abstract
import Derived.Shelf.RegionOpen
import Derived.OwnWalkIn
import Derived.TacticsInMore
import Derived.LoopNIn
import Derived.LoopIn
import Derived.Deep.CutBlock
namespace Go.Proofs.YtbfeoinoepoiaaaGreatDoor
open Go Go.RowKit
theorem KOwn.setLast {w:World} {B b g n cap:Nat} {Q:List Prog} {y y':Prog} {u:Value} (h:KOwn w B b (.slice (some ⟨g,0,none⟩) n cap) (Q++[y])) (hu:NSl w b u y') :
  KOwn (w.setCell ⟨g,Q.length,none⟩ u) B b (.slice (some ⟨g,0,none⟩) n cap) (Q++[y']):=by
 obtain ⟨us,h1,h2,h3⟩:=h
 have hsame:∀ x l,NSl w b x l→NSl (w.setCell ⟨g,Q.length,none⟩ u) b x l:=fun x l hx=>hx.of_block fun g' cur fz h4 _=>by
  refine Below.heap_setCell _ _ _ _ (fun e=>?_)
  obtain ⟨c2,f2,h5⟩:=ownsRow_tag h2 g rfl
  rw [show g'=g from e] at h4
  rw [h4] at h5
  injection h5 with h5
  injection h5 with _ h6 _
  exact absurd h6 (by decide)
 have hul:us.length=Q.length+1:=by rw [h1]; simp
 refine ⟨us.set Q.length u,by simp [h1],⟨by simp [h1],?_⟩,fun i x l hx hl=>?_⟩
 ·rcases h2.2 with ⟨hv,h0⟩ | ⟨g',cap',cur,hv,hg,hh,hc1,hc2,hsz,ht⟩
  ·simp at h0
  ·injection hv with e1 e2 e3
   injection e1 with e1
   injection e1 with e1
   subst e1 e2 e3
   have hgl:=lt_of_block hh
   refine .inr ⟨g,cap,cur.set! Q.length u,by simp,hg,?_,by simpa using hc1,hc2,by simpa using hsz,?_⟩
   ·show (w.heap.modify g _)[g]?=_
    have h':w.heap[g] = .cells cur 23 (0,0):=by simpa [Array.getElem?_eq_getElem hgl] using hh
    rw [Array.getElem?_eq_getElem (by simpa using hgl),Array.getElem_modify_self,h']
    simp
   ·rw [Array.set!_eq_setIfInBounds,Array.toList_setIfInBounds,List.take_set]
    have e:(Q++[y']).length * 1=(Q++[y]).length * 1:=by simp
    rw [e,ht]
 ·by_cases hi:i=Q.length
  ·subst hi
   rw [List.getElem?_set_self (by omega)] at hx
   rw [List.getElem?_append_right (Nat.le_refl _),Nat.sub_self] at hl
   cases hx
   cases hl
   exact hsame _ _ hu
  ·rw [List.getElem?_set_ne (Ne.symm hi)] at hx
   have hil:=(List.getElem?_eq_some_iff.1 hx).1
   rw [List.getElem?_append_left (by omega)] at hl
   exact hsame _ _ (h3 i x l hx (by rw [List.getElem?_append_left (by omega)]; exact hl))
theorem KOwn.last {w:World} {B b:Nat} {ao:Option Addr} {n cap:Nat} {Q:List Prog} {y:Prog} (h:KOwn w B b (.slice ao n cap) (Q++[y])) :
  ∃ g u,ao=some ⟨g,0,none⟩∧n=Q.length+1∧n≤cap∧B≤g∧w.cell? ⟨g,Q.length,none⟩=some u∧NSl w b u y∧w.frozen? ⟨g,Q.length,none⟩=false:=by
 obtain ⟨us,h1,h2,h3⟩:=h
 have hul:us.length=Q.length+1:=by rw [h1]; simp
 obtain ⟨g,cap',q1,q2,q3,q4,q5,q6⟩:=row_cell h2 (by simp)
 injection q1 with e1 e2 e3
 subst e1 e3
 have hu:us[Q.length]?=some us[Q.length]:=List.getElem?_eq_getElem (by omega)
 obtain ⟨cur,fz,ht⟩:=ownsRow_tag h2 g rfl
 refine ⟨g,_,rfl,by simpa using e2,by rw [e2]; exact q2,q4,q6 _ _ hu,h3 _ _ _ hu (by simp),?_⟩
 rcases h2.2 with ⟨hv,_⟩ | ⟨g',cap'',cur',hv,_,hh,_⟩
 ·cases hv
 ·injection hv with e1 _ _
  injection e1 with e1
  injection e1 with e1
  subst e1
  simp [World.frozen?,hh]
theorem joinStep_no (O:List Prog) (x:Prog) (h:isLit x=false):joinStep O x=O++[x]:=by
 unfold joinStep
 split
 ·rename_i y z hy
  rw [if_neg (fun hh=>by simp [isLit,hh.2] at h)]
 ·rfl
theorem joinStep_last (Q:List Prog) (y x:Prog) (h:isLit y=false):joinStep (Q++[y]) x=(Q++[y])++[x]:=by
 unfold joinStep
 split
 ·rename_i u z hy
  rw [List.getLast?_concat] at hy
  cases hy
  rw [if_neg (fun hh=>by simp [isLit,hh.1] at h)]
 ·rfl
theorem joinStep_both (Q:List Prog) (u z:PNode) (hu:u.kind=1) (hz:z.kind=1):joinStep (Q++[[u]]) [z]=Q++[newP 1 z.n (u.text++z.text) []]:=by
 unfold joinStep
 rw [List.getLast?_concat]
 simp [hu,hz]
theorem isLit_one {x:Prog} (h:isLit x=true):∃ z,x=[z]∧z.kind=1:=by
 match x,h with
 | [z],h=>exact ⟨z,rfl,by simpa [isLit] using h⟩
theorem fold_take (L:List Prog) (k:Nat) (x:Prog) (h:L[k]?=some x):(L.take (k+1)).foldl joinStep []=joinStep ((L.take k).foldl joinStep []) x:=by
 obtain ⟨hk,e⟩:=List.getElem?_eq_some_iff.1 h
 rw [List.take_succ_eq_append_getElem hk,e,List.foldl_append]
 rfl
theorem take_tx (L:List Prog) (k:Nat):txP (L.take k).flatten≤txP L.flatten:=by
 have h:L.flatten=(L.take k).flatten++(L.drop k).flatten:=by rw [← List.flatten_append,List.take_append_drop]
 rw [h,txP_append]
 omega
end Go.Proofs.YtbfeoinoepoiaaaGreatDoor

namespace Go.Proofs.YtbfeoinoepoiaaaGreatDoor
open Go Go.RowKit
end Go.Proofs.YtbfeoinoepoiaaaGreatDoor
namespace Go.Proofs.YtbfeoinoepoiaaaGreatDoor
open Go Go.RowKit
theorem ownsRow_other {w w':World} {B:Nat} {e:TypeId} {size:Nat} {v:Value} {n:Nat} {xs:List Value} {row:Option Nat} (h:w.ownsRow B e size v n xs) (hg:w.grownBy w' row) (hr:∀ k,row=some k→∃ cur fz t,w.heap[k]?=some (.cells cur t fz)∧t≠e):w'.ownsRow B e size v n xs:=by
 refine ⟨h.1,?_⟩
 rcases h.2 with h2 | ⟨g,cap,cur,hv,hB,hh,r⟩
 ·exact .inl h2
 ·refine .inr ⟨g,cap,cur,hv,hB,(hg.block g (lt_of_block hh) (fun e=>?_)).trans hh,r⟩
  obtain ⟨c2,f2,t2,h7,h8⟩:=hr g e.symm
  rw [hh] at h7
  injection h7 with h7
  injection h7 with _ h9 _
  exact h8 h9.symm
theorem row_kind {w:World} {B:Nat} {e:TypeId} {size:Nat} {v:Value} {n:Nat} {xs:List Value} (h:w.ownsRow B e size v n xs) (o:Obj):∀ k,v.ownBlock=some k→∃ cur fz t,(w.alloc o).heap[k]?=some (.cells cur t fz)∧t=e:=fun k hk=>by
 obtain ⟨cur,fz,h1⟩:=ownsRow_tag h k hk
 exact ⟨cur,fz,e,(((Below.refl w.heap.size w).alloc (Nat.le_refl _) o).block k (lt_of_block h1)).trans h1,rfl⟩
theorem KOwn.other {w w':World} {B b:Nat} {v:Value} {L:List Prog} {e:TypeId} {row:Option Nat} (h:KOwn w B b v L) (hg:w.grownBy w' row) (h1:e≠23) (h2:e≠74) (hr:∀ k,row=some k→∃ cur fz t,w.heap[k]?=some (.cells cur t fz)∧t=e):KOwn w' B b v L:=by
 obtain ⟨us,u1,u2,u3⟩:=h
 refine ⟨us,u1,ownsRow_other u2 hg (fun k hk=>?_),fun i u l hu hl=>(u3 i u l hu hl).grown hg (fun k hk=>?_)⟩
 ·obtain ⟨c,f,t,h3,rfl⟩:=hr k hk
  exact ⟨c,f,t,h3,h1⟩
 ·obtain ⟨c,f,t,h3,rfl⟩:=hr k hk
  exact ⟨c,f,t,h3,h2⟩
def SOwn (w:World) (B:Nat) (v:Value) (L:List (List UInt8)):Prop:=w.ownsRow B 9 1 v L.length (L.map fun s=>Value.string (bs s))
theorem SOwn.nil (w:World) (B:Nat):SOwn w B (.slice none 0 0) []:=World.ownsRow_nil _ _ _ _
theorem SOwn.kept {w w':World} {B b:Nat} {v:Value} {L:List (List UInt8)} (h:SOwn w B v L) (hb:b<B) (hk:Kept (At b) w w'):SOwn w' B v L:=ownsRow_kept h hk (fun k hk _ e=>by unfold At at e; omega)
theorem SOwn.below {w w':World} {B b:Nat} {v:Value} {L:List (List UInt8)} (h:SOwn w B v L) (hb:b<B) (hk:Below w.heap.size w w'):SOwn w' B v L:=h.kept hb (.ofBelow hk)
theorem SOwn.other {w w':World} {B:Nat} {v:Value} {L:List (List UInt8)} {e:TypeId} {row:Option Nat} (h:SOwn w B v L) (hg:w.grownBy w' row) (h1:e≠9) (hr:∀ k,row=some k→∃ cur fz t,w.heap[k]?=some (.cells cur t fz)∧t=e):SOwn w' B v L :=
 ownsRow_other h hg (fun k hk=>by
  obtain ⟨c,f,t,h3,rfl⟩:=hr k hk
  exact ⟨c,f,t,h3,h1⟩)
theorem SOwn.form {w:World} {B:Nat} {v:Value} {L:List (List UInt8)} (h:SOwn w B v L):∃ ao cap,v = .slice ao L.length cap:=by
 rcases h.2 with ⟨hv,h0⟩ | ⟨g,cap,cur,hv,_⟩
 ·exact ⟨none,0,by rw [hv,h0]⟩
 ·exact ⟨_,_,hv⟩
def SSl (w:World) (v:Value) (L:List (List UInt8)):Prop:=∃ ao cap,v = .slice ao L.length cap∧L.length≤cap∧cap≤maxLen ∧
 (0<L.length→∃ g,ao=some ⟨g,0,none⟩∧g<w.heap.size∧∀ (i:Nat) (s:List UInt8),L[i]?=some s→w.cell? ⟨g,i,none⟩=some (.string (bs s)))
theorem SOwn.ssl {w:World} {B:Nat} {v:Value} {L:List (List UInt8)} (h:SOwn w B v L):SSl w v L:=by
 by_cases hl:0<L.length
 ·obtain ⟨g,cap,q1,q2,q3,q4,q5,q6⟩:=row_cell h hl
  refine ⟨_,cap,q1,q2,q3,fun _=>⟨g,rfl,q5,fun i s hi=>?_⟩⟩
  exact q6 _ _ (by rw [List.getElem?_map,hi]; rfl)
 ·have h0:L=[]:=List.length_eq_zero_iff.1 (by omega)
  subst h0
  rcases h.2 with ⟨hv,_⟩ | ⟨g,cap,cur,hv,_,_,q1,q2,_⟩
  ·exact ⟨none,0,hv,Nat.le_refl _,Nat.zero_le _,fun h=>absurd h (by simp)⟩
  ·exact ⟨_,cap,hv,q1,q2,fun h=>absurd h (by simp)⟩
theorem infoString:(Tryz.prog.info? 9).map (fun i=>(i.zero,i.size,i.bytes))=some (some (.string ⟨#[]⟩),1,16):=by kernel_rfl
end Go.Proofs.YtbfeoinoepoiaaaGreatDoor
namespace Go.Proofs.YtbfeoinoepoiaaaGreatDoor
open Go Go.RowKit
theorem go_none {α β:Type} {k:α→Nat→PRes β} {r:Except (Nat × Nat) (β × Nat)} (h:PRes.go (none:PRes α) k=some r):False:=by simp [PRes.go] at h
end Go.Proofs.YtbfeoinoepoiaaaGreatDoor

namespace Go.Proofs.YtbfeoinoepoiaaaGreatDoor
set_option maxHeartbeats 4000000
set_option maxRecDepth 100000
open Go Go.RowKit Go.Shelf
attribute [local go_sem] Oper.semAt_some
def backs (len k:Nat):List (Fin len):=((List.finRange len).drop k).reverse
theorem backs_step {len k:Nat} (hk:k<len):backs len k=backs len (k+1)++[⟨k,hk⟩]:=by
 unfold backs
 rw [List.drop_eq_getElem_cons (by simpa using hk),List.reverse_cons]
 simp
theorem backs_top (len:Nat):backs len len=[]:=by
 unfold backs
 rw [List.drop_of_length_le (by simp)]
 rfl
theorem backs_zero (len:Nat):backs len 0=(List.finRange len).reverse:=rfl
theorem backs_len (len k:Nat):(backs len k).length=len - k:=by simp [backs]
def KpBack (Bs:Nat) (ao:Option Addr) (W W':World):Prop:=∀ k,(k=Bs∨ao=some ⟨k,0,none⟩)→W'.heap[k]?=W.heap[k]?
theorem KpBack.refl (Bs:Nat) (ao:Option Addr) (W:World):KpBack Bs ao W W:=fun _ _=>rfl
theorem KpBack.trans {Bs:Nat} {ao:Option Addr} {A B C:World} (h:KpBack Bs ao A B) (k:KpBack Bs ao B C):KpBack Bs ao A C:=fun i hi=>(k i hi).trans (h i hi)
theorem KpBack.cell {Bs:Nat} {ao:Option Addr} {W W':World} (h:KpBack Bs ao W W') {p:Addr} {v:Value} (hc:W.cell? p=some v) (hp:p.block=Bs∨ao=some ⟨p.block,0,none⟩):W'.cell? p=some v:=(World.cell?_of_block (w:=W) (h p.block hp)).trans hc
theorem kpBack_b {Bs:Nat} {ao:Option Addr} {w:World} (h1:Bs<w.heap.size) (h2:∀ k,ao=some ⟨k,0,none⟩→k<w.heap.size) (W:World) (l:Nat) (o o':Obj) (hl:w.heap.size≤l) (_h:W.heap[l]?=some o) (_:o.isCells=false) (_:o.isWalk=false):KpBack Bs ao W (W.putObj l o'):=fun k hk=>by
 refine World.putObj_heap_other ?_
 rcases hk with rfl | hk
 ·omega
 ·have:=h2 k hk
  omega
end Go.Proofs.YtbfeoinoepoiaaaGreatDoor
namespace Go.Proofs.YtbfeoinoepoiaaaGreatDoor
set_option maxHeartbeats 4000000
set_option maxRecDepth 100000
open Go Go.RowKit Go.Shelf
attribute [local go_sem] Oper.semAt_some
theorem slBackStr1_in (F:Fence) (n:Nat) (h8:F.fn 269) (hro:F.round=none) (hn:1≤n) (l Bs len cap:Nat) (ao ap:Option Addr) (ns:Nat→List UInt8) (hlen:len≤100000) (_hcap:len≤cap) (J Jx:List (Fin len)→World→Prop)
  (hY:∀ pre x W,J pre W→pre.length<len→YieldAt F (n - 1) Tryz.prog l #[.int .i64 (x.1:Int),.string (bs (ns x.1))] W fun e W' =>
   (e = .returned (.bool true)∧J (pre++[x]) W'∧KpBack Bs ap W W')∨(e = .returned (.bool false)∧Jx (pre++[x]) W'))
  (W:World) (hBs:W.cell? ⟨Bs,0,none⟩=some (.slice ao len cap)) (hc:∀ j,j<len→∃ g,ao=some ⟨g,0,none⟩∧ap=some ⟨g,0,none⟩∧W.cell? ⟨g,j,none⟩=some (.string (bs (ns j)))) (h0:J [] W) :
  CallsIn F n Tryz.prog 269 #[.func (.yield l) #[] #[],.pointer (some ⟨Bs,0,none⟩)] W fun e W'=>(∃ v,e = .returned v) ∧
   ((∃ ys,ys=backs len 0∧J ys W')∨(∃ pre,True∧Jx pre W')):=by
 refine callsIn_of_wp Tryz.func269 rfl h8 ?_ hro
 simp only [Tryz.ntmps269,List.size_toArray,List.length_cons,List.length_nil,Nat.reduceAdd,Nat.reduceSub,Array.replicate_succ,Array.replicate_zero,List.push_toArray,List.append_toArray,List.nil_append,List.cons_append]
 have hw1:IntKind.i64.wrap ((len:Int) - 1)=(len:Int) - 1:=by rw [IntKind.wrap_i64]; omega
 have HY:=Lib.hid hY
 have HC:=Lib.hid hc
 clear hY hc
 gi_wp2
 gi_loopw [3] (fun i wr=>∃ k:Nat,k≤len∧i = .int .i64 ((k:Int) - 1)∧J (backs len k) wr∧KpBack Bs ap W wr)
  (fun i _=>(intOf i+1).toNat)
 case atStart=>exact ⟨len,Nat.le_refl _,rfl,by rw [backs_top]; exact h0,KpBack.refl _ _ _⟩
 case round =>
  obtain ⟨k,hk,rfl,hJs,hnx⟩:=hrel
  have hb:=hnx.cell hBs (.inl rfl)
  by_cases hlt:0<k
  ·obtain ⟨k,rfl⟩:∃ q,k=q+1:=⟨k - 1,by omega⟩
   have hkk:(((k+1:Nat):Int) - 1)=(k:Int):=by omega
   rw [hkk]
   obtain ⟨g,rfl,hap,hc1⟩:=HC.out k (by omega)
   have hc1:=hnx.cell hc1 (.inr hap)
   obtain ⟨fn,tmps,assign,body,hy,hR⟩:=HY.out _ ⟨k,by omega⟩ wr hJs (by rw [backs_len]; omega)
   dsimp only at hy
   have hw2:IntKind.i64.wrap ((k:Int) - 1)=(k:Int) - 1:=by rw [IntKind.wrap_i64]; omega
   gi_wp2
   refine hR.mono ?_
   rintro e W3 (⟨rfl,hJ3,hk3⟩ | ⟨rfl,hJx3⟩)
   ·gi_wp2
    go_roundw
    case rel=>exact ⟨k,by omega,rfl,by rw [backs_step (by omega)]; exact hJ3,hnx.trans hk3⟩
    case measure=>simp [intOf]
   ·gi_wp2
    refine bodyPost_ret (results_none rfl _ _ _) rfl ?_
    exact ⟨⟨_,rfl⟩,.inr ⟨_,trivial,hJx3⟩⟩
  ·obtain rfl:k=0:=by omega
   gi_wp2
   go_end0
   exact ⟨⟨_,rfl⟩,.inl ⟨_,rfl,hJs⟩⟩
theorem slBackStr_in (a:Option Addr) (len cap:Nat) (w:World) :
  Calls Tryz.prog 250 #[.slice a len cap] w fun e w'=>e = .returned (.func (.func 269) #[] #[.pointer (some ⟨w.heap.size,0,none⟩)])∧w'=w.alloc (.cells #[.slice a len cap] 36):=by
 have hmf:∀ (fn:Fn) (first cap:Array Value) (w:World),(Instr.makeFunc fn first cap).run Tryz.prog w = .ok (.func fn first cap) w:=fun _ _ _ _=>rfl
 go_enter Tryz.func250,Tryz.ntmps250
 go_wp2
 go_ret
 exact ⟨rfl,rfl⟩
theorem slBackStr_stops (F:Fence) (n:Nat) (h8:F.fn 269) (hro:F.round=none) (hn:1≤n) (Bs len cap:Nat) (ao ap:Option Addr) (ns:Nat→List UInt8) (hlen:len≤100000) (hcap:len≤cap) (w:World)
  (hBs:w.cell? ⟨Bs,0,none⟩=some (.slice ao len cap)) (hc:∀ j,j<len→∃ g,ao=some ⟨g,0,none⟩∧ap=some ⟨g,0,none⟩∧w.cell? ⟨g,j,none⟩=some (.string (bs (ns j)))) :
  SeqStopsK F n Tryz.prog 269 #[.pointer (some ⟨Bs,0,none⟩)] (fun x:Fin len=>#[.int .i64 (x.1:Int),.string (bs (ns x.1))]) (KpBack Bs ap) (fun ys=>ys=backs len 0) (fun _=>True) len w:=fun l J Jx W hW _ _ hY h0 =>
 slBackStr1_in F n h8 hro hn l Bs len cap ao ap ns hlen hcap J Jx hY W (bSome hW hBs) (fun j hj=>by
  obtain ⟨g,e,e2,c1⟩:=hc j hj
  exact ⟨g,e,e2,bSome hW c1⟩) h0
end Go.Proofs.YtbfeoinoepoiaaaGreatDoor
namespace Go.Proofs.YtbfeoinoepoiaaaGreatDoor
set_option maxHeartbeats 4000000
set_option maxRecDepth 100000
open Go Go.RowKit Go.Shelf
attribute [local go_sem] Oper.semAt_some
theorem NSl.others {w w':World} {b:Nat} {v:Value} {l:Prog} {row:Option Nat} (h:NSl w b v l) (hg:w.grownBy w' row) (hr:∀ r,row=some r→∃ o:Obj,w.heap[r]?=some o∧o.isCells=false):NSl w' b v l:=h.of_block fun g cur fz h4 _=>hg.block g (lt_of_block h4) (fun e=>by
 obtain ⟨o,h7,h8⟩:=hr g e.symm
 rw [h4] at h7
 cases h7
 cases h8)
theorem KeepsOthers.ofBelow {w w':World} (h:Below w.heap.size w w'):KeepsOthers w w':=⟨h.size,fun k _ hk _=>(h.block k (Array.getElem?_eq_some_iff.1 hk).1).trans hk⟩
theorem KpBack.ofBelow {Bs:Nat} {ao:Option Addr} {w w':World} (h:Below w.heap.size w w') (h1:Bs<w.heap.size) (h2:∀ k,ao=some ⟨k,0,none⟩→k<w.heap.size):KpBack Bs ao w w':=fun k hk=>h.block k (by
 rcases hk with rfl | hk
 ·exact h1
 ·exact h2 k hk)
end Go.Proofs.YtbfeoinoepoiaaaGreatDoor

namespace Go.Proofs.YtbfeoinoepoiaaaGreatDoor
open Go Go.RowKit Go.Shelf
theorem SSl.facts {w:World} {ao:Option Addr} {n cap:Nat} {L:List (List UInt8)} (h:SSl w (.slice ao n cap) L):n=L.length∧n≤cap∧(∀ k,ao=some ⟨k,0,none⟩→0<n→k<w.heap.size)∧∀ j,j<n→∃ g,ao=some ⟨g,0,none⟩∧w.cell? ⟨g,j,none⟩=some (.string (bs (L.getD j []))):=by
 obtain ⟨ao',cap',hv,h1,h2,h3⟩:=h
 cases hv
 refine ⟨rfl,h1,fun k hk hl=>?_,fun j hj=>?_⟩
 ·obtain ⟨g,e,q,_⟩:=h3 hl
  rw [hk] at e
  cases e
  exact q
 ·obtain ⟨g,e,q,r⟩:=h3 (by omega)
  refine ⟨g,e,?_⟩
  rw [List.getD_eq_getElem?_getD,List.getElem?_eq_getElem hj]
  exact r j _ (List.getElem?_eq_getElem hj)
theorem KSl.facts {w:World} {b:Nat} {ao:Option Addr} {n cap:Nat} {L:List Prog} (h:KSl w b (.slice ao n cap) L) (hp:∀ l∈L,0<l.length):n=L.length∧n≤cap∧∀ j,j<n→∃ g u,ao=some ⟨g,0,none⟩∧w.cell? ⟨g,j,none⟩=some u∧NSl w b u (L.getD j []):=by
 obtain ⟨ao',cap',hv,h1,h2,h3⟩:=h
 cases hv
 refine ⟨rfl,h1,fun j hj=>?_⟩
 obtain ⟨g,e,q,q2,r⟩:=h3 (by omega)
 obtain ⟨u,u1,u2⟩:=r j _ (List.getElem?_eq_getElem hj)
 refine ⟨g,u,e,u1,?_⟩
 rw [List.getD_eq_getElem?_getD,List.getElem?_eq_getElem hj]
 rcases u2 with u2 | ⟨_,u2⟩
 ·exact u2
 ·have:=hp _ (List.getElem_mem hj)
  rw [u2] at this
  simp at this
def setP (x:List UInt8 × Prog):Prog:=newP 22 0 x.1 [x.2]
theorem setP_take (S:List (List UInt8 × Prog)) (k:Nat) (h:k<S.length):(S.take (k+1)).map setP=(S.take k).map setP++[newP 22 0 ((S.map (·.1)).getD k []) [(S.map (·.2)).getD k []]]:=by
 rw [List.take_succ_eq_append_getElem h,List.map_append]
 simp [setP,List.getD_eq_getElem?_getD,List.getElem?_eq_getElem h]
theorem setP_len (S:List (List UInt8 × Prog)):(S.map setP).flatten.length=setsLen S∧∀ l∈S.map setP,0<l.length:=by
 constructor
 ·induction S with
  | nil=>rfl
  | cons x S ih =>
   rw [List.map_cons,List.flatten_cons,List.length_append,ih]
   have:(setP x).length=x.2.length+1:=(len_one _ _ _ _).1
   simp only [setsLen,List.map_cons,List.sum_cons]
   omega
 ·intro l hl
  obtain ⟨x,_,rfl⟩:=List.mem_map.1 hl
  exact newP_pos _ _ _ _
theorem setsLen_mem (S:List (List UInt8 × Prog)) (x:List UInt8 × Prog) (h:x∈S):x.2.length+1≤setsLen S:=by
 induction S with
 | nil=>simp at h
 | cons y S ih =>
  simp only [setsLen,List.map_cons,List.sum_cons] at ih ⊢
  rcases List.mem_cons.1 h with rfl | h
  ·omega
  ·have:=ih h
   omega
attribute [local go_sem] Oper.semAt_some
def localsP (l:List (List UInt8 × Prog)) (c:Prog):Prog:=l.foldr (fun x c=>newP 35 0 x.1 [x.2,c]) c
theorem back_list2 (S:List (List UInt8 × Prog)):(List.finRange S.length).map (fun x=>((fun j=>(S.map (·.1)).getD j []) x.1,(fun j=>(S.map (·.2)).getD j []) x.1))=S:=by
 apply List.ext_getElem
 ·simp
 ·intro i h1 h2
  simp
end Go.Proofs.YtbfeoinoepoiaaaGreatDoor

namespace Go.Proofs.YtbfeoinoepoiaaaGreatDoor
open Go Go.RowKit
end Go.Proofs.YtbfeoinoepoiaaaGreatDoor
namespace Go.Proofs.YtbfeoinoepoiaaaGreatDoor
open Go Go.RowKit
theorem KOwn.one {w:World} {B b:Nat} {u:Value} {l:Prog} (hB:B≤w.heap.size) (hu:NSl w b u l):KOwn (w.alloc (.cells #[u] 23)) B b (.slice (some ⟨w.heap.size,0,none⟩) 1 1) [l]:=by
 refine ⟨[u],rfl,⟨rfl,.inr ⟨w.heap.size,1,#[u],rfl,hB,?_,Nat.le_refl _,by unfold maxLen; omega,rfl,rfl⟩⟩,fun i x y hx hy=>?_⟩
 ·show (w.heap.push _)[w.heap.size]?=_
  rw [Array.getElem?_push,if_pos rfl]
 ·cases i with
  | zero =>
   cases hx
   cases hy
   exact hu.below ((Below.refl _ w).alloc (Nat.le_refl _) _)
  | succ i=>simp at hx
theorem KOwn.grown2 {w0 w w':World} {b:Nat} {v v':Value} {L:List Prog} {l1 l2:Prog} {p1 p2:Value} {us:List Value} {o:Obj} (hs:w0.heap.size≤w.heap.size) (h1:us.length=L.length) (h2:w.ownsRow w0.heap.size 23 1 v L.length us) (h3:∀ (i:Nat) (u:Value) (l:Prog),us[i]?=some u→L[i]?=some l→NSl w b u l) (hu1:NSl w b p1 l1) (hu2:NSl w b p2 l2)
  (hown:w'.ownsRow w0.heap.size 23 1 v' (L.length+2) (us++[p1,p2])) (hg:(w.alloc o).grownBy w' v.ownBlock):KOwn w' w0.heap.size b v' (L++[l1,l2])∧Below w0.heap.size w w':=by
 have hb1:=(Below.refl w.heap.size w).alloc (Nat.le_refl _) o
 have hrow:∀ k,v.ownBlock=some k→∃ cur fz t,(w.alloc o).heap[k]?=some (.cells cur t fz)∧t≠74:=fun k hk=>by
  obtain ⟨cur,fz,e⟩:=ownsRow_tag h2 k hk
  exact ⟨cur,fz,23,(hb1.block k (lt_of_block e)).trans e,by decide⟩
 have hlt:=World.ownsRow.lt h2
 have hsame:∀ x l,NSl w b x l→NSl w' b x l:=fun x l hx=>(hx.below hb1).grown hg hrow
 refine ⟨⟨us++[p1,p2],by simp [h1],by rw [List.length_append]; exact hown,fun i x y hx hy=>?_⟩,?_⟩
 ·by_cases hi:i<us.length
  ·rw [List.getElem?_append_left hi] at hx
   rw [List.getElem?_append_left (by omega)] at hy
   exact hsame _ _ (h3 i x y hx hy)
  ·rw [List.getElem?_append_right (by omega)] at hx hy
   obtain ⟨k,hk⟩:∃ k,i - us.length=k:=⟨_,rfl⟩
   have hk2:i - L.length=k:=by omega
   rw [hk] at hx
   rw [hk2] at hy
   match k with
   | 0 =>
    cases hx
    cases hy
    exact hsame _ _ hu1
   | 1 =>
    cases hx
    cases hy
    exact hsame _ _ hu2
   | k+2=>simp at hx
 ·exact (hb1.mono hs).trans ((Kept.grown (S:=fun k=>some k=v.ownBlock) (Kept.refl _ _) hg (fun k h _=>h.symm)).below (by simp; omega) (fun i hi e=>by have:=hlt _ e.symm; omega))
end Go.Proofs.YtbfeoinoepoiaaaGreatDoor

namespace Go.Proofs.YtbfeoinoepoiaaaGreatDoor
open Go Go.RowKit
theorem SOwn.grown {w0 w w':World} {v v':Value} {L:List (List UInt8)} {s:List UInt8} {o:Obj} (hs:w0.heap.size≤w.heap.size) (h2:SOwn w w0.heap.size v L)
  (hown:w'.ownsRow w0.heap.size 9 1 v' (L.length+1) (L.map (fun s=>Value.string (bs s))++[.string (bs s)])) (hg:(w.alloc o).grownBy w' v.ownBlock):SOwn w' w0.heap.size v' (L++[s])∧Below w0.heap.size w w':=by
 have hb1:=(Below.refl w.heap.size w).alloc (Nat.le_refl _) o
 have hlt:=World.ownsRow.lt h2
 refine ⟨?_,?_⟩
 ·unfold SOwn
  rw [List.length_append,List.map_append]
  exact hown
 ·exact (hb1.mono hs).trans ((Kept.grown (S:=fun k=>some k=v.ownBlock) (Kept.refl _ _) hg (fun k h _=>h.symm)).below (by simp; omega) (fun i hi e=>by have:=hlt _ e.symm; omega))
end Go.Proofs.YtbfeoinoepoiaaaGreatDoor

namespace Go.Proofs.YtbfeoinoepoiaaaGreatDoor
open Go Go.RowKit
theorem NRow.facts {w:World} {g:Nat} {l:Prog} (h:NRow w g l) {k:Nat} {x:PNode} (hx:l[k]?=some x) :
  w.cell? ⟨g,k * 5,none⟩=some (.int .i64 x.kind)∧w.cell? ⟨g,k * 5+1,none⟩=some (.int .i64 x.n)∧w.cell? ⟨g,k * 5+2,none⟩=some (.int .i64 x.k)∧w.cell? ⟨g,k * 5+3,none⟩=some (.int .i64 x.size)∧w.cell? ⟨g,k * 5+4,none⟩=some (.string (bs x.text)):=by
 have hf:∀ j u,x.cells[j]?=some u→w.cell? ⟨g,k * 5+j,none⟩=some u:=fun j u hu=>by
  have:=h _ _ (flat_get PNode.cells 5 node_cells l k j x u hx hu)
  rwa [Nat.mul_comm] at this
 exact ⟨hf 0 _ rfl,hf 1 _ rfl,hf 2 _ rfl,hf 3 _ rfl,hf 4 _ rfl⟩
theorem tooLong_take {l:Prog} {k:Nat} {x:PNode} (hx:l[k]?=some x) (h:tooLong (l.take k)=false):tooLong (l.take (k+1))=(decide (x.kind=1) && decide (2000<x.text.length)):=by
 obtain ⟨hk,e⟩:=List.getElem?_eq_some_iff.1 hx
 unfold tooLong at *
 rw [List.take_succ_eq_append_getElem hk,e,List.any_append,h]
 simp
theorem tooLong_some {l:Prog} {k:Nat} (h:tooLong (l.take k)=true):tooLong l=true:=by
 unfold tooLong at *
 rw [List.any_eq_true] at *
 obtain ⟨x,hx,h2⟩:=h
 exact ⟨x,List.mem_of_mem_take hx,h2⟩
end Go.Proofs.YtbfeoinoepoiaaaGreatDoor
