/- Dialect B's parser in memory: what its blocks hold; Lex as a contract. -/
import Derived.Test.YtbfeoinoepoiaaaGreatDoorGZB
import Derived.Test.YtbfeoinoepoiaaaGreatDoorGZA
import Derived.Test.YtbfeoinoepoiaaaGreatDoorGParseG
import Derived.Deep.RegionHeld3
import Derived.Deep.DrawnRows
import Derived.Deep.DeepCutAuto
namespace Go.Proofs.YtbfeoinoepoiaaaGreatDoor
set_option maxHeartbeats 4000000
set_option maxRecDepth 100000
open Go Go.RowKit
theorem row_cell {w:World} {B:Nat} {e:TypeId} {size:Nat} {v:Value} {n:Nat} {xs:List Value} (h:w.ownsRow B e size v n xs) (hn:0<n) :
  ∃ g cap,v = .slice (some ⟨g,0,none⟩) n cap∧n≤cap∧cap≤maxLen∧B≤g∧g<w.heap.size∧∀ (k:Nat) (u:Value),xs[k]?=some u→w.cell? ⟨g,k,none⟩=some u:=by
 rcases h.2 with ⟨_,h0⟩ | ⟨g,cap,cur,hv,hg,hh,hc1,hc2,hsz,ht⟩
 ·omega
 ·refine ⟨g,cap,hv,hc1,hc2,hg,lt_of_block hh,fun k u hk=>?_⟩
  rw [← ht,List.getElem?_take] at hk
  split at hk
  ·simp only [World.cell?,hh]
   simpa using hk
  ·cases hk
theorem flat_get {α:Type} (f:α→List Value) (m:Nat) (hm:∀ a,(f a).length=m):∀ (ts:List α) (i j:Nat) (t:α) (u:Value),ts[i]?=some t→(f t)[j]?=some u→(ts.flatMap f)[m * i+j]?=some u
 | [],i,j,t,u,h,_=>by simp at h
 | a :: ts,0,j,t,u,h,hu=>by
  simp only [List.getElem?_cons_zero,Option.some.injEq] at h
  subst h
  have hj:=(List.getElem?_eq_some_iff.1 hu).1
  rw [List.flatMap_cons,Nat.mul_zero,Nat.zero_add,List.getElem?_append_left hj]
  exact hu
 | a :: ts,i+1,j,t,u,h,hu=>by
  rw [List.flatMap_cons,List.getElem?_append_right (by rw [hm,Nat.mul_succ]; omega),hm,Nat.mul_succ,show m * i+m+j - m=m * i+j from by omega]
  exact flat_get f m hm ts i j t u (by simpa using h) hu
end Go.Proofs.YtbfeoinoepoiaaaGreatDoor
namespace Go.Proofs.YtbfeoinoepoiaaaGreatDoor
set_option maxHeartbeats 4000000
set_option maxRecDepth 100000
open Go Go.RowKit
attribute [local go_sem ↓] Go.wp_at_zero Go.wp_at_succ
theorem bDrew1 {B:Nat} {a w:World} (h:Below B a w):Below B a w.drew:=⟨h.os,h.tape,h.output,h.size,h.block⟩
theorem ints_cells {w:World} {kb:Nat} {ks:List Nat} (hk:Blk w kb (ks.map fun (k:Nat)=>Value.int .i64 (k:Int))):∀ j,j<(ks.map fun (k:Nat)=>(k:Int)).length→w.cell? ⟨kb,0+j,none⟩=some (.int .i64 ((ks.map fun (k:Nat)=>(k:Int)).getD j 0)):=fun j hj=>by
 rw [List.length_map] at hj
 rw [Nat.zero_add]
 refine hk.cell j ?_
 rw [List.getElem?_map,List.getElem?_eq_getElem hj,Option.map_some,List.getD_eq_getElem?_getD,List.getElem?_map,List.getElem?_eq_getElem hj]
 rfl
theorem ints_contain (ks:List Nat) (x:Nat):(((ks.map fun (k:Nat)=>(k:Int))).take ks.length).contains (x:Int)=ks.contains x:=by
 rw [List.take_of_length_le (by simp),Bool.eq_iff_iff,List.contains_iff_mem,List.contains_iff_mem,List.mem_map]
 constructor
 ·rintro ⟨a,h1,h2⟩
  obtain rfl:a=x:=by omega
  exact h1
 ·exact fun h=>⟨x,h,rfl⟩
end Go.Proofs.YtbfeoinoepoiaaaGreatDoor
namespace Go.Proofs.YtbfeoinoepoiaaaGreatDoor
set_option maxHeartbeats 4000000
set_option maxRecDepth 100000
open Go Go.RowKit
theorem env_at {w:World} {sent:Nat→Addr} (hE:Env w sent) (c g:Nat) (h:(c,g)∈errVars):w.cell? ⟨g,0,none⟩=some (.iface 289 (.pointer (some (sent c)))):=hE c g h
end Go.Proofs.YtbfeoinoepoiaaaGreatDoor
namespace Go.Proofs.YtbfeoinoepoiaaaGreatDoor
set_option maxHeartbeats 4000000
set_option maxRecDepth 100000
open Go Go.RowKit
theorem infoNode:(Tryz.prog.info? 74).map (fun i=>(i.zero,i.size,i.bytes))=some (some (.agg #[.int .i64 0,.int .i64 0,.int .i64 0,.int .i64 0,.string ⟨#[]⟩]),5,48):=by kernel_rfl
theorem infoNodes:(Tryz.prog.info? 23).map (fun i=>(i.zero,i.size,i.bytes))=some (some (.slice none 0 0),1,24):=by kernel_rfl
theorem node_cells (x:PNode):x.cells.length=5:=rfl
theorem nodes_len (l:Prog):(l.flatMap PNode.cells).length=l.length * 5:=by
 induction l with
 | nil=>rfl
 | cons a l ih=>rw [List.flatMap_cons,List.length_append,ih,node_cells,List.length_cons]; omega
def NRow (w:World) (g:Nat) (l:Prog):Prop:=∀ (k:Nat) (u:Value),(l.flatMap PNode.cells)[k]?=some u→w.cell? ⟨g,k,none⟩=some u
def NSl (w:World) (b:Nat) (v:Value) (l:Prog):Prop:=∃ g cap,v = .slice (some ⟨g,0,none⟩) l.length cap∧l.length≤cap∧cap≤maxLen∧(∃ cur fz,w.heap[g]?=some (.cells cur 74 fz))∧g≠b∧NRow w g l
theorem NSl.of_block {w w':World} {b:Nat} {v:Value} {l:Prog} (h:NSl w b v l) (hb:∀ g cur fz,w.heap[g]?=some (.cells cur 74 fz)→g≠b→w'.heap[g]?=w.heap[g]?):NSl w' b v l:=by
 obtain ⟨g,cap,h1,h2,h3,⟨cur,fz,h4⟩,h5,h6⟩:=h
 have he:=hb g cur fz h4 h5
 exact ⟨g,cap,h1,h2,h3,⟨cur,fz,he.trans h4⟩,h5,fun k u hk=>(World.cell?_of_block (w:=w) he).trans (h6 k u hk)⟩
theorem NSl.below {w w':World} {b:Nat} {v:Value} {l:Prog} (h:NSl w b v l) (hb:Below w.heap.size w w'):NSl w' b v l:=h.of_block fun g _ _ h4 _=>hb.block g (lt_of_block h4)
theorem NSl.kept {w w':World} {b:Nat} {v:Value} {l:Prog} (h:NSl w b v l) (hk:Kept (At b) w w'):NSl w' b v l:=h.of_block fun g _ _ h4 h5=>hk.block g (lt_of_block h4) h5
theorem NSl.grown {w w':World} {b:Nat} {v:Value} {l:Prog} {row:Option Nat} (h:NSl w b v l) (hg:w.grownBy w' row) (hr:∀ k,row=some k→∃ cur fz t,w.heap[k]?=some (.cells cur t fz)∧t≠74):NSl w' b v l:=h.of_block fun g cur fz h4 _=>hg.block g (lt_of_block h4) (fun e=>by
 obtain ⟨c2,f2,t2,h7,h8⟩:=hr g e.symm
 rw [h4] at h7
 injection h7 with h7
 injection h7 with _ h9 _
 exact h8 h9.symm)
theorem ownsRow_tag {w:World} {B:Nat} {e:TypeId} {size:Nat} {v:Value} {n:Nat} {xs:List Value} (h:w.ownsRow B e size v n xs):∀ k,v.ownBlock=some k→∃ cur fz,w.heap[k]?=some (.cells cur e fz):=fun k hk=>by
 rcases h.2 with ⟨hv,_⟩ | ⟨g,cap,cur,hv,hg,hh,r⟩
 ·rw [hv] at hk
  cases hk
 ·rw [hv] at hk
  cases hk
  exact ⟨cur,_,hh⟩
def NOwn (w:World) (B:Nat) (v:Value) (l:Prog):Prop:=w.ownsRow B 74 5 v l.length (l.flatMap PNode.cells)
theorem NOwn.nsl {w:World} {B b:Nat} {v:Value} {l:Prog} (h:NOwn w B v l) (hl:0<l.length) (hb:b<B):NSl w b v l:=by
 obtain ⟨g,cap,h1,h2,h3,h4,h5,h6⟩:=row_cell h hl
 exact ⟨g,cap,h1,h2,h3,by
  obtain ⟨cur,fz,e⟩:=ownsRow_tag h g (by rw [h1]; rfl)
  exact ⟨cur,fz,e⟩,by omega,h6⟩
theorem NOwn.kept {w w':World} {B:Nat} {v:Value} {l:Prog} {S:Nat→Prop} (h:NOwn w B v l) (hk:Kept S w w') (hS:∀ k,v.ownBlock=some k→¬ S k):NOwn w' B v l:=by
 refine ⟨h.1,?_⟩
 rcases h.2 with h2 | ⟨g,cap,cur,hv,hg,hh,r⟩
 ·exact .inl h2
 ·exact .inr ⟨g,cap,cur,hv,hg,(hk.block g (lt_of_block hh) (hS g (by rw [hv]; rfl))).trans hh,r⟩
theorem NOwn.below {w w':World} {B:Nat} {v:Value} {l:Prog} (h:NOwn w B v l) (hb:Below w.heap.size w w'):NOwn w' B v l :=
 h.kept (Kept.ofBelow hb:Kept Nowhere w w') (fun _ _ e=>e)
theorem NOwn.mono {w:World} {B B':Nat} {v:Value} {l:Prog} (h:NOwn w B v l) (hB:B'≤B):NOwn w B' v l:=by
 refine ⟨h.1,?_⟩
 rcases h.2 with h2 | ⟨g,cap,cur,hv,hg,r⟩
 ·exact .inl h2
 ·exact .inr ⟨g,cap,cur,hv,Nat.le_trans hB hg,r⟩
theorem NOwn.form {w:World} {B:Nat} {v:Value} {l:Prog} (h:NOwn w B v l) (hl:0<l.length):∃ g cap,v = .slice (some ⟨g,0,none⟩) l.length cap∧l.length≤cap∧B≤g∧g<w.heap.size:=by
 obtain ⟨g,cap,h1,h2,_,h4,h5,_⟩:=row_cell h hl
 exact ⟨g,cap,h1,h2,h4,h5⟩
def NSl0 (w:World) (b:Nat) (u:Value) (l:Prog):Prop:=NSl w b u l∨(u = .slice none 0 0∧l=[])
theorem NSl0.below {w w':World} {b:Nat} {u:Value} {l:Prog} (h:NSl0 w b u l) (hb:Below w.heap.size w w'):NSl0 w' b u l:=h.imp (fun h=>h.below hb) id
theorem NSl0.kept {w w':World} {b:Nat} {u:Value} {l:Prog} (h:NSl0 w b u l) (hk:Kept (At b) w w'):NSl0 w' b u l:=h.imp (fun h=>h.kept hk) id
theorem NSl0.form {w:World} {b:Nat} {u:Value} {l:Prog} (h:NSl0 w b u l):∃ ao cap,u = .slice ao l.length cap:=by
 rcases h with ⟨g,cap,h,_⟩ | ⟨rfl,rfl⟩
 ·exact ⟨_,_,h⟩
 ·exact ⟨none,0,rfl⟩
def KSl (w:World) (b:Nat) (v:Value) (L:List Prog):Prop:=∃ ao cap,v = .slice ao L.length cap∧L.length≤cap∧cap≤maxLen ∧
 (0<L.length→∃ g,ao=some ⟨g,0,none⟩∧g<w.heap.size∧g≠b∧∀ (i:Nat) (l:Prog),L[i]?=some l→∃ u,w.cell? ⟨g,i,none⟩=some u∧NSl0 w b u l)
theorem KSl.below {w w':World} {b:Nat} {v:Value} {L:List Prog} (h:KSl w b v L) (hb:Below w.heap.size w w'):KSl w' b v L:=by
 obtain ⟨ao,cap,h1,h2,h3,h4⟩:=h
 refine ⟨ao,cap,h1,h2,h3,fun hl=>?_⟩
 obtain ⟨g,e1,e2,e3,e4⟩:=h4 hl
 refine ⟨g,e1,Nat.lt_of_lt_of_le e2 hb.size,e3,fun i l hi=>?_⟩
 obtain ⟨u,u1,u2⟩:=e4 i l hi
 exact ⟨u,bSome hb u1,u2.below hb⟩
theorem KSl.new {w:World} {b:Nat} {us:List Value} {L:List Prog} {n:Nat} (hb:b<w.heap.size) (hn:L.length=n) (hl:us.length=n) (hm:n≤1000) (h:∀ (i:Nat) (u:Value) (l:Prog),us[i]?=some u→L[i]?=some l→NSl0 w b u l):KSl (w.alloc (.cells us.toArray 23)) b (.slice (some ⟨w.heap.size,0,none⟩) n n) L:=by
 subst hn
 refine ⟨_,_,rfl,Nat.le_refl _,by unfold maxLen; omega,fun _=>⟨w.heap.size,rfl,by simp,by omega,fun i l hi=>?_⟩⟩
 have hil:=(List.getElem?_eq_some_iff.1 hi).1
 have hu:us[i]?=some us[i]:=List.getElem?_eq_getElem (by omega)
 exact ⟨_,(Blk.new w us 23).cell i hu,(h i _ l hu hi).below ((Below.refl _ w).alloc (Nat.le_refl _) _)⟩
theorem KSl.new1 {w:World} {b:Nat} {u:Value} {l:Prog} (hb:b<w.heap.size) (h:NSl0 w b u l):KSl (w.alloc (.cells #[u] 23)) b (.slice (some ⟨w.heap.size,0,none⟩) 1 1) [l] :=
 KSl.new (us:=[u]) hb rfl rfl (by omega) fun i x y hx hy=>by
  match i,hx,hy with
  | 0,hx,hy=>cases hx; cases hy; exact h
  | i+1,hx,_=>simp at hx
theorem KSl.new2 {w:World} {b:Nat} {u v:Value} {l m:Prog} (hb:b<w.heap.size) (h:NSl0 w b u l) (h2:NSl0 w b v m):KSl (w.alloc (.cells #[u,v] 23)) b (.slice (some ⟨w.heap.size,0,none⟩) 2 2) [l,m] :=
 KSl.new (us:=[u,v]) hb rfl rfl (by omega) fun i x y hx hy=>by
  match i,hx,hy with
  | 0,hx,hy=>cases hx; cases hy; exact h
  | 1,hx,hy=>cases hx; cases hy; exact h2
  | i+2,hx,_=>simp at hx
theorem KSl.new3 {w:World} {b:Nat} {u v z:Value} {l m n:Prog} (hb:b<w.heap.size) (h:NSl0 w b u l) (h2:NSl0 w b v m) (h3:NSl0 w b z n):KSl (w.alloc (.cells #[u,v,z] 23)) b (.slice (some ⟨w.heap.size,0,none⟩) 3 3) [l,m,n] :=
 KSl.new (us:=[u,v,z]) hb rfl rfl (by omega) fun i x y hx hy=>by
  match i,hx,hy with
  | 0,hx,hy=>cases hx; cases hy; exact h
  | 1,hx,hy=>cases hx; cases hy; exact h2
  | 2,hx,hy=>cases hx; cases hy; exact h3
  | i+3,hx,_=>simp at hx
theorem KSl.nil (w:World) (b:Nat):KSl w b (.slice none 0 0) []:=⟨none,0,rfl,Nat.le_refl _,Nat.zero_le _,fun h=>absurd h (by simp)⟩
theorem NOwn.setSize {w:World} {B g n cap:Nat} {x:PNode} {l:Prog} (h:NOwn w B (.slice (some ⟨g,0,none⟩) n cap) (x :: l)) (z:Int) :
  NOwn (w.setCell ⟨g,3,none⟩ (.int .i64 z)) B (.slice (some ⟨g,0,none⟩) n cap) ({ x with size:=z } :: l):=by
 refine ⟨by rw [nodes_len],?_⟩
 rcases h.2 with ⟨hv,h0⟩ | ⟨g',cap',cur,hv,hg,hh,hc1,hc2,hsz,ht⟩
 ·simp at h0
 ·injection hv with e1 e2 e3
  injection e1 with e1
  injection e1 with e1
  subst e1 e2 e3
  have hgl:=lt_of_block hh
  refine .inr ⟨g,cap,cur.set! 3 (.int .i64 z),by simp,hg,?_,by simpa using hc1,hc2,by simpa using hsz,?_⟩
  ·show (w.heap.modify g _)[g]?=_
   have h':w.heap[g] = .cells cur 74 (0,0):=by simpa [Array.getElem?_eq_getElem hgl] using hh
   rw [Array.getElem?_eq_getElem (by simpa using hgl),Array.getElem_modify_self,h']
   simp
  ·rw [Array.set!_eq_setIfInBounds,Array.toList_setIfInBounds,List.take_set]
   have e:({ x with size:=z } :: l).length * 5=(x :: l).length * 5:=by simp
   rw [e,ht,List.flatMap_cons,List.flatMap_cons]
   rfl
theorem NOwn.one {w:World} {B b:Nat} (x:PNode) (hB:B≤w.heap.size) (hb:b=w.heap.size):NOwn (w.alloc (.cells x.cells.toArray 74)) B (.slice (some ⟨b,0,none⟩) 1 1) [x]:=by
 subst hb
 refine ⟨rfl,.inr ⟨w.heap.size,1,x.cells.toArray,rfl,hB,?_,Nat.le_refl _,by unfold maxLen; omega,rfl,?_⟩⟩
 ·show (w.heap.push _)[w.heap.size]?=_
  rw [Array.getElem?_push,if_pos rfl]
 ·simp [PNode.cells]
end Go.Proofs.YtbfeoinoepoiaaaGreatDoor
namespace Go.Proofs.YtbfeoinoepoiaaaGreatDoor
set_option maxHeartbeats 4000000
set_option maxRecDepth 100000
open Go Go.RowKit
theorem NOwn.lt {w:World} {B:Nat} {v:Value} {l:Prog} (h:NOwn w B v l):∀ k,v.ownBlock=some k→B≤k∧k<w.heap.size:=World.ownsRow.lt h
theorem nodes_one (l:Prog):∀ u∈l.flatMap PNode.cells,u.oneCell'=true:=by
 intro u hu
 rw [List.mem_flatMap] at hu
 obtain ⟨x,_,hx⟩:=hu
 simp only [PNode.cells,List.mem_cons,List.not_mem_nil,or_false] at hx
 rcases hx with rfl | rfl | rfl | rfl | rfl <;> rfl
theorem take_flat (L:List Prog) (k:Nat) (l:Prog) (h:L[k]?=some l):(L.take (k+1)).flatten=(L.take k).flatten++l:=by
 obtain ⟨hk,e⟩:=List.getElem?_eq_some_iff.1 h
 rw [List.take_succ_eq_append_getElem hk,e]
 simp
theorem take_len (L:List Prog) (k:Nat):(L.take k).flatten.length≤L.flatten.length:=by
 have h:L.flatten=(L.take k).flatten++(L.drop k).flatten:=by rw [← List.flatten_append,List.take_append_drop]
 rw [h,List.length_append]
 omega
theorem cNew_any (kind n:Int) (s:List UInt8) (L:List Prog) (b:Nat) (v:Value) (w:World) (hK:KSl w b v L) (hsz:L.flatten.length≤1000000000000) (hnum:L.length≤100000000) :
  Calls Tryz.prog 14 #[.int .i64 kind,.int .i64 n,.string (bs s),v] w fun e w'=>∃ v',e = .returned v'∧NOwn w' w.heap.size v' (newP kind n s L)∧Below w.heap.size w w':=by
 obtain ⟨i0,hi0,hz0,hz1,hz2⟩:=info_parts infoNode
 have HK:=Lib.hid hK
 obtain ⟨ao,cap,hv,hc1,hc2,hc3⟩:=hK
 subst hv
 obtain ⟨N,hN⟩:∃ N,L.length=N:=⟨_,rfl⟩
 have HN:=Lib.hid hN
 rw [hN] at hc1 hc3 hnum ⊢
 have HC:=Lib.hid hc3
 clear hN hc3
 have hO:=NOwn.one (w:=w) (B:=w.heap.size) (b:=w.heap.size) ⟨kind,n,N,0,s⟩ (Nat.le_refl _) rfl
 unfold PNode.cells at hO
 go_enter Tryz.func14,Tryz.ntmps14
 go_wp2_with fail
 go_loopg [9,11,21] N (fun m o x c wr=>∃ k:Nat,m=N - k∧k≤N∧c = .int .i64 k∧NOwn wr w.heap.size o (⟨kind,n,N,0,s⟩ :: (L.take k).flatten)∧Below w.heap.size w wr)
 case atStart=>exact ⟨0,rfl,Nat.zero_le _,rfl,hO,(Below.refl _ _).alloc (Nat.le_refl _) _⟩
 case round =>
  clear hO
  obtain ⟨k,rfl,hkn,rfl,hOw,hb⟩:=hrel
  by_cases hlt:k<N
  ·obtain ⟨g,rfl,hg1,hg2,hg3⟩:=HC.out (by omega)
   obtain ⟨l,hl⟩:∃ l,L[k]?=some l:=⟨_,List.getElem?_eq_getElem (by have:=HN.out; omega)⟩
   obtain ⟨u,hu,hul⟩:=hg3 k l hl
   have hu':=bSome hb hu
   have HF:=Lib.hid (take_flat L k l hl)
   rcases hul.below hb with hN0 | ⟨rfl,rfl⟩
   ·obtain ⟨g',cap',rfl,d1,d2,d3,d4,d5⟩:=hN0
    obtain ⟨o1,o2,rfl,o3,o4,o5⟩:=hOw.form (by simp)
    have HF:=Lib.hid (take_flat L k l hl)
    have hlen:=take_len L (k+1)
    rw [HF.out,List.length_append] at hlen
    obtain ⟨m1,hm1⟩:∃ m,(⟨kind,n,N,0,s⟩ :: (L.take k).flatten:Prog).length=m:=⟨_,rfl⟩
    have hm2:m1≤1000000000001:=by rw [← hm1,List.length_cons]; omega
    have hm3:m1+l.length≤1000000000001:=by rw [← hm1,List.length_cons]; omega
    have HM:=Lib.hid hm1
    have HO:=Lib.hid hOw
    rw [hm1] at HO ⊢
    clear hm1 hlen hl hu hg3 hul
    go_wp2_with (at_builtin; refine wpList_append_own _ rfl _ _ 23 rfl w.heap.size 74 i0 _ 5 48 Tryz.underlying23 hi0 hz0 hz1 hz2 rfl (by decide) _ m1 _ rfl (by have:=HO.out; unfold NOwn at this; rw [HM.out] at this; exact this) ⟨g',0,none⟩ l.length cap' (l.flatMap PNode.cells) rfl (nodes_len l) ?c1 ?c2 ?c3 ?c4 ?c5 ?_)
    case c1 =>
     intro j u h
     have:=d5 j u h
     cases j <;> simpa [Addr.add] using this
    case c2=>exact nodes_one l
    case c3=>unfold maxLen; omega
    case c4=>omega
    case c5=>exact hb.size
    intro v' w5 hown' hgrow _
    have hO5:NOwn w5 w.heap.size v' (⟨kind,n,N,0,s⟩ :: (L.take (k+1)).flatten):=by
     rw [HF.out,← List.cons_append]
     unfold NOwn
     rw [List.length_append,List.flatMap_append,HM.out]
     exact hown'
    have hlt5:=HO.out
    have hK5:Kept (fun k'=>some k'=(Value.slice (some ⟨o1,0,none⟩) m1 o2).ownBlock) wr w5:=(Kept.refl _ _).grown hgrow (fun k' h _=>h.symm)
    have hb5:Below w.heap.size w w5:=hb.trans (hK5.below hb.size (fun i hi e=>by have:=hlt5.lt _ e.symm; omega))
    go_wp2_with fail
    go_roundg (N - (k+1))
    case measure=>omega
    case rel=>exact ⟨k+1,rfl,by omega,by go_num,hO5,hb5⟩
   ·obtain ⟨o1,o2,rfl,o3,o4,o5⟩:=hOw.form (by simp)
    have HO:=Lib.hid (show NOwn wr w.heap.size (.slice (some ⟨o1,0,none⟩) (⟨kind,n,N,0,s⟩ :: (L.take k).flatten:Prog).length o2) (⟨kind,n,N,0,s⟩ :: (L.take (k+1)).flatten) from by rw [HF.out,List.append_nil]; exact hOw)
    generalize (⟨kind,n,N,0,s⟩ :: (L.take k).flatten:Prog).length=m1 at *
    clear hOw hl hu hg3 hul
    go_wp2_with fail
    go_roundg (N - (k+1))
    case measure=>omega
    case rel=>exact ⟨k+1,rfl,by omega,by go_num,HO.out,hb⟩
  ·obtain rfl:k=N:=by omega
   obtain ⟨o1,o2,rfl,o3,o4,o5⟩:=hOw.form (by simp)
   have hT:(L.take k).flatten=L.flatten:=by rw [List.take_of_length_le (by have:=HN.out; omega)]
   rw [hT] at hOw o3 ⊢
   have HO:=Lib.hid (show NOwn (wr.setCell ⟨o1,3,none⟩ (.int .i64 ((L.flatten.length:Int)+1))) w.heap.size (.slice (some ⟨o1,0,none⟩) (L.flatten.length+1) o2) (newP kind n s L) from by
    have h:=hOw.setSize ((L.flatten.length:Int)+1)
    have e:=HN.out
    subst e
    exact h)
   have hfz:wr.frozen? ⟨o1,3,none⟩=false:=by
    rcases hOw.2 with ⟨_,h0⟩ | ⟨g',cap',cur,hv,_,hh,_⟩
    ·simp at h0
    ·injection hv with e1 _ _
     injection e1 with e1
     injection e1 with e1
     subst e1
     simp [World.frozen?,hh]
   obtain ⟨g',cap',hv,_,_,_,_,hcell⟩:=row_cell hOw (by simp)
   injection hv with e1 _ e3
   injection e1 with e1
   injection e1 with e1
   subst e1 e3
   have c3:=hcell 3 (.int .i64 0) (by simp [PNode.cells])
   have hwr:IntKind.i64.wrap ((L.flatten.length:Int)+1)=(L.flatten.length:Int)+1:=by rw [IntKind.wrap_i64]; omega
   simp only [List.length_cons] at o3 ⊢
   have HB:=Lib.hid (hb.setCell (p:=⟨o1,3,none⟩) o4 (.int .i64 ((L.flatten.length:Int)+1)))
   clear hOw hcell hb hT
   generalize L.flatten.length=q at *
   go_wp2_with fail
   go_ret
   exact ⟨_,rfl,HO.out,HB.out⟩
end Go.Proofs.YtbfeoinoepoiaaaGreatDoor
namespace Go.Proofs.YtbfeoinoepoiaaaGreatDoor
set_option maxHeartbeats 4000000
set_option maxRecDepth 100000
open Go Go.RowKit
theorem newP_pos (kind n:Int) (s:List UInt8) (L:List Prog):0<(newP kind n s L).length:=by rw [newP]; simp
theorem cNewS_any (kind n:Int) (s:List UInt8) (L:List Prog) (b:Nat) (v:Value) (w:World) (hb:b<w.heap.size) (hK:KSl w b v L) (hsz:L.flatten.length≤1000000000000) (hnum:L.length≤100000000) :
  Calls Tryz.prog 14 #[.int .i64 kind,.int .i64 n,.string (bs s),v] w fun e w'=>∃ v',e = .returned v'∧NSl w' b v' (newP kind n s L)∧Below w.heap.size w w':=by
 refine (cNew_any kind n s L b v w hK hsz hnum).mono ?_
 rintro e w' ⟨v',rfl,h1,h2⟩
 exact ⟨v',rfl,h1.nsl (newP_pos _ _ _ _) hb,h2⟩
theorem cLit_any (s:List UInt8) (b:Nat) (w:World) (hb:b<w.heap.size) :
  Calls Tryz.prog 15 #[.string (bs s)] w fun e w'=>∃ v',e = .returned v'∧NSl w' b v' (litP s)∧Below w.heap.size w w':=by
 go_enter Tryz.func15,Tryz.ntmps15
 go_wp2_with fail
 refine (cNewS_any 1 0 s [] b _ w hb (KSl.nil _ _) (by simp) (by simp)).mono ?_
 rintro e w1 ⟨v1,rfl,h1,h2⟩
 go_wp2_with fail
 go_ret
 exact ⟨_,rfl,h1,h2⟩
theorem slCloneN_any (l:Prog) (b:Nat) (v:Value) (w:World) (hb:b<w.heap.size) (hl:0<l.length) (hsz:l.length≤100000000) (h:NSl w b v l) :
  Calls Tryz.prog 38 #[v] w fun e w'=>∃ v',e = .returned v'∧NSl w' b v' l∧Below w.heap.size w w':=by
 obtain ⟨i0,hi0,hz0,hz1,hz2⟩:=info_parts infoNode
 obtain ⟨g,cap,rfl,h1,h2,h3,h4,h5⟩:=h
 have qT:∀ (w:World) (a:Option Addr) (n c n' c':Nat),(binOp .eql 23 (.slice a n c) (.slice none n' c')).run Tryz.prog w = .ok (.bool a.isNone) w:=fun w a n c n' c'=>Lib.run_eql_slice_nil w _ _ a n c n' c' Tryz.underlying23
 have hO:NOwn (w.alloc (.cells #[] 74)) w.heap.size (.slice (some ⟨w.heap.size,0,none⟩) 0 0) []:=by
  refine ⟨rfl,.inr ⟨w.heap.size,0,#[],rfl,Nat.le_refl _,?_,Nat.le_refl _,Nat.zero_le _,rfl,rfl⟩⟩
  show (w.heap.push _)[w.heap.size]?=_
  rw [Array.getElem?_push,if_pos rfl]
 have hr:∀ j u,(l.flatMap PNode.cells)[j]?=some u→(w.alloc (.cells #[] 74)).cell? ((⟨g,0,none⟩:Addr).add j)=some u:=fun j u hu=>by
  have:=bSome ((Below.refl w.heap.size w).alloc (Nat.le_refl _) (.cells #[] 74)) (h5 j u hu)
  cases j <;> simpa [Addr.add] using this
 have hB1:=(Below.refl w.heap.size w).alloc (Nat.le_refl _) (.cells #[] 74)
 have HL:=Lib.hid hl
 obtain ⟨n,hn⟩:∃ n,l.length=n:=⟨_,rfl⟩
 have HN:=Lib.hid hn
 rw [hn] at hsz h1 ⊢
 clear hn hl
 go_enter Tryz.func38,Tryz.ntmps38
 go_wp2_with (at_builtin; refine wpList_append_own _ rfl _ _ 23 rfl w.heap.size 74 i0 _ 5 48 Tryz.underlying23 hi0 hz0 hz1 hz2 rfl (by decide) _ 0 _ rfl hO ⟨g,0,none⟩ n cap (l.flatMap PNode.cells) rfl (by rw [nodes_len,HN.out]) hr (nodes_one l) ?c3 ?c4 ?c5 ?_)
 case c3=>unfold maxLen; omega
 case c4=>omega
 case c5=>simp
 intro v' w5 hown' hgrow _
 have hO5:NOwn w5 w.heap.size v' l:=by
  unfold NOwn
  rw [HN.out]
  exact hown'
 have hb5:Below w.heap.size w w5:=hB1.trans ((Kept.grown (S:=fun k=>k=w.heap.size) (Kept.refl _ _) hgrow (fun k h _=>by cases h; rfl)).below (by simp) (fun i hi e=>by omega))
 go_wp2_with fail
 go_ret
 exact ⟨_,rfl,hO5.nsl HL.out hb,hb5⟩
theorem KSl.one {w:World} {b:Nat} {v:Value} {l:Prog} (hl:0<l.length) (h:KSl w b v [l]):∃ g cap u,v = .slice (some ⟨g,0,none⟩) 1 cap∧1≤cap∧w.cell? ⟨g,0,none⟩=some u∧NSl w b u l:=by
 obtain ⟨ao,cap,rfl,h1,h2,h3⟩:=h
 obtain ⟨g,rfl,_,_,h4⟩:=h3 (by simp)
 obtain ⟨u,h5,h6⟩:=h4 0 l rfl
 refine ⟨g,cap,u,rfl,h1,h5,?_⟩
 rcases h6 with h6 | ⟨_,rfl⟩
 ·exact h6
 ·simp at hl
theorem cSeq_any (L:List Prog) (b:Nat) (v:Value) (w:World) (hb:b<w.heap.size) (hne:∀ l∈L,0<l.length) (hsz:L.flatten.length≤100000000) (hnum:L.length≤100000000) (h:KSl w b v L) :
  Calls Tryz.prog 16 #[v] w fun e w'=>∃ v',e = .returned v'∧NSl w' b v' (seqP L)∧Below w.heap.size w w':=by
 match L,hne,hsz,hnum,h with
 | [],_,_,_,h =>
  obtain ⟨ao,cap,rfl,_⟩:=h
  go_enter Tryz.func16,Tryz.ntmps16
  go_wp2_with fail
  refine (cNewS_any 20 0 [] [] b _ w hb (KSl.nil _ _) (by simp) (by simp)).mono ?_
  rintro e w1 ⟨v1,rfl,h1,h2⟩
  go_wp2_with fail
  go_ret
  exact ⟨_,rfl,h1,h2⟩
 | [l],hne,hsz,_,h =>
  obtain ⟨g,cap,u,rfl,hc,hu,hul⟩:=h.one (hne l (by simp))
  have HU:=Lib.hid hul
  obtain ⟨g',cap',rfl,-⟩:=hul
  have HC:=Lib.hid (slCloneN_any l b _ w hb (hne l (by simp)) (by simpa using hsz) HU.out)
  go_enter Tryz.func16,Tryz.ntmps16
  go_wp2_with fail
  refine HC.out.mono ?_
  rintro e w1 ⟨v1,rfl,h1,h2⟩
  go_wp2_with fail
  go_ret
  exact ⟨_,rfl,h1,h2⟩
 | l :: m :: r,_,hsz,hnum,h =>
  have HC:=Lib.hid (cNewS_any 23 0 [] (l :: m :: r) b v w hb h (by omega) hnum)
  obtain ⟨ao,cap,rfl,-⟩:=h
  obtain ⟨n,hn⟩:∃ n,(l :: m :: r).length=n+2:=⟨r.length,rfl⟩
  rw [hn] at HC ⊢
  have k0:(((n+2:Nat):Int) == 0)=false:=by rw [beq_eq_false_iff_ne]; omega
  have k1:(((n+2:Nat):Int) == 1)=false:=by rw [beq_eq_false_iff_ne]; omega
  show Calls Tryz.prog 16 _ w fun e w'=>∃ v',e = .returned v'∧NSl w' b v' (newP 23 0 [] (l :: m :: r))∧Below w.heap.size w w'
  clear hn hnum hsz
  go_enter Tryz.func16,Tryz.ntmps16
  go_wp2_with fail
  refine HC.out.mono ?_
  rintro e w1 ⟨v1,rfl,h1,h2⟩
  go_wp2_with fail
  go_ret
  exact ⟨_,rfl,h1,h2⟩
end Go.Proofs.YtbfeoinoepoiaaaGreatDoor
