/- Dialect B's parser: turns in memory. -/
import Derived.Test.YtbpjobmpacjgcaaGreatDoorGZC
import Derived.RangeFuncNested
import Derived.RangeFuncBound
import Derived.RangeFuncCalls
import Derived.RangeFuncLeaves
import Derived.RangeFuncBox
import Derived.Shelf.Abstract
import Derived.Shelf.RegionOpen
import Derived.OwnWalkIn
import Derived.TacticsInMore
import Derived.LoopNIn
import Derived.LoopIn
import Derived.Deep.CutBlock
import Derived.Test.YtbpjobmpacjgcaaGreatDoorGBPatG
import Derived.Deep.RegionWith
namespace Go.Proofs.YtbpjobmpacjgcaaGreatDoor
open Go Go.RowKit
theorem Cf:(Tryz.prog.info? 228).map (fun i=>(i.zero,i.size,i.bytes))=some (some (.agg #[.int .i64 0,.slice none 0 0]),2,32):=by kernel_rfl
def l9:List (Nat×aA)→List Value→List Value
 | t :: l,u :: us=>.int .i64 (t.1:Int) :: u :: l9 l us
 | _,_=>[]
theorem Au:∀ (l:List (Nat×aA))(us:List Value)(t:Nat×aA)(u:Value),us.length=l.length→l9 (l++[t]) (us++[u])=l9 l us++[.int .i64 (t.1:Int),u]
 | [],[],t,u,_=>rfl
 | [],_ :: _,t,u,h=>by simp at h
 | _ :: l,[],t,u,h=>by simp at h
 | a :: l,v :: us,t,u,h=>by
  rw[List.cons_append,List.cons_append,l9,Au l us t u (by simpa using h),l9]
  rfl
theorem Az:∀ (l:List (Nat×aA))(us:List Value)(i:Nat)(t:Nat×aA)(u:Value),l[i]?=some t→us[i]?=some u→(l9 l us)[i * 2]?=some (.int .i64 (t.1:Int))∧(l9 l us)[i * 2+1]?=some u
 | [],_,i,t,u,h,_=>by simp at h
 | _ :: _,[],i,t,u,_,h=>by simp at h
 | a :: l,v :: us,0,t,u,h,h'=>by
  simp only[List.getElem?_cons_zero,Option.some.injEq] at h h';subst h h';exact⟨rfl,rfl⟩
 | a :: l,v :: us,i+1,t,u,h,h'=>by
  have:=Az l us i t u (by simpa using h) (by simpa using h')
  rw[l9,Nat.succ_mul];exact this
def fZ (w:World) (B b:Nat) (v:Value) (L:List (Nat×aA)):Prop:=∃ us:List Value,us.length=L.length∧w.ownsRow B 228 2 v L.length (l9 L us)∧∀ (i:Nat) (u:Value) (t:Nat×aA),us[i]?=some u→L[i]?=some t→NSl w b u t.2
theorem fZ.nil (w:World)(B b:Nat):fZ w B b (.slice none 0 0) []:=⟨[],rfl,World.ownsRow_nil _ _ _ _,fun i u l h=>by simp at h⟩
theorem fZ.kept {w w':World}{B b:Nat}{v:Value}{L:List (Nat×aA)}(h:fZ w B b v L)(hb:b<B)(hk:aB (At b) w w'):fZ w' B b v L:=by
 obtain⟨us,h1,h2,h3⟩:=h;exact⟨us,h1,bM h2 hk (fun k hk _ e=>by unfold At at e;omega),fun i u l hu hl=>(h3 i u l hu hl).kept hk⟩
theorem fZ.below {w w':World}{B b:Nat}{v:Value}{L:List (Nat×aA)}(h:fZ w B b v L)(hb:b<B)(hk:Below w.heap.size w w'):fZ w' B b v L:=h.kept hb (.ofBelow hk)
theorem fZ.form {w:World}{B b:Nat}{v:Value}{L:List (Nat×aA)}(h:fZ w B b v L):∃ ao cap,v = .slice ao L.length cap:=by
 obtain⟨us,h1,h2,_⟩:=h
 rcases h2.2 with ⟨hv,h0⟩ | ⟨g,cap,cur,hv,_⟩
 ·exact⟨none,0,by rw[hv,h0]⟩
 ·exact⟨_,_,hv⟩
def TSl (w:World) (b:Nat) (v:Value) (L:List (Nat×aA)):Prop:=∃ ao cap,v = .slice ao L.length cap∧L.length≤cap∧cap≤maxLen ∧
 (0<L.length→∃ g,ao=some ⟨g,0,none⟩∧g<w.heap.size∧∀ (i:Nat) (t:Nat×aA),L[i]?=some t→∃ u,w.cell? ⟨g,i * 2,none⟩=some (.int .i64 (t.1:Int))∧w.cell? ⟨g,i * 2+1,none⟩=some u∧NSl w b u t.2)
theorem fZ.tsl {w:World}{B b:Nat}{v:Value}{L:List (Nat×aA)}(h:fZ w B b v L):TSl w b v L:=by
 obtain⟨us,h1,h2,h3⟩:=h
 by_cases hl:0<L.length
 ·obtain⟨g,cap,q1,q2,q3,q4,q5,q6⟩:=kE h2 hl;refine ⟨_,cap,q1,q2,q3,fun _=>⟨g,rfl,q5,fun i t hi=>?_⟩⟩
  have hil:=(List.getElem?_eq_some_iff.1 hi).1;have hu:us[i]?=some us[i]:=List.getElem?_eq_getElem (by omega)
  obtain⟨c1,c2⟩:=Az L us i t _ hi hu;exact⟨_,q6 _ _ c1,q6 _ _ c2,h3 i _ t hu hi⟩
 ·have h0:L=[]:=List.length_eq_zero_iff.1 (by omega)
  subst h0
  rcases h2.2 with ⟨hv,_⟩ | ⟨g,cap,cur,hv,_,_,q1,q2,_⟩
  ·exact⟨none,0,hv,Nat.le_refl _,Nat.zero_le _,fun h=>absurd h (by simp)⟩
  ·exact⟨_,cap,hv,q1,q2,fun h=>absurd h (by simp)⟩
theorem fZ.grown {w0 w w':World}{b:Nat}{v v':Value}{L:List (Nat×aA)}{t:Nat×aA}{u:Value}{us:List Value}{o:Obj}(hs:w0.heap.size≤w.heap.size)(h1:us.length=L.length)(h2:w.ownsRow w0.heap.size 228 2 v L.length (l9 L us))(h3:∀ (i:Nat)(u:Value)(t:Nat×aA),us[i]?=some u→L[i]?=some t→NSl w b u t.2)(hu:NSl w b u t.2)
  (hown:w'.ownsRow w0.heap.size 228 2 v' (L.length+1) (l9 L us++[.int .i64 (t.1:Int),u])) (hg:(w.alloc o).grownBy w' v.ownBlock):fZ w' w0.heap.size b v' (L++[t])∧Below w0.heap.size w w':=by
 have hb1:=(Below.refl w.heap.size w).alloc (Nat.le_refl _) o
 have hrow:∀ k,v.ownBlock=some k→∃ cur fz t,(w.alloc o).heap[k]?=some (.cells cur t fz)∧t≠40:=fun k hk=>by
  obtain⟨cur,fz,e⟩:=oM h2 k hk;exact⟨cur,fz,228,(hb1.block k (lt_of_block e)).trans e,by decide⟩
 have hlt:=World.ownsRow.lt h2;have hsame:∀ x l,NSl w b x l→NSl w' b x l:=fun x l hx=>(hx.below hb1).grown hg hrow
 refine ⟨⟨us++[u],by simp [h1],?_,fun i x y hx hy=>?_⟩,?_⟩
 ·rw[Au L us t u h1,List.length_append];exact hown
 ·by_cases hi:i<us.length
  ·rw[List.getElem?_append_left hi] at hx;rw[List.getElem?_append_left (by omega)] at hy
   exact hsame _ _ (h3 i x y hx hy)
  ·rw[List.getElem?_append_right (by omega)] at hx hy
   obtain⟨k,hk⟩:∃ k,i - us.length=k:=⟨_,rfl⟩;have hk2:i - L.length=k:=by omega
   rw[hk] at hx;rw[hk2] at hy
   cases k with
   | zero =>
    cases hx
    cases hy
    exact hsame _ _ hu
   | succ k=>simp at hx
 ·exact (hb1.mono hs).trans ((aB.grown (S:=fun k=>some k=v.ownBlock) (aB.refl _ _) hg (fun k h _=>h.symm)).below (by simp;omega) (fun i hi e=>by have:=hlt _ e.symm;omega))
theorem tN {w w':World}{B:Nat}{e:TypeId}{size:Nat}{v:Value}{n:Nat}{xs:List Value}{row:Option Nat}(h:w.ownsRow B e size v n xs)(hg:w.grownBy w' row)(hr:∀ k,row=some k→∃ cur fz t,w.heap[k]?=some (.cells cur t fz)∧t≠e):w'.ownsRow B e size v n xs:=by
 refine ⟨h.1,?_⟩
 rcases h.2 with h2 | ⟨g,cap,cur,hv,hB,hh,r⟩
 ·exact .inl h2
 ·refine .inr ⟨g,cap,cur,hv,hB,(hg.block g (lt_of_block hh) (fun e=>?_)).trans hh,r⟩
  obtain⟨c2,f2,t2,h7,h8⟩:=hr g e.symm;rw[hh] at h7;injection h7 with h7
  injection h7 with _ h9 _
  exact h8 h9.symm
theorem jE {w:World}{B:Nat}{e:TypeId}{size:Nat}{v:Value}{n:Nat}{xs:List Value}(h:w.ownsRow B e size v n xs)(o:Obj):∀ k,v.ownBlock=some k→∃ cur fz t,(w.alloc o).heap[k]?=some (.cells cur t fz)∧t=e:=fun k hk=>by
 obtain⟨cur,fz,h1⟩:=oM h k hk;exact⟨cur,fz,e,(((Below.refl w.heap.size w).alloc (Nat.le_refl _) o).block k (lt_of_block h1)).trans h1,rfl⟩
theorem aO.other {w w':World}{B b:Nat}{v:Value}{L:List aA}{e:TypeId}{row:Option Nat}(h:aO w B b v L)(hg:w.grownBy w' row)(h1:e≠26)(h2:e≠40)(hr:∀ k,row=some k→∃ cur fz t,w.heap[k]?=some (.cells cur t fz)∧t=e):aO w' B b v L:=by
 obtain⟨us,u1,u2,u3⟩:=h;refine ⟨us,u1,tN u2 hg (fun k hk=>?_),fun i u l hu hl=>(u3 i u l hu hl).grown hg (fun k hk=>?_)⟩
 ·obtain⟨c,f,t,h3,rfl⟩:=hr k hk;exact⟨c,f,t,h3,h1⟩
 ·obtain⟨c,f,t,h3,rfl⟩:=hr k hk;exact⟨c,f,t,h3,h2⟩
theorem fZ.other {w w':World}{B b:Nat}{v:Value}{L:List (Nat×aA)}{e:TypeId}{row:Option Nat}(h:fZ w B b v L)(hg:w.grownBy w' row)(h1:e≠228)(h2:e≠40)(hr:∀ k,row=some k→∃ cur fz t,w.heap[k]?=some (.cells cur t fz)∧t=e):fZ w' B b v L:=by
 obtain⟨us,u1,u2,u3⟩:=h;refine ⟨us,u1,tN u2 hg (fun k hk=>?_),fun i u l hu hl=>(u3 i u l hu hl).grown hg (fun k hk=>?_)⟩
 ·obtain⟨c,f,t,h3,rfl⟩:=hr k hk;exact⟨c,f,t,h3,h1⟩
 ·obtain⟨c,f,t,h3,rfl⟩:=hr k hk;exact⟨c,f,t,h3,h2⟩
def dY (w:World) (B:Nat) (v:Value) (L:List (List UInt8)):Prop:=w.ownsRow B 9 1 v L.length (L.map fun s=>Value.string (bs s))
theorem dY.nil (w:World)(B:Nat):dY w B (.slice none 0 0) []:=World.ownsRow_nil _ _ _ _
theorem dY.kept {w w':World}{B b:Nat}{v:Value}{L:List (List UInt8)}(h:dY w B v L)(hb:b<B)(hk:aB (At b) w w'):dY w' B v L:=bM h hk (fun k hk _ e=>by unfold At at e;omega)
theorem dY.below {w w':World}{B b:Nat}{v:Value}{L:List (List UInt8)}(h:dY w B v L)(hb:b<B)(hk:Below w.heap.size w w'):dY w' B v L:=h.kept hb (.ofBelow hk)
theorem dY.other {w w':World}{B:Nat}{v:Value}{L:List (List UInt8)}{e:TypeId}{row:Option Nat}(h:dY w B v L)(hg:w.grownBy w' row)(h1:e≠9)(hr:∀ k,row=some k→∃ cur fz t,w.heap[k]?=some (.cells cur t fz)∧t=e):dY w' B v L :=
 tN h hg (fun k hk=>by
  obtain⟨c,f,t,h3,rfl⟩:=hr k hk;exact⟨c,f,t,h3,h1⟩)
theorem dY.form {w:World}{B:Nat}{v:Value}{L:List (List UInt8)}(h:dY w B v L):∃ ao cap,v = .slice ao L.length cap:=by
 rcases h.2 with ⟨hv,h0⟩ | ⟨g,cap,cur,hv,_⟩
 ·exact⟨none,0,by rw[hv,h0]⟩
 ·exact⟨_,_,hv⟩
def SSl (w:World) (v:Value) (L:List (List UInt8)):Prop:=∃ ao cap,v = .slice ao L.length cap∧L.length≤cap∧cap≤maxLen ∧
 (0<L.length→∃ g,ao=some ⟨g,0,none⟩∧g<w.heap.size∧∀ (i:Nat) (s:List UInt8),L[i]?=some s→w.cell? ⟨g,i,none⟩=some (.string (bs s)))
theorem SSl.below {w w':World}{v:Value}{L:List (List UInt8)}(h:SSl w v L)(hb:Below w.heap.size w w'):SSl w' v L:=by
 obtain⟨ao,cap,h1,h2,h3,h4⟩:=h;refine ⟨ao,cap,h1,h2,h3,fun hl=>?_⟩
 obtain⟨g,e1,e2,e3⟩:=h4 hl;exact⟨g,e1,Nat.lt_of_lt_of_le e2 hb.size,fun i s hi=>aF hb (e3 i s hi)⟩
theorem dY.ssl {w:World}{B:Nat}{v:Value}{L:List (List UInt8)}(h:dY w B v L):SSl w v L:=by
 by_cases hl:0<L.length
 ·obtain⟨g,cap,q1,q2,q3,q4,q5,q6⟩:=kE h hl;refine ⟨_,cap,q1,q2,q3,fun _=>⟨g,rfl,q5,fun i s hi=>?_⟩⟩
  exact q6 _ _ (by rw[List.getElem?_map,hi];rfl)
 ·have h0:L=[]:=List.length_eq_zero_iff.1 (by omega)
  subst h0
  rcases h.2 with ⟨hv,_⟩ | ⟨g,cap,cur,hv,_,_,q1,q2,_⟩
  ·exact⟨none,0,hv,Nat.le_refl _,Nat.zero_le _,fun h=>absurd h (by simp)⟩
  ·exact⟨_,cap,hv,q1,q2,fun h=>absurd h (by simp)⟩
theorem TSl.below {w w':World}{b:Nat}{v:Value}{L:List (Nat×aA)}(h:TSl w b v L)(hb:Below w.heap.size w w'):TSl w' b v L:=by
 obtain⟨ao,cap,h1,h2,h3,h4⟩:=h;refine ⟨ao,cap,h1,h2,h3,fun hl=>?_⟩
 obtain⟨g,e1,e2,e3⟩:=h4 hl;refine ⟨g,e1,Nat.lt_of_lt_of_le e2 hb.size,fun i t hi=>?_⟩
 obtain⟨u,u1,u2,u3⟩:=e3 i t hi;exact⟨u,aF hb u1,aF hb u2,u3.below hb⟩
theorem xI:(Tryz.prog.info? 9).map (fun i=>(i.zero,i.size,i.bytes))=some (some (.string ⟨#[]⟩),1,16):=by kernel_rfl
theorem go_none {α β:Type}{k:α→Nat→aJ β}{r:Except (Nat×Nat) (β×Nat)}(h:aJ.go (none:aJ α) k=some r):False:=by simp [aJ.go] at h
open Go.Shelf
set_option maxHeartbeats 8000000
set_option maxRecDepth 100000
attribute [local go_sem] Oper.semAt_some
def gX (len k:Nat):List (Fin len):=((List.finRange len).drop k).reverse
theorem xH {len k:Nat}(hk:k<len):gX len k=gX len (k+1)++[⟨k,hk⟩]:=by
 unfold gX;rw[List.drop_eq_getElem_cons (by simpa using hk),List.reverse_cons]
 simp
theorem yA (len:Nat):gX len len=[]:=by
 unfold gX;rw[List.drop_of_length_le (by simp)]
 rfl
theorem tZ (len:Nat):gX len 0=(List.finRange len).reverse:=rfl
theorem x9 (len k:Nat):(gX len k).length=len - k:=by simp [gX]
def cR (Bs:Nat) (ao:Option Addr) (W W':World):Prop:=∀ k,(k=Bs∨ao=some ⟨k,0,none⟩)→W'.heap[k]?=W.heap[k]?
theorem cR.refl (Bs:Nat)(ao:Option Addr)(W:World):cR Bs ao W W:=fun _ _=>rfl
theorem cR.trans {Bs:Nat}{ao:Option Addr}{A B C:World}(h:cR Bs ao A B)(k:cR Bs ao B C):cR Bs ao A C:=fun i hi=>(k i hi).trans (h i hi)
theorem cR.cell {Bs:Nat}{ao:Option Addr}{W W':World}(h:cR Bs ao W W'){p:Addr}{v:Value}(hc:W.cell? p=some v)(hp:p.block=Bs∨ao=some ⟨p.block,0,none⟩):W'.cell? p=some v:=(World.cell?_of_block (w:=W) (h p.block hp)).trans hc
theorem E5 (F:Fence)(n:Nat)(h8:F.fn 283)(hro:F.round=none)(hn:1≤n)(l Bs len cap:Nat)(ao ap:Option Addr)(ks:Nat→Nat)(us:Nat→Value)(hlen:len≤10000)(_hcap:len≤cap)(J Jx:List (Fin len)→World→Prop)
  (hY:∀ pre x W,J pre W→pre.length<len→YieldAt F (n - 1) Tryz.prog l #[.int .i64 (x.1:Int),.agg #[.int .i64 (ks x.1:Int),us x.1]] W fun e W' =>
   (e = .returned (.bool true)∧J (pre++[x]) W'∧cR Bs ap W W')∨(e = .returned (.bool false)∧Jx (pre++[x]) W'))
  (W:World) (hBs:W.cell? ⟨Bs,0,none⟩=some (.slice ao len cap)) (hc:∀ j,j<len→∃ g,ao=some ⟨g,0,none⟩∧ap=some ⟨g,0,none⟩∧W.cell? ⟨g,j * 2,none⟩=some (.int .i64 (ks j:Int))∧W.cell? ⟨g,j * 2+1,none⟩=some (us j)) (h0:J [] W) :
  CallsIn F n Tryz.prog 283 #[.func (.yield l) #[] #[],.pointer (some ⟨Bs,0,none⟩)] W fun e W'=>(∃ v,e = .returned v) ∧
   ((∃ ys,ys=gX len 0∧J ys W')∨(∃ pre,True∧Jx pre W')):=by
 refine callsIn_of_wp Tryz.func283 rfl h8 ?_ hro;simp only[Tryz.ntmps283,List.size_toArray,List.length_cons,List.length_nil,Nat.reduceAdd,Nat.reduceSub,Array.replicate_succ,Array.replicate_zero,List.push_toArray,List.append_toArray,List.nil_append,List.cons_append];have hw1:IntKind.i64.wrap ((len:Int) - 1)=(len:Int) - 1:=by rw[IntKind.wrap_i64];omega
 have HY:=Ng hY;have HC:=Ng hc;clear hY hc;gi_wp2
 gi_loopw [3] (fun i wr=>∃ k:Nat,k≤len∧i = .int .i64 ((k:Int) - 1)∧J (gX len k) wr∧cR Bs ap W wr)
  (fun i _=>(intOf i+1).toNat)
 case atStart=>exact⟨len,Nat.le_refl _,rfl,by rw[yA];exact h0,cR.refl _ _ _⟩
 case round =>
  obtain⟨k,hk,rfl,hJs,hnx⟩:=hrel;have hb:=hnx.cell hBs (.inl rfl)
  by_cases hlt:0<k
  ·obtain⟨k,rfl⟩:∃ q,k=q+1:=⟨k - 1,by omega⟩
   have hkk:(((k+1:Nat):Int) - 1)=(k:Int):=by omega
   rw[hkk];obtain⟨g,rfl,hap,hc1,hc2⟩:=HC.out k (by omega)
   have hc1:=hnx.cell hc1 (.inr hap);have hc2:=hnx.cell hc2 (.inr hap);obtain⟨fn,tmps,assign,body,hy,hR⟩:=HY.out _ ⟨k,by omega⟩ wr hJs (by rw[x9];omega)
   dsimp only at hy;have hw2:IntKind.i64.wrap ((k:Int) - 1)=(k:Int) - 1:=by rw[IntKind.wrap_i64];omega
   gi_wp2
   refine hR.mono ?_;rintro e W3 (⟨rfl,hJ3,hk3⟩ | ⟨rfl,hJx3⟩)
   ·gi_wp2
    go_roundw
    case rel=>exact⟨k,by omega,rfl,by rw[xH (by omega)];exact hJ3,hnx.trans hk3⟩
    case measure=>simp [intOf]
   ·gi_wp2
    refine bodyPost_ret (results_none rfl _ _ _) rfl ?_;exact⟨⟨_,rfl⟩,.inr ⟨_,trivial,hJx3⟩⟩
  ·obtain rfl:k=0:=by omega
   gi_wp2
   go_end0
   exact⟨⟨_,rfl⟩,.inl ⟨_,rfl,hJs⟩⟩
theorem Fb (a:Option Addr)(len cap:Nat)(w:World) :
  Calls Tryz.prog 263 #[.slice a len cap] w fun e w'=>e = .returned (.func (.func 283) #[] #[.pointer (some ⟨w.heap.size,0,none⟩)])∧w'=w.alloc (.cells #[.slice a len cap] 226):=by
 have hmf:∀ (fn:Fn) (first cap:Array Value) (w:World),(Instr.makeFunc fn first cap).run Tryz.prog w = .ok (.func fn first cap) w:=fun _ _ _ _=>rfl
 go_enter Tryz.func263,Tryz.ntmps263
 go_wp2
 go_ret;exact⟨rfl,rfl⟩
theorem ER (F:Fence)(n:Nat)(h8:F.fn 283)(hro:F.round=none)(hn:1≤n)(Bs len cap:Nat)(ao ap:Option Addr)(ks:Nat→Nat)(us:Nat→Value)(hlen:len≤10000)(hcap:len≤cap)(w:World)
  (hBs:w.cell? ⟨Bs,0,none⟩=some (.slice ao len cap)) (hc:∀ j,j<len→∃ g,ao=some ⟨g,0,none⟩∧ap=some ⟨g,0,none⟩∧w.cell? ⟨g,j * 2,none⟩=some (.int .i64 (ks j:Int))∧w.cell? ⟨g,j * 2+1,none⟩=some (us j)) :
  SeqStopsK F n Tryz.prog 283 #[.pointer (some ⟨Bs,0,none⟩)] (fun x:Fin len=>#[.int .i64 (x.1:Int),.agg #[.int .i64 (ks x.1:Int),us x.1]]) (cR Bs ap) (fun ys=>ys=gX len 0) (fun _=>True) len w:=fun l J Jx W hW _ _ hY h0 =>
 E5 F n h8 hro hn l Bs len cap ao ap ks us hlen hcap J Jx hY W (aF hW hBs) (fun j hj=>by
  obtain⟨g,e,e2,c1,c2⟩:=hc j hj;exact⟨g,e,e2,aF hW c1,aF hW c2⟩) h0
theorem vG {Bs:Nat}{ao:Option Addr}{w:World}(h1:Bs<w.heap.size)(h2:∀ k,ao=some ⟨k,0,none⟩→k<w.heap.size)(W:World)(l:Nat)(o o':Obj)(hl:w.heap.size≤l)(_h:W.heap[l]?=some o)(_:o.isCells=false)(_:o.isWalk=false):cR Bs ao W (W.putObj l o'):=fun k hk=>by
 refine World.putObj_heap_other ?_
 rcases hk with rfl | hk
 ·omega
 ·have:=h2 k hk
  omega
end Go.Proofs.YtbpjobmpacjgcaaGreatDoor
namespace Go.Proofs.YtbpjobmpacjgcaaGreatDoor
set_option maxHeartbeats 8000000
set_option maxRecDepth 100000
open Go Go.RowKit Go.Shelf
attribute [local go_sem] Oper.semAt_some
theorem FE (F:Fence)(n:Nat)(h8:F.fn 282)(hro:F.round=none)(hn:1≤n)(l Bs len cap:Nat)(ao ap:Option Addr)(ns:Nat→List UInt8)(hlen:len≤100000)(_hcap:len≤cap)(J Jx:List (Fin len)→World→Prop)
  (hY:∀ pre x W,J pre W→pre.length<len→YieldAt F (n - 1) Tryz.prog l #[.int .i64 (x.1:Int),.string (bs (ns x.1))] W fun e W' =>
   (e = .returned (.bool true)∧J (pre++[x]) W'∧cR Bs ap W W')∨(e = .returned (.bool false)∧Jx (pre++[x]) W'))
  (W:World) (hBs:W.cell? ⟨Bs,0,none⟩=some (.slice ao len cap)) (hc:∀ j,j<len→∃ g,ao=some ⟨g,0,none⟩∧ap=some ⟨g,0,none⟩∧W.cell? ⟨g,j,none⟩=some (.string (bs (ns j)))) (h0:J [] W) :
  CallsIn F n Tryz.prog 282 #[.func (.yield l) #[] #[],.pointer (some ⟨Bs,0,none⟩)] W fun e W'=>(∃ v,e = .returned v) ∧
   ((∃ ys,ys=gX len 0∧J ys W')∨(∃ pre,True∧Jx pre W')):=by
 refine callsIn_of_wp Tryz.func282 rfl h8 ?_ hro;simp only[Tryz.ntmps282,List.size_toArray,List.length_cons,List.length_nil,Nat.reduceAdd,Nat.reduceSub,Array.replicate_succ,Array.replicate_zero,List.push_toArray,List.append_toArray,List.nil_append,List.cons_append];have hw1:IntKind.i64.wrap ((len:Int) - 1)=(len:Int) - 1:=by rw[IntKind.wrap_i64];omega
 have HY:=Ng hY;have HC:=Ng hc;clear hY hc;gi_wp2
 gi_loopw [3] (fun i wr=>∃ k:Nat,k≤len∧i = .int .i64 ((k:Int) - 1)∧J (gX len k) wr∧cR Bs ap W wr)
  (fun i _=>(intOf i+1).toNat)
 case atStart=>exact⟨len,Nat.le_refl _,rfl,by rw[yA];exact h0,cR.refl _ _ _⟩
 case round =>
  obtain⟨k,hk,rfl,hJs,hnx⟩:=hrel;have hb:=hnx.cell hBs (.inl rfl)
  by_cases hlt:0<k
  ·obtain⟨k,rfl⟩:∃ q,k=q+1:=⟨k - 1,by omega⟩
   have hkk:(((k+1:Nat):Int) - 1)=(k:Int):=by omega
   rw[hkk];obtain⟨g,rfl,hap,hc1⟩:=HC.out k (by omega)
   have hc1:=hnx.cell hc1 (.inr hap);obtain⟨fn,tmps,assign,body,hy,hR⟩:=HY.out _ ⟨k,by omega⟩ wr hJs (by rw[x9];omega)
   dsimp only at hy;have hw2:IntKind.i64.wrap ((k:Int) - 1)=(k:Int) - 1:=by rw[IntKind.wrap_i64];omega
   gi_wp2
   refine hR.mono ?_;rintro e W3 (⟨rfl,hJ3,hk3⟩ | ⟨rfl,hJx3⟩)
   ·gi_wp2
    go_roundw
    case rel=>exact⟨k,by omega,rfl,by rw[xH (by omega)];exact hJ3,hnx.trans hk3⟩
    case measure=>simp [intOf]
   ·gi_wp2
    refine bodyPost_ret (results_none rfl _ _ _) rfl ?_;exact⟨⟨_,rfl⟩,.inr ⟨_,trivial,hJx3⟩⟩
  ·obtain rfl:k=0:=by omega
   gi_wp2
   go_end0
   exact⟨⟨_,rfl⟩,.inl ⟨_,rfl,hJs⟩⟩
theorem AX (a:Option Addr)(len cap:Nat)(w:World) :
  Calls Tryz.prog 261 #[.slice a len cap] w fun e w'=>e = .returned (.func (.func 282) #[] #[.pointer (some ⟨w.heap.size,0,none⟩)])∧w'=w.alloc (.cells #[.slice a len cap] 22):=by
 have hmf:∀ (fn:Fn) (first cap:Array Value) (w:World),(Instr.makeFunc fn first cap).run Tryz.prog w = .ok (.func fn first cap) w:=fun _ _ _ _=>rfl
 go_enter Tryz.func261,Tryz.ntmps261
 go_wp2
 go_ret;exact⟨rfl,rfl⟩
theorem Ao (F:Fence)(n:Nat)(h8:F.fn 282)(hro:F.round=none)(hn:1≤n)(Bs len cap:Nat)(ao ap:Option Addr)(ns:Nat→List UInt8)(hlen:len≤100000)(hcap:len≤cap)(w:World)
  (hBs:w.cell? ⟨Bs,0,none⟩=some (.slice ao len cap)) (hc:∀ j,j<len→∃ g,ao=some ⟨g,0,none⟩∧ap=some ⟨g,0,none⟩∧w.cell? ⟨g,j,none⟩=some (.string (bs (ns j)))) :
  SeqStopsK F n Tryz.prog 282 #[.pointer (some ⟨Bs,0,none⟩)] (fun x:Fin len=>#[.int .i64 (x.1:Int),.string (bs (ns x.1))]) (cR Bs ap) (fun ys=>ys=gX len 0) (fun _=>True) len w:=fun l J Jx W hW _ _ hY h0 =>
 FE F n h8 hro hn l Bs len cap ao ap ns hlen hcap J Jx hY W (aF hW hBs) (fun j hj=>by
  obtain⟨g,e,e2,c1⟩:=hc j hj;exact⟨g,e,e2,aF hW c1⟩) h0
end Go.Proofs.YtbpjobmpacjgcaaGreatDoor
namespace Go.Proofs.YtbpjobmpacjgcaaGreatDoor
set_option maxHeartbeats 8000000
set_option maxRecDepth 100000
open Go Go.RowKit Go.Shelf
attribute [local go_sem] Oper.semAt_some
theorem NSl.others {w w':World}{b:Nat}{v:Value}{l:aA}{row:Option Nat}(h:NSl w b v l)(hg:w.grownBy w' row)(hr:∀ r,row=some r→∃ o:Obj,w.heap[r]?=some o∧o.isCells=false):NSl w' b v l:=h.of_block fun g cur fz h4 _=>hg.block g (lt_of_block h4) (fun e=>by
 obtain⟨o,h7,h8⟩:=hr g e.symm;rw[h4] at h7
 cases h7
 cases h8)
theorem KeepsOthers.ofBelow {w w':World}(h:Below w.heap.size w w'):KeepsOthers w w':=⟨h.size,fun k _ hk _=>(h.block k (Array.getElem?_eq_some_iff.1 hk).1).trans hk⟩
theorem cR.ofBelow {Bs:Nat}{ao:Option Addr}{w w':World}(h:Below w.heap.size w w')(h1:Bs<w.heap.size)(h2:∀ k,ao=some ⟨k,0,none⟩→k<w.heap.size):cR Bs ao w w':=fun k hk=>h.block k (by
 rcases hk with rfl | hk
 ·exact h1
 ·exact h2 k hk)
theorem TSl.facts {w:World}{b:Nat}{ao:Option Addr}{n cap:Nat}{L:List (Nat×aA)}(h:TSl w b (.slice ao n cap) L):n=L.length∧n≤cap∧(∀ k,ao=some ⟨k,0,none⟩→0<n→k<w.heap.size)∧∃ us:Nat→Value,(∀ j,j<n→∃ g,ao=some ⟨g,0,none⟩∧w.cell? ⟨g,j * 2,none⟩=some (.int .i64 ((L.getD j (0,[])).1:Int))∧w.cell? ⟨g,j * 2+1,none⟩=some (us j))∧∀ j,j<n→NSl w b (us j) (L.getD j (0,[])).2:=by
 obtain⟨ao',cap',hv,h1,h2,h3⟩:=h
 cases hv
 refine ⟨rfl,h1,fun k hk hl=>?_,?_⟩
 ·obtain⟨g,e,q,_⟩:=h3 hl;rw[hk] at e
  cases e
  exact q
 ·have hex:∀ j,∃ u,j<L.length→(∃ g,ao=some ⟨g,0,none⟩∧w.cell? ⟨g,j * 2,none⟩=some (.int .i64 ((L.getD j (0,[])).1:Int))∧w.cell? ⟨g,j * 2+1,none⟩=some u)∧NSl w b u (L.getD j (0,[])).2:=fun j=>by
   by_cases hj:j<L.length
   ·obtain⟨g,e,q,r⟩:=h3 (by omega)
    obtain⟨u,u1,u2,u3⟩:=r j L[j] (List.getElem?_eq_getElem hj);refine ⟨u,fun _=>?_⟩
    rw[List.getD_eq_getElem?_getD,List.getElem?_eq_getElem hj];exact⟨⟨g,e,u1,u2⟩,u3⟩
   ·exact⟨undef,fun h=>absurd h hj⟩
  exact⟨fun j=>Classical.choose (hex j),fun j hj=>(Classical.choose_spec (hex j) hj).1,fun j hj=>(Classical.choose_spec (hex j) hj).2⟩
theorem GS (l:List (Nat×aA))(c:aA)(h:∀ t∈l,t.2.length≤50000):(fF l c).length≤c.length+50001 * l.length:=by
 induction l with
 | nil=>exact Nat.le_refl _
 | cons t l ih =>
  have h1:=ih (fun t ht=>h t (by simp [ht]))
  have h2:=h t (by simp)
  unfold fF at h1 ⊢;rw[List.foldr_cons];split
  ·rw[(jF _ _ _ _ _).1,List.length_cons];omega
  ·rw[(jF _ _ _ _ _).1,List.length_cons];omega
theorem Kq (L:List (Nat×aA)):(List.finRange L.length).map (fun x=>((fun j=>(L.getD j (0,[])).1) x.1,(fun j=>(L.getD j (0,[])).2) x.1))=L:=by
 apply List.ext_getElem
 ·simp
 ·intro i h1 h2;simp
theorem A8 (L:List (Nat×aA))(c:aA)(b:Nat)(v vc:Value)(w:World)(hb:b<w.heap.size)(hT:TSl w b v L)(hc:NSl w b vc c)(hcl:c.length≤100000000)(hL:∀ t∈L,t.1≤100∧t.2.length≤50000)(hn:L.length≤9000) :
  Calls Tryz.prog 231 #[v,vc] w fun e w'=>∃ v',e = .returned v'∧NSl w' b v' (fF L c)∧Below w.heap.size w w':=by
 obtain⟨ao,n,cap,rfl⟩:∃ ao n cap,v = .slice ao n cap:=by
  obtain⟨ao,cap,rfl,_⟩:=hT;exact⟨_,_,_,rfl⟩
 obtain⟨hnl,hcap,hao,us,hcs,hus⟩:=hT.facts;have HNL:=Ng hnl;have HLL:=Ng hL;rw[← hnl] at hn;clear hT hnl hL;have HC:=Ng hc;obtain⟨g0,c0,rfl,-⟩:=hc;generalize hm:c.length=m at *;have HM:=Ng hm;clear hm;refine (callsIn_wide (n:=6)).1 ?_;refine callsIn_of_wp_marks Tryz.func231 rfl trivial ?_ rfl;simp only[Tryz.ntmps231,List.size_toArray,List.length_cons,List.length_nil,Nat.reduceAdd,Nat.reduceSub,Array.replicate_succ,Array.replicate_zero,List.push_toArray,List.append_toArray,List.nil_append,List.cons_append];gi_wp2_with (refine ⟨trivial,?_⟩;gi_at_call 263;refine (callsIn_wide.2 (Fb _ _ _ _)).mono ?_;rintro e w' ⟨rfl,rfl⟩)
 have bC:=(Boxed.new w 26 (.slice (some ⟨g0,0,none⟩) m c0)).alloc (.cells #[.slice ao n cap] 226);have bS:=Boxed.new (w.alloc (.cells #[.slice (some ⟨g0,0,none⟩) m c0] 26)) 226 (.slice ao n cap);have hB0:=((Below.refl _ w).alloc (Nat.le_refl _) (.cells #[.slice (some ⟨g0,0,none⟩) m c0] 26)).alloc (by simp) (.cells #[.slice ao n cap] 226)
 have hsz:((w.alloc (.cells #[.slice (some ⟨g0,0,none⟩) m c0] 26)).alloc (.cells #[.slice ao n cap] 226)).heap.size=w.heap.size+2:=by simp
 simp only[World.size_alloc] at bC bS;obtain⟨W0,hW0⟩:∃ W0,(w.alloc (.cells #[.slice (some ⟨g0,0,none⟩) m c0] 26)).alloc (.cells #[.slice ao n cap] 226)=W0:=⟨_,rfl⟩;rw[hW0] at bC bS hB0 hsz ⊢;clear hW0
 obtain⟨ap,hap1,hap2⟩:∃ ap:Option Addr,(0<n→ap=ao)∧(n=0→ap=none):=by
  by_cases h:0<n
  ·exact⟨ao,fun _=>rfl,fun h2=>by omega⟩
  ·exact⟨none,fun h2=>absurd h2 h,fun _=>rfl⟩
 have hapl:∀ k,ap=some ⟨k,0,none⟩→k<w.heap.size:=fun k hk=>by
  by_cases h:0<n
  ·rw[hap1 h] at hk;exact hao k hk h
  ·rw[hap2 (by omega)] at hk
   cases hk
 obtain⟨ks,hks⟩:∃ ks:Nat→Nat,(fun j=>(L.getD j (0,[])).1)=ks:=⟨_,rfl⟩
 obtain⟨qs,hqs⟩:∃ qs:Nat→aA,(fun j=>(L.getD j (0,[])).2)=qs:=⟨_,rfl⟩
 have hks2:∀ j,j<n→ks j≤100∧(qs j).length≤50000:=fun j hj=>by
  rw[← hks,← hqs];refine HLL.out _ ?_;rw[List.getD_eq_getElem?_getD,List.getElem?_eq_getElem (by have:=HNL.out;omega)]
  exact List.getElem_mem _
 have hus2:∀ j,j<n→NSl w b (us j) (qs j):=fun j hj=>by rw[← hqs];exact hus j hj
 have hcs2:∀ j,j<n→∃ g,ao=some ⟨g,0,none⟩∧ap=some ⟨g,0,none⟩∧W0.cell? ⟨g,j * 2,none⟩=some (.int .i64 (ks j:Int))∧W0.cell? ⟨g,j * 2+1,none⟩=some (us j):=fun j hj=>by
  obtain⟨g,e,q1,q2⟩:=hcs j hj;refine ⟨g,e,by rw[hap1 (by omega),e],?_,aF hB0 q2⟩
  rw[← hks];exact aF hB0 q1
 have HALL:=Ng (show (gX n 0).reverse.map (fun x=>(ks x.1,qs x.1))=L from by
  have:=HNL.out
  subst this;rw[← hks,← hqs,tZ,List.reverse_reverse];exact Kq L)
 have HT:=Ng (show ∀ l:List (Fin n),(fF (l.map (fun x=>(ks x.1,qs x.1))) c).length≤m+50001 * l.length from fun l=>by
  have h:=GS (l.map (fun x=>(ks x.1,qs x.1))) c (fun t ht=>by
   obtain⟨x,_,rfl⟩:=List.mem_map.1 ht;exact (hks2 x.1 x.2).2)
  rw[List.length_map,HM.out] at h;exact h)
 clear hap1 hap2 hcs hao hks hqs hus
 refine wpIn_rangeFunc_ownH rfl (by omega) (gf:=283) (lb:=#[.pointer (some ⟨w.heap.size+1,0,none⟩)]) rfl trivial (enters_of Tryz.func283 (by kernel_rfl) rfl)
  (ER Fence.wide (6 - 1) trivial rfl (by omega) (w.heap.size+1) n cap ao ap ks us (by omega) hcap W0 bS.cell hcs2) cR.trans (vG (by omega) (fun k hk=>by have:=hapl k hk;omega)) (Below.refl _ _) (fun _=>rfl)
  (fun pre W=>(∃ v,Boxed W w.heap.size 26 v∧NSl W b v (fF (pre.reverse.map (fun x=>(ks x.1,qs x.1))) c))∧(Below w.heap.size w W∧w.heap.size+2≤W.heap.size))
  (fun _ _ _=>False)
  (OwnFrom.and (Own.from (fun s X Y row hs hg hr=>by obtain⟨v,h1,h2⟩:=hs;exact⟨v,boxed_own _ _ (fun (_:Unit)=>v) () X Y row h1 hg hr,h2.others hg hr⟩) _) (OwnFrom.and (ownFrom_below (Nat.le_refl _) (by omega)) (fun _ _ _ _ hs hg _=>Nat.le_trans hs hg.size)))
  (fun _ _ _ _ _ hs _ _=>hs)
  ⟨⟨_,bC,HC.out.below hB0⟩,hB0,by omega⟩
  (fun x a' W=>∃ Bx,w.heap.size<Bx∧Blk W Bx [.int .i64 (ks x.1),us x.1]∧a'={ tmps:=#[.slice ao n cap,.slice (some ⟨g0,0,none⟩) m c0,undef,.pointer (some ⟨w.heap.size,0,none⟩),.slice none 0 0,undef,.pointer (some ⟨Bx,0,none⟩),.slice ao n cap,.func (.func 283) #[] #[.pointer (some ⟨w.heap.size+1,0,none⟩)],.int .i64 (x.1:Int),.agg #[.int .i64 (ks x.1),us x.1],undef,undef,undef,undef,undef,undef,undef,undef,undef,undef,undef,undef,undef,undef,undef,undef,undef,undef],defers:=[] })
  (fun x a' _ X Y row hs hg hr=>by
   obtain⟨Bx,h1,h2,h3⟩:=hs;refine ⟨Bx,h1,h2.of_heap (hg.block Bx h2.lt (fun e=>?_)),h3⟩
   obtain⟨_,o,h7,h8⟩:=hr Bx e.symm;obtain⟨t,h2⟩:=h2;rw[h2] at h7
   cases h7
   cases h8)
  ?assign ?body ?done ?stop
 case assign =>
  rintro l pre x W K ⟨⟨v,bV,hV⟩,hB,hsW⟩ hK;have hux:=hus2 x.1 x.2;generalize us x.1=u at hK hux ⊢;obtain⟨gu,cu,rfl,-⟩:=id hux;gi_wp2
  have hb1:=(Below.refl W.heap.size W).alloc (Nat.le_refl _) (.cells #[.int .i64 (ks x.1:Int),.slice (some ⟨gu,0,none⟩) (qs x.1).length cu] 228);exact hK _ _ ((KeepsOthers.alloc _ _).from _) (cR.ofBelow hb1 (by omega) (fun k hk=>by have:=hapl k hk;omega)) ⟨⟨v,bV.alloc _,hV.below hb1⟩,hB.alloc hB.size _,by simp;omega⟩ ⟨W.heap.size,bV.lt,Blk.new W [.int .i64 (ks x.1:Int),.slice (some ⟨gu,0,none⟩) (qs x.1).length cu] 228,rfl⟩
 case body =>
  rintro l pre x a' W hl ⟨r,hr⟩ ⟨⟨v,bV,hV⟩,hB,hsW⟩ ⟨Bx,hBx,bX,rfl⟩ hlt;have hux:=(hus2 x.1 x.2).below hB;obtain⟨hkx,hqx⟩:=hks2 x.1 x.2;have HA:Hid (fF ((pre++[x]).reverse.map (fun x=>(ks x.1,qs x.1))) c=if ks x.1=14 then aC 34 0 [] [qs x.1,fF (pre.reverse.map (fun x=>(ks x.1,qs x.1))) c] else aC 33 ((ks x.1:Int) - 10) [] [qs x.1,fF (pre.reverse.map (fun x=>(ks x.1,qs x.1))) c]):=Ng (by rw[List.reverse_append];rfl)
  have hal:=HT.out pre.reverse;rw[List.length_reverse] at hal;generalize fF (pre.reverse.map (fun x=>(ks x.1,qs x.1))) c=A at hV HA hal
  generalize us x.1=u at bX hux ⊢;generalize qs x.1=q at hux hqx HA;generalize ks x.1=kx at bX hkx HA ⊢;obtain⟨gu,cu,rfl,-⟩:=id hux;obtain⟨gv,cv,rfl,-⟩:=id hV;have cV:=bV.cell;have fV:=bV.frozen;have x0:=bX.cell 0 rfl;have x1:=bX.cell 1 rfl
  by_cases hk:kx=14
  ·rw[if_pos hk] at HA;subst hk;have HN:=Ng (bT 34 0 [] [q,A] b _ _ (by simp;omega) (KSl.new2 (w:=W) (by omega) (.inl hux) (.inl hV)) (by simp;omega) (by simp))
   have hb0:=(Below.refl W.heap.size W).alloc (Nat.le_refl _) (.cells #[.slice (some ⟨gu,0,none⟩) q.length cu,.slice (some ⟨gv,0,none⟩) A.length cv] 26);gi_wp2_with fail
   refine ⟨trivial,(CallsIn.inRound l (callsIn_wide.2 HN.out)).mono ?_⟩;rintro e w5 ⟨v5,rfl,hN5,hb5⟩;have hb6:=aE hb0 hb5;obtain⟨g5,c5,rfl,-⟩:=id hN5;generalize hz:List.length (aC _ _ _ _)=z at hN5 ⊢;have cV5:=aF hb6 cV;have fV5:=kT hb6 cV fV;have hsz5:=hb6.size;have bV5:Boxed w5 w.heap.size 26 _:=(hb6.block _ bV.lt).trans bV;gi_wp2_with fail
   have hN6:NSl (w5.setCell ⟨w.heap.size,0,none⟩ (.slice (some ⟨g5,0,none⟩) z c5)) b (.slice (some ⟨g5,0,none⟩) z c5) _:=hN5.of_block fun g cur fz h4 _=>Below.heap_setCell _ _ _ _ (fun e=>by
    subst e;have h9:=h4.symm.trans bV5;injection h9 with h9
    injection h9 with _ h9 _
    exact absurd h9 (by decide))
   have hne:∀ k,(k=w.heap.size+1∨ap=some ⟨k,0,none⟩)→k≠w.heap.size:=fun k hk=>by
    rcases hk with hk | hk
    ·omega
    ·have:=hapl k hk
     omega
   exact⟨((KeepsOthers.ofBelow hb6).trans (KeepsOthers.setCell _ _ _)).from _,(cR.ofBelow hb6 (by omega) (fun k hk=>by have:=hapl k hk;omega)).trans (fun k hk=>Below.heap_setCell _ _ _ _ (hne k hk)),⟨_,bV5.set _,by rw[HA.out];exact hN6⟩,(hB.trans (hb6.mono hB.size)).setCell (Nat.le_refl _) _,by simp;omega⟩
  ·rw[if_neg hk] at HA;have hk2:((kx:Int)==14)=false:=by rw[beq_eq_false_iff_ne];omega
   rw[show (kx:Int) - 10=(kx:Int) - 11+1 by omega] at HA
   have HN:=Ng (bT 33 ((kx:Int) - 11+1) [] [q,A] b _ _ (by simp;omega) (KSl.new2 (w:=W) (by omega) (.inl hux) (.inl hV)) (by simp;omega) (by simp))
   have hb0:=(Below.refl W.heap.size W).alloc (Nat.le_refl _) (.cells #[.slice (some ⟨gu,0,none⟩) q.length cu,.slice (some ⟨gv,0,none⟩) A.length cv] 26);gi_wp2_with fail
   refine ⟨trivial,(CallsIn.inRound l (callsIn_wide.2 HN.out)).mono ?_⟩;rintro e w5 ⟨v5,rfl,hN5,hb5⟩;have hb6:=aE hb0 hb5;obtain⟨g5,c5,rfl,-⟩:=id hN5;generalize hz:List.length (aC _ _ _ _)=z at hN5 ⊢;have cV5:=aF hb6 cV;have fV5:=kT hb6 cV fV;have hsz5:=hb6.size;have bV5:Boxed w5 w.heap.size 26 _:=(hb6.block _ bV.lt).trans bV;gi_wp2_with fail
   have hN6:NSl (w5.setCell ⟨w.heap.size,0,none⟩ (.slice (some ⟨g5,0,none⟩) z c5)) b (.slice (some ⟨g5,0,none⟩) z c5) _:=hN5.of_block fun g cur fz h4 _=>Below.heap_setCell _ _ _ _ (fun e=>by
    subst e;have h9:=h4.symm.trans bV5;injection h9 with h9
    injection h9 with _ h9 _
    exact absurd h9 (by decide))
   have hne:∀ k,(k=w.heap.size+1∨ap=some ⟨k,0,none⟩)→k≠w.heap.size:=fun k hk=>by
    rcases hk with hk | hk
    ·omega
    ·have:=hapl k hk
     omega
   exact⟨((KeepsOthers.ofBelow hb6).trans (KeepsOthers.setCell _ _ _)).from _,(cR.ofBelow hb6 (by omega) (fun k hk=>by have:=hapl k hk;omega)).trans (fun k hk=>Below.heap_setCell _ _ _ _ (hne k hk)),⟨_,bV5.set _,by rw[HA.out];exact hN6⟩,(hB.trans (hb6.mono hB.size)).setCell (Nat.le_refl _) _,by simp;omega⟩
 case done =>
  rintro D ys W hD rfl ⟨⟨v,bV,hV⟩,hB,hsW⟩ hK;rw[HALL.out] at hV;have cV:=bV.cell;gi_wp2
  refine ⟨by simp,.inl ⟨_,_,rfl,run_takeDeferred hK,?_⟩⟩
  refine ⟨_,results_tmp rfl _ _ _,_,rfl,hV.others (grownBy_putObj' W D _) (fun r e=>by cases e;exact⟨_,hK,rfl⟩),hB.trans ?_⟩
  exact belowK_b (w:=W0) (by omega) W D _ _ hD hK rfl rfl
 case stop =>
  rintro D c pre W _ _ h _;exact h.elim
end Go.Proofs.YtbpjobmpacjgcaaGreatDoor

namespace Go.Proofs.YtbpjobmpacjgcaaGreatDoor
set_option maxHeartbeats 8000000
set_option maxRecDepth 100000
open Go Go.RowKit Go.Shelf
theorem SSl.facts {w:World}{ao:Option Addr}{n cap:Nat}{L:List (List UInt8)}(h:SSl w (.slice ao n cap) L):n=L.length∧n≤cap∧(∀ k,ao=some ⟨k,0,none⟩→0<n→k<w.heap.size)∧∀ j,j<n→∃ g,ao=some ⟨g,0,none⟩∧w.cell? ⟨g,j,none⟩=some (.string (bs (L.getD j []))):=by
 obtain⟨ao',cap',hv,h1,h2,h3⟩:=h
 cases hv
 refine ⟨rfl,h1,fun k hk hl=>?_,fun j hj=>?_⟩
 ·obtain⟨g,e,q,_⟩:=h3 hl;rw[hk] at e
  cases e
  exact q
 ·obtain⟨g,e,q,r⟩:=h3 (by omega)
  refine ⟨g,e,?_⟩;rw[List.getD_eq_getElem?_getD,List.getElem?_eq_getElem hj];exact r j _ (List.getElem?_eq_getElem hj)
theorem KSl.facts {w:World}{b:Nat}{ao:Option Addr}{n cap:Nat}{L:List aA}(h:KSl w b (.slice ao n cap) L)(hp:∀ l∈L,0<l.length):n=L.length∧n≤cap∧∀ j,j<n→∃ g u,ao=some ⟨g,0,none⟩∧w.cell? ⟨g,j,none⟩=some u∧NSl w b u (L.getD j []):=by
 obtain⟨ao',cap',hv,h1,h2,h3⟩:=h
 cases hv
 refine ⟨rfl,h1,fun j hj=>?_⟩
 obtain⟨g,e,q,q2,r⟩:=h3 (by omega)
 obtain⟨u,u1,u2⟩:=r j _ (List.getElem?_eq_getElem hj);refine ⟨g,u,e,u1,?_⟩;rw[List.getD_eq_getElem?_getD,List.getElem?_eq_getElem hj]
 rcases u2 with u2 | ⟨_,u2⟩
 ·exact u2
 ·have:=hp _ (List.getElem_mem hj)
  rw[u2] at this;simp at this
def kX (x:List UInt8×aA):aA:=aC 22 0 x.1 [x.2]
theorem Cw (S:List (List UInt8×aA))(k:Nat)(h:k<S.length):(S.take (k+1)).map kX=(S.take k).map kX++[aC 22 0 ((S.map (·.1)).getD k []) [(S.map (·.2)).getD k []]]:=by
 rw[List.take_succ_eq_append_getElem h,List.map_append];simp [kX,List.getD_eq_getElem?_getD,List.getElem?_eq_getElem h]
theorem Da (S:List (List UInt8×aA)):(S.map kX).flatten.length=cQ S∧∀ l∈S.map kX,0<l.length:=by
 constructor
 ·induction S with
  | nil=>rfl
  | cons x S ih =>
   rw[List.map_cons,List.flatten_cons,List.length_append,ih];have:(kX x).length=x.2.length+1:=(iJ _ _ _ _).1
   simp only[cQ,List.map_cons,List.sum_cons];omega
 ·intro l hl;obtain⟨x,_,rfl⟩:=List.mem_map.1 hl;exact nS _ _ _ _
theorem Bn (S:List (List UInt8×aA))(x:List UInt8×aA)(h:x∈S):x.2.length+1≤cQ S:=by
 induction S with
 | nil=>simp at h
 | cons y S ih =>
  simp only[cQ,List.map_cons,List.sum_cons] at ih ⊢
  rcases List.mem_cons.1 h with rfl | h
  ·omega
  ·have:=ih h
   omega
theorem I0 (S:List (List UInt8×aA))(b:Nat)(v1 v2 v3:Value)(w:World)(hb:b<w.heap.size)(h1:SSl w v1 (S.map (·.1)))(h2:KSl w b v2 (S.map (·.2)))(h3:KSl w b v3 [])(hS:∀ x∈S,0<x.2.length)(hsl:cQ S≤1000000)(hn:S.length≤9000) :
  Calls Tryz.prog 235 #[v1,v2,v3] w fun e w'=>∃ v',e = .returned v'∧NSl w' b v' (dT S [])∧Below w.heap.size w w':=by
 obtain⟨k0,hk0,hk1,hk2,hk3⟩:=info_parts jB;obtain⟨ao1,n,c1,rfl⟩:∃ a n c,v1 = .slice a n c:=by obtain⟨a,c,rfl,_⟩:=h1;exact⟨_,_,_,rfl⟩
 obtain⟨ao2,n2,c2,rfl⟩:∃ a n c,v2 = .slice a n c:=by obtain⟨a,c,rfl,_⟩:=h2;exact⟨_,_,_,rfl⟩
 obtain⟨ao3,c3,rfl,-⟩:=h3;obtain⟨e1,d1,-,f1⟩:=h1.facts;obtain⟨e2,d2,f2⟩:=h2.facts (fun l hl=>by obtain⟨x,hx,rfl⟩:=List.mem_map.1 hl;exact hS x hx)
 rw[List.length_map] at e1 e2;obtain rfl:n2=n:=by omega
 have HE:=Ng e1;have HSL:=Ng hS;have HF1:=Ng f1;have HF2:=Ng f2;rw[← e1] at hn;clear e1 e2 f1 f2 hS h1 h2;simp only[List.length_nil];go_enter Tryz.func235,Tryz.ntmps235
 go_wp2_with fail
 go_loopg [7,8,9,18] n2 (fun m v x s c wr=>∃ k:Nat,m=n2 - k∧k≤n2∧c = .int .i64 k∧aO wr w.heap.size b v ((S.take k).map kX)∧Below w.heap.size w wr∧Boxed wr w.heap.size 25 (.slice ao2 n2 c2))
 case atStart=>exact⟨0,rfl,Nat.zero_le _,rfl,aO.nil _ _ _,(Below.refl _ _).alloc (Nat.le_refl _) _,Boxed.new _ _ _⟩
 case round =>
  obtain⟨k,rfl,hk,rfl,hO,hbr,hBx⟩:=hrel;have hbx:=hBx.cell;obtain⟨ao,acap,rfl⟩:=hO.form;have hlk:((S.take k).map kX).length=k:=by rw[List.length_map,List.length_take];have:=HE.out;omega
  have HO:=Ng hO;rw[hlk] at HO ⊢;clear hO
  by_cases hlt:k<n2
  ·obtain⟨g1,rfl,q1⟩:=HF1.out k hlt;obtain⟨g2,u,rfl,q2,q3⟩:=HF2.out k hlt;have q1:=aF hbr q1;have q2:=aF hbr q2;have q3:=q3.below hbr;have HT:=Ng (Cw S k (by have:=HE.out;omega))
   have hql:((S.map (·.2)).getD k []).length≤1000000:=by
    have hkS:k<S.length:=by have:=HE.out;omega
    have h9:=Bn S _ (List.getElem_mem hkS);rw[List.getD_eq_getElem?_getD,List.getElem?_map,List.getElem?_eq_getElem hkS];show S[k].2.length≤1000000
    omega
   generalize (S.map (·.2)).getD k []=q at q3 HT hql;generalize (S.map (·.1)).getD k []=nm at q1 HT;obtain⟨gu,cu,rfl,-⟩:=id q3;have hszr:=hbr.size;have HN:=Ng (bT 22 0 nm [q] b _ _ (by simp;omega) (KSl.new1 (w:=wr) (by omega) (.inl q3)) (by simp;omega) (by simp))
   go_wp2_with fail
   refine HN.out.mono ?_;rintro e w5 ⟨v5,rfl,hN5,hb5⟩;have hb6:=aE ((Below.refl _ wr).alloc (Nat.le_refl _) _) hb5;have hsz5:=hb6.size;obtain⟨us,u1,u2,u3⟩:=HO.out.below hb hb6;rw[hlk] at u2;have hOA:∀ o,(w5.alloc o).ownsRow w.heap.size 26 1 _ k us:=fun o=>bM u2 (aB.ofBelow (S:=bW) ((Below.refl _ w5).alloc (Nat.le_refl _) o)) (fun _ _ _ e=>e)
   have HN5:=Ng hN5;obtain⟨g5,c5,rfl,-⟩:=id hN5;generalize hz:List.length (aC 22 0 nm [q])=z at hN5 ⊢;clear hN5;go_wp2_with (at_builtin;refine wpList_append_own _ rfl _ _ 25 rfl w.heap.size 26 k0 _ 1 24 Tryz.underlying25 hk0 hk1 hk2 hk3 rfl (by decide) _ _ _ rfl (hOA _) ⟨w5.heap.size,0,none⟩ 1 1 [.slice (some ⟨g5,0,none⟩) z c5] rfl rfl ?c1 ?c2 ?c3 ?c4 ?c5 ?_)
   case c1=>exact cL (by simp)
   case c2 =>
    intro u hu;simp at hu
    subst hu;rfl
   case c3=>unfold maxLen;omega
   case c4=>omega
   case c5=>simp;omega
   intro v6 w6 hown' hgrow _;obtain⟨hO7,hb7⟩:=aO.grown (w0:=w) (w:=w5) (L:=(S.take k).map kX) (l:=aC 22 0 nm [q]) (by omega) u1 (by rw[hlk];exact u2) u3 HN5.out (by rw[hlk];rw[hz];exact hown') hgrow
   rw[← HT.out] at hO7;have hw1:IntKind.i64.wrap ((k:Int)+1)=(k:Int)+1:=by rw[IntKind.wrap_i64];omega
   have hBx7:Boxed w6 w.heap.size 25 (.slice (some ⟨g2,0,none⟩) n2 c2):=by
    have h8:Boxed w5 w.heap.size 25 (.slice (some ⟨g2,0,none⟩) n2 c2):=(hb6.block _ hBx.lt).trans hBx;have h9:=h8.alloc (.cells #[Value.slice (some ⟨g5,0,none⟩) z c5] 26);exact h9.kept hgrow (h9.not_row (by decide) (hOA _))
   clear u1 u2 u3 hOA;go_wp2_with fail
   go_roundg (n2 - (k+1))
   case measure=>omega
   case rel=>exact⟨k+1,rfl,by omega,by go_num,hO7,hbr.trans (hb6.mono hbr.size |>.trans hb7),hBx7⟩
  ·obtain rfl:k=n2:=by omega
   have hal:S.take k=S:=List.take_of_length_le (by have:=HE.out;omega)
   rw[hal] at HO hlk;have hlen:=Da S;have:=HE.out
   have HQ:=Ng (sP (S.map kX) b _ wr (by have:=hbr.size;omega) hlen.2 (by rw[hlen.1];omega) (by rw[hlk];omega) (HO.out.ksl hb))
   clear this;go_wp2_with fail
   refine HQ.out.mono ?_;rintro e w5 ⟨v5,rfl,hN5,hb5⟩;obtain⟨g5,c5,rfl,-⟩:=id hN5;go_wp2_with fail
   go_ret;exact⟨_,rfl,hN5,hbr.trans (hb5.mono hbr.size)⟩
attribute [local go_sem] Oper.semAt_some
def iA (l:List (List UInt8×aA)) (c:aA):aA:=l.foldr (fun x c=>aC 35 0 x.1 [x.2,c]) c
theorem GQ (l:List (List UInt8×aA))(c:aA)(h:∀ t∈l,t.2.length≤50000):(iA l c).length≤c.length+50001 * l.length:=by
 induction l with
 | nil=>exact Nat.le_refl _
 | cons t l ih =>
  have h1:=ih (fun t ht=>h t (by simp [ht]))
  have h2:=h t (by simp)
  unfold iA at h1 ⊢;rw[List.foldr_cons,(jF _ _ _ _ _).1,List.length_cons];omega
theorem Bz (S:List (List UInt8×aA)):(List.finRange S.length).map (fun x=>((fun j=>(S.map (·.1)).getD j []) x.1,(fun j=>(S.map (·.2)).getD j []) x.1))=S:=by
 apply List.ext_getElem
 ·simp
 ·intro i h1 h2;simp
theorem Jc (S:List (List UInt8×aA))(Ws:List aA)(b:Nat)(v1 v2 v3:Value)(w:World)(hb:b<w.heap.size)(h1:SSl w v1 (S.map (·.1)))(h2:KSl w b v2 (S.map (·.2)))(h3:KSl w b v3 Ws)(hS:∀ x∈S,0<x.2.length∧x.2.length≤50000)(hn:S.length≤9000)(hW:0<Ws.length)(hWl:Ws.flatten.length≤1000000)(hWn:Ws.length≤9000) :
  Calls Tryz.prog 235 #[v1,v2,v3] w fun e w'=>∃ v',e = .returned v'∧NSl w' b v' (dT S Ws)∧Below w.heap.size w w':=by
 have hmade:dT S Ws=iA S (aC 21 0 [] Ws):=by unfold dT iA;rw[if_neg (by omega)]
 rw[hmade];obtain⟨ao1,n,c1,rfl⟩:∃ a n c,v1 = .slice a n c:=by obtain⟨a,c,rfl,_⟩:=h1;exact⟨_,_,_,rfl⟩
 obtain⟨ao2,n2,c2,rfl⟩:∃ a n c,v2 = .slice a n c:=by obtain⟨a,c,rfl,_⟩:=h2;exact⟨_,_,_,rfl⟩
 obtain⟨e1,d1,d0,f1⟩:=h1.facts;obtain⟨e2,d2,f2⟩:=h2.facts (fun l hl=>by obtain⟨x,hx,rfl⟩:=List.mem_map.1 hl;exact (hS x hx).1)
 rw[List.length_map] at e1 e2;obtain rfl:n2=n:=by omega
 have HE:=Ng e1;have HF1:=Ng f1;have HF2:=Ng f2;have HSL:=Ng hS;rw[← e1] at hn;clear e1 e2 f1 f2 hS;have hb0:=(Below.refl w.heap.size w).alloc (Nat.le_refl _) (.cells #[.slice ao2 n2 c2] 25);have HN0:=Ng (bT 21 0 [] Ws b v3 (w.alloc (.cells #[.slice ao2 n2 c2] 25)) (by simp;omega) (h3.below hb0) (by omega) (by omega))
 obtain⟨ao3,c3,rfl,-⟩:=h3;have hlw:(aC 21 0 [] Ws).length≤1000001:=by rw[bN];omega
 generalize aC 21 0 [] Ws=c at HN0 hlw ⊢;have kw:((Ws.length:Int)==0)=false:=by rw[beq_eq_false_iff_ne];omega
 generalize Ws.length=n3 at HN0 kw ⊢;clear hW hWl hWn h1 h2 hmade;refine (callsIn_wide (n:=6)).1 ?_;refine callsIn_of_wp_marks Tryz.func235 rfl trivial ?_ rfl;simp only[Tryz.ntmps235,List.size_toArray,List.length_cons,List.length_nil,Nat.reduceAdd,Nat.reduceSub,Array.replicate_succ,Array.replicate_zero,List.push_toArray,List.append_toArray,List.nil_append,List.cons_append];gi_wp2_with fail
 refine ⟨trivial,(callsIn_wide.2 HN0.out).mono ?_⟩;rintro e w1 ⟨v5,rfl,hN5,hb1⟩;have hb2:=aE hb0 hb1;have bX:=(hb1.block _ (Boxed.new w 25 (.slice ao2 n2 c2)).lt).trans (Boxed.new w 25 (.slice ao2 n2 c2));have HN5:=Ng hN5;obtain⟨g5,z5,rfl,-⟩:=hN5;generalize hz:c.length=z at *;gi_wp2_with (refine ⟨trivial,?_⟩;gi_at_call 261;refine (callsIn_wide.2 (AX _ _ _ _)).mono ?_;rintro e w' ⟨rfl,rfl⟩)
 have bC:=(Boxed.new w1 26 (.slice (some ⟨g5,0,none⟩) z z5)).alloc (.cells #[.slice ao1 n2 c1] 22);have bS:=Boxed.new (w1.alloc (.cells #[.slice (some ⟨g5,0,none⟩) z z5] 26)) 22 (.slice ao1 n2 c1);have hB9:=((Below.refl w1.heap.size w1).alloc (Nat.le_refl _) (.cells #[.slice (some ⟨g5,0,none⟩) z z5] 26)).alloc (by simp) (.cells #[.slice ao1 n2 c1] 22)
 have hsz:((w1.alloc (.cells #[.slice (some ⟨g5,0,none⟩) z z5] 26)).alloc (.cells #[.slice ao1 n2 c1] 22)).heap.size=w1.heap.size+2:=by simp
 simp only[World.size_alloc] at bC bS;obtain⟨W0,hW0⟩:∃ W0,(w1.alloc (.cells #[.slice (some ⟨g5,0,none⟩) z z5] 26)).alloc (.cells #[.slice ao1 n2 c1] 22)=W0:=⟨_,rfl⟩;rw[hW0] at bC bS hB9 hsz ⊢;have hB0:=aE hb2 hB9;have hN0:=HN5.out.below hB9;have hX0:Boxed W0 w.heap.size 25 (.slice ao2 n2 c2):=(hB9.block _ (lt_of_block bX)).trans bX;have hCb:w.heap.size<w1.heap.size:=lt_of_block bX;obtain⟨Cb,hCbb⟩:∃ Cb,w1.heap.size=Cb:=⟨_,rfl⟩;rw[hCbb] at bC bS hsz hCb ⊢;clear hW0 hB9 HN5 hCbb hb0 hb1 hb2 bX HN0
 obtain⟨ap,hap1,hap2⟩:∃ ap:Option Addr,(0<n2→ap=ao1)∧(n2=0→ap=none):=by
  by_cases h:0<n2
  ·exact⟨ao1,fun _=>rfl,fun h2=>by omega⟩
  ·exact⟨none,fun h2=>absurd h2 h,fun _=>rfl⟩
 have hapl:∀ k,ap=some ⟨k,0,none⟩→k<w.heap.size:=fun k hk=>by
  by_cases h:0<n2
  ·rw[hap1 h] at hk;exact d0 k hk h
  ·rw[hap2 (by omega)] at hk
   cases hk
 obtain⟨ns,hns⟩:∃ ns:Nat→List UInt8,(fun j=>(S.map (·.1)).getD j [])=ns:=⟨_,rfl⟩
 obtain⟨qs,hqs⟩:∃ qs:Nat→aA,(fun j=>(S.map (·.2)).getD j [])=qs:=⟨_,rfl⟩
 have hq2:∀ j,j<n2→(qs j).length≤50000:=fun j hj=>by
  have hjS:j<S.length:=by have:=HE.out;omega
  rw[← hqs];dsimp only;rw[List.getD_eq_getElem?_getD,List.getElem?_map,List.getElem?_eq_getElem hjS];exact (HSL.out _ (List.getElem_mem hjS)).2
 have hcs2:∀ j,j<n2→∃ g,ao1=some ⟨g,0,none⟩∧ap=some ⟨g,0,none⟩∧W0.cell? ⟨g,j,none⟩=some (.string (bs (ns j))):=fun j hj=>by
  obtain⟨g,e,q1⟩:=HF1.out j hj;refine ⟨g,e,by rw[hap1 (by omega),e],?_⟩
  rw[← hns];exact aF hB0 q1
 have HFQ:=Ng (show ∀ j,j<n2→∃ g u,ao2=some ⟨g,0,none⟩∧w.cell? ⟨g,j,none⟩=some u∧NSl w b u (qs j) from fun j hj=>by
  rw[← hqs];exact HF2.out j hj)
 have HALL:=Ng (show (gX n2 0).reverse.map (fun x=>(ns x.1,qs x.1))=S from by
  have:=HE.out
  subst this;rw[← hns,← hqs,tZ,List.reverse_reverse];exact Bz S)
 have HT:=Ng (show ∀ l:List (Fin n2),(iA (l.map (fun x=>(ns x.1,qs x.1))) c).length≤z+50001 * l.length from fun l=>by
  have h:=GQ (l.map (fun x=>(ns x.1,qs x.1))) c (fun t ht=>by
   obtain⟨x,_,rfl⟩:=List.mem_map.1 ht;exact hq2 x.1 x.2)
  rw[List.length_map,hz] at h;exact h)
 clear hap1 hap2 d0 hns hqs HF1 HF2
 refine wpIn_rangeFunc_ownH rfl (by omega) (gf:=282) (lb:=#[.pointer (some ⟨Cb+1,0,none⟩)]) rfl trivial (enters_of Tryz.func282 (by kernel_rfl) rfl)
  (Ao Fence.wide (6 - 1) trivial rfl (by omega) (Cb+1) n2 c1 ao1 ap ns (by omega) d1 W0 bS.cell hcs2) cR.trans (vG (by omega) (fun k hk=>by have:=hapl k hk;omega)) (Below.refl _ _) (fun _=>rfl)
  (fun pre W=>(∃ v,Boxed W Cb 26 v∧NSl W b v (iA (pre.reverse.map (fun x=>(ns x.1,qs x.1))) c))∧Boxed W w.heap.size 25 (.slice ao2 n2 c2)∧(Below w.heap.size w W∧Cb+2≤W.heap.size))
  (fun _ _ _=>False)
  (OwnFrom.and (Own.from (fun s X Y row hs hg hr=>by obtain⟨v,h1,h2⟩:=hs;exact⟨v,boxed_own _ _ (fun (_:Unit)=>v) () X Y row h1 hg hr,h2.others hg hr⟩) _) (OwnFrom.and (Own.from (boxed_own _ _ (fun _=>_)) _) (OwnFrom.and (ownFrom_below (Nat.le_refl _) (by omega)) (fun _ _ _ _ hs hg _=>Nat.le_trans hs hg.size))))
  (fun _ _ _ _ _ hs _ _=>hs)
  ⟨⟨_,bC,hN0⟩,hX0,hB0,by omega⟩
  (fun x a' _=>a'={ tmps:=#[.slice ao1 n2 c1,.slice ao2 n2 c2,.slice ao3 n3 c3,undef,.pointer (some ⟨w.heap.size,0,none⟩),undef,.slice none 0 0,undef,undef,undef,.pointer (some ⟨Cb,0,none⟩),.int .i64 (x.1:Int),.string (bs (ns x.1)),.slice ao3 n3 c3,.int .i64 n3,.bool false,undef,undef,undef,undef,undef,undef,undef,undef,undef,undef,undef,undef,undef,undef,undef,undef,undef,undef,undef,undef,.slice ao3 n3 c3,.slice (some ⟨g5,0,none⟩) z z5,.slice ao1 n2 c1,.func (.func 282) #[] #[.pointer (some ⟨Cb+1,0,none⟩)],.int .i64 (x.1:Int),.string (bs (ns x.1)),undef,undef,undef,undef,undef,undef,undef,undef,undef],defers:=[] })
  (fun _ _ _ _ _ _ hs _ _=>hs)
  ?assign ?body ?done ?stop
 case assign =>
  rintro l pre x W K hi hK;gi_wp2
  exact hK _ _ (KeepsFrom.refl _ _) (cR.refl _ _ _) hi rfl
 case body =>
  rintro l pre x a' W hl ⟨r,hr⟩ ⟨⟨v,bV,hV⟩,hBX,hB,hsW⟩ rfl hlt;obtain⟨g2,u,rfl,q1,q2⟩:=HFQ.out x.1 x.2;have q1:=aF hB q1;have hux:=q2.below hB;have hqx:=hq2 x.1 x.2;have HA:Hid (iA ((pre++[x]).reverse.map (fun x=>(ns x.1,qs x.1))) c=aC 35 0 (ns x.1) [qs x.1,iA (pre.reverse.map (fun x=>(ns x.1,qs x.1))) c]):=Ng (by rw[List.reverse_append];rfl)
  have hal:=HT.out pre.reverse;rw[List.length_reverse] at hal;generalize iA (pre.reverse.map (fun x=>(ns x.1,qs x.1))) c=A at hV HA hal
  generalize qs x.1=q at hux hqx HA;generalize ns x.1=nm at HA ⊢;have hxn:=x.2;generalize x.1=xi at q1 hxn ⊢;obtain⟨gu,cu,rfl,-⟩:=id hux;obtain⟨gv,cv,rfl,-⟩:=id hV;have cV:=bV.cell;have fV:=bV.frozen;have cX:=hBX.cell;have hbA:=((Below.refl W.heap.size W).alloc (Nat.le_refl _) (.cells #[.slice (some ⟨gu,0,none⟩) q.length cu,.slice (some ⟨gv,0,none⟩) A.length cv] 26));have hKs:=KSl.new2 (w:=W) (b:=b) (by omega) (.inl hux) (.inl hV)
  have HN:=Ng (bT 35 0 nm [q,A] b _ _ (by simp;omega) (hKs.below (Below.refl _ _).drew) (by simp;omega) (by simp))
  have hmx:Tryz.prog.follows .mixedOrders=true:=by kernel_rfl
  have hne:∀ k,(k=Cb+1∨ap=some ⟨k,0,none⟩)→k≠Cb:=fun k hk=>by
   rcases hk with hk | hk
   ·omega
   ·have:=hapl k hk
    omega
  have HFIN:=Ng (show ∀ (w5:World) (g6 z6 c6:Nat),Below W.heap.size W w5→NSl w5 b (.slice (some ⟨g6,0,none⟩) z6 c6) (aC 35 0 nm [q,A]) →
    (KeepsFrom W0.heap.size W (w5.setCell ⟨Cb,0,none⟩ (.slice (some ⟨g6,0,none⟩) z6 c6))∧cR (Cb+1) ap W (w5.setCell ⟨Cb,0,none⟩ (.slice (some ⟨g6,0,none⟩) z6 c6))∧((∃ v,Boxed (w5.setCell ⟨Cb,0,none⟩ (.slice (some ⟨g6,0,none⟩) z6 c6)) Cb 26 v∧NSl (w5.setCell ⟨Cb,0,none⟩ (.slice (some ⟨g6,0,none⟩) z6 c6)) b v (iA ((pre++[x]).reverse.map (fun x=>(ns x.1,qs x.1))) c))∧Boxed (w5.setCell ⟨Cb,0,none⟩ (.slice (some ⟨g6,0,none⟩) z6 c6)) w.heap.size 25 (.slice (some ⟨g2,0,none⟩) n2 c2)∧(Below w.heap.size w (w5.setCell ⟨Cb,0,none⟩ (.slice (some ⟨g6,0,none⟩) z6 c6))∧Cb+2≤(w5.setCell ⟨Cb,0,none⟩ (.slice (some ⟨g6,0,none⟩) z6 c6)).heap.size))) from fun w5 g6 z6 c6 hb6 hN5=>by
   have hsz5:=hb6.size;have bV5:Boxed w5 Cb 26 _:=(hb6.block _ bV.lt).trans bV;have bX5:Boxed w5 w.heap.size 25 _:=(hb6.block _ hBX.lt).trans hBX
   have hN6:NSl (w5.setCell ⟨Cb,0,none⟩ (.slice (some ⟨g6,0,none⟩) z6 c6)) b (.slice (some ⟨g6,0,none⟩) z6 c6) _:=hN5.of_block fun g cur fz h4 _=>Below.heap_setCell _ _ _ _ (fun e=>by
    subst e;have h9:=h4.symm.trans bV5;injection h9 with h9
    injection h9 with _ h9 _
    exact absurd h9 (by decide))
   exact⟨((KeepsOthers.ofBelow hb6).trans (KeepsOthers.setCell _ _ _)).from _,(cR.ofBelow hb6 (by omega) (fun k hk=>by have:=hapl k hk;omega)).trans (fun k hk=>Below.heap_setCell _ _ _ _ (hne k hk)),⟨_,bV5.set _,by rw[HA.out];exact hN6⟩,(Below.heap_setCell _ _ _ _ (by show w.heap.size≠Cb;omega)).trans bX5,(hB.trans (hb6.mono hB.size)).setCell (by show w.heap.size≤Cb;omega) _,by simp;omega⟩)
  gi_wp2_with fail
  gi_region_with_o (refine ⟨trivial,?_⟩;gi_at_call 7;refine (CallsIn.inRound l (callsIn_wide.2 HN.out)).mono ?_;rintro e w5 ⟨v5,rfl,hN5,hb5⟩;have hb6:=hbA.drew.trans (hb5.mono hbA.size);obtain⟨g6,c6,rfl,-⟩:=id hN5;generalize hz:List.length (aC 35 0 nm [q,A])=z6 at hN5 ⊢;have cV6:=aF hb6 cV;have fV6:=kT hb6 cV fV)
  all_goals exact HFIN.out _ _ _ _ hb6 hN5
 case done =>
  rintro D ys W hD rfl ⟨⟨v,bV,hV⟩,hBX,hB,hsW⟩ hK;rw[HALL.out] at hV;have cV:=bV.cell;gi_wp2
  refine ⟨by simp,.inl ⟨_,_,rfl,run_takeDeferred hK,?_⟩⟩
  refine ⟨_,results_tmp rfl _ _ _,_,rfl,hV.others (grownBy_putObj' W D _) (fun r e=>by cases e;exact⟨_,hK,rfl⟩),hB.trans ?_⟩
  exact belowK_b (w:=W0) (by omega) W D _ _ hD hK rfl rfl
 case stop =>
  rintro D c pre W _ _ h _;exact h.elim
end Go.Proofs.YtbpjobmpacjgcaaGreatDoor

namespace Go.Proofs.YtbpjobmpacjgcaaGreatDoor
set_option maxHeartbeats 16000000
set_option maxRecDepth 100000
open Go Go.RowKit
def p8 (w:World) (b g cap:Nat) (ts:List aH) (d k:Nat) (sent:Nat→Addr) (r:Except (Nat×Nat) (aA×Nat)) (e:Ending) (w':World):Prop :=
 aB (At b) w w'∧match r with
 | .ok (l,j)=>∃ v,e = .returned (.tuple #[.agg #[.int .i64 (k:Int),v],.nilIface])∧NSl w' b v l∧PSt w' b g cap ts j d
 | .error (c,p)=>∃ v u j,e = .returned (.tuple #[.agg #[.int .i64 (k:Int),v],u])∧(∃ ao n cp,v = .slice ao n cp)∧cU w w' sent c p u∧PSt w' b g cap ts j d
theorem p8.ok {w w':World}{b g cap:Nat}{ts:List aH}{d k:Nat}{sent:Nat→Addr}{l:aA}{j:Nat}{v:Value}{r:Except (Nat×Nat) (aA×Nat)}{e:Ending}(hr:r = .ok (l,j))(he:e = .returned (.tuple #[.agg #[.int .i64 (k:Int),v],.nilIface]))(h1:NSl w' b v l)(h2:PSt w' b g cap ts j d)(hk:aB (At b) w w'):p8 w b g cap ts d k sent r e w':=by
 subst hr;exact⟨hk,v,he,h1,h2⟩
theorem p8.bad {w w':World}{b g cap:Nat}{ts:List aH}{d k:Nat}{sent:Nat→Addr}{c p j:Nat}{v u:Value}{r:Except (Nat×Nat) (aA×Nat)}{e:Ending}(hr:r = .error (c,p))(he:e = .returned (.tuple #[.agg #[.int .i64 (k:Int),v],u]))(hv:∃ ao n cp,v = .slice ao n cp)(h1:cU w w' sent c p u)(h2:PSt w' b g cap ts j d)(hk:aB (At b) w w'):p8 w b g cap ts d k sent r e w':=by
 subst hr;exact⟨hk,v,u,j,he,hv,h1,h2⟩
theorem BU {b g cap:Nat}{ts:List aH}{sent:Nat→Addr}(T:PTs cap ts)(f:Nat)(ih:rR b g cap ts sent f)(w:World)(i d:Nat)(r:Except (Nat×Nat) (aA×Nat))(hd:d≤31)(hi:i<ts.length)(hS:PSt w b g cap ts i d)(hE:iG w b sent)(hr:Hid (dJ ts f d (skP ts i) 0=some r)) :
  Calls Tryz.prog 230 #[.pointer (some ⟨b,0,none⟩)] w (p8 w b g cap ts d (aK ts i).kind sent r):=by
 have hbl:=hS.blt;have hgl:=hS.glt;have F:=T.fix;have hf0:=zX;have IH:=Ng ih;clear ih;have hj:=(nF (ts:=ts) hi).2;obtain⟨j,hjj⟩:∃ j,skP ts i=j:=⟨_,rfl⟩;rw[hjj] at hr hj;obtain⟨tk,htk⟩:∃ tk,aK ts i=tk:=⟨_,rfl⟩;rw[htk];have hx:=World.alloc_heap_new w (.cells #[Value.int .i64 0,.slice none 0 0] 228);have hb0:=(Below.refl w.heap.size w).alloc (Nat.le_refl _) (.cells #[Value.int .i64 0,.slice none 0 0] 228);have hS0:=hS.below hb0;have hE0:=hE.below hb0;have hK0:=(aB.refl (At b) w).andBelow hb0;clear hS hE;go_enter Tryz.func230,Tryz.ntmps230
 go_wp2_with fail
 refine (oU F hS0 hi).mono ?_;rintro e w1 ⟨rfl,hb1⟩;rw[htk];unfold aH.cells;have hx1:=(hb1.block _ (lt_of_block hx)).trans hx;have hS1:=hS0.below hb1;have hE1:=hE0.below hb1;have hK1:=hK0.andBelow hb1;clear hx hb0 hS0 hE0 hK0 hb1 htk;go_wp2_with fail
 refine (mC F hS1 hi).mono ?_;rintro e w2 ⟨rfl,hS2,hK2⟩;rw[hjj] at hS2;have hx2:=(hK2.block _ (lt_of_block hx1) (fun e=>by unfold At at e;omega)).trans hx1
 have hE2:=hE1.kept hK2;have hK3:=hK1.same hK2;clear hx1 hS1 hE1 hK1 hK2;have HD:=Ng (IH.out w2 j d 0 r hd (by omega) hj hS2 hE2 hr)
 have hsz2:=hK3.size;have hlt2:=lt_of_block hx2;go_wp2_with fail
 refine HD.out.mono ?_
 cases r with
 | error e0 =>
  obtain⟨c0,p0⟩:=e0;rintro e w5 ⟨hK5,v,u,j',l0,rfl,h0,-,⟨eb,rfl,q2,q3⟩,hS5⟩;obtain⟨va,vc,rfl⟩:=h0.form;have hx5:=(hK5.block _ (lt_of_block hx2) (fun e=>by unfold At at e;omega)).trans hx2
  have hBx5:Blk w5 w.heap.size [Value.int .i64 0,.slice none 0 0]:=⟨_,hx5⟩;have x0:=hBx5.cell 0 rfl;have x1:=hBx5.cell 1 rfl;have f0:=hBx5.free 0;have f1:=hBx5.free 1;have hK6:=hK3.same hK5;go_wp2_with fail
  have hB9:=(hBx5.set 0 (.int .i64 (tk.kind:Int))).set 1 (.slice va l0.length vc);have hb9:=((Below.refl w.heap.size w5).setCell (p:=⟨w.heap.size,0,none⟩) (Nat.le_refl _) (.int .i64 (tk.kind:Int))).setCell (p:=⟨w.heap.size,1,none⟩) (Nat.le_refl _) (.slice va l0.length vc);have hK9:=(hK6.setCell (p:=⟨w.heap.size,0,none⟩) (fun h=>absurd h (by simp)) (.int .i64 (tk.kind:Int))).setCell (p:=⟨w.heap.size,1,none⟩) (fun h=>absurd h (by simp)) (.slice va l0.length vc)
  have hS9:=hS5.belowB hb9 hbl hgl;unfold bJ at q2;have hE9:=(q2.other (p:=⟨w.heap.size,0,none⟩) (by show w.heap.size≠eb;omega) (.int .i64 (tk.kind:Int))).other (p:=⟨w.heap.size,1,none⟩) (by show w.heap.size≠eb;omega) (.slice va l0.length vc)
  refine bodyPost_ret (eY (p:=2) (u:=3) (g:=w.heap.size) (cs:=[.int .i64 (tk.kind:Int),.slice va l0.length vc]) rfl _ _ _ rfl hB9 Tryz.underlying228 rfl (by kernel_rfl)) rfl (p8.bad rfl rfl ⟨_,_,_,rfl⟩ ⟨eb,rfl,hE9,by omega⟩ hS9 hK9)
 | ok q =>
  obtain⟨l,e2⟩:=q;rintro e w5 ⟨hK5,v,rfl,hN,hS5⟩;obtain⟨ga,gc,rfl,-⟩:=id hN;have hx5:=(hK5.block _ (lt_of_block hx2) (fun e=>by unfold At at e;omega)).trans hx2
  have hBx5:Blk w5 w.heap.size [Value.int .i64 0,.slice none 0 0]:=⟨_,hx5⟩;have x0:=hBx5.cell 0 rfl;have x1:=hBx5.cell 1 rfl;have f0:=hBx5.free 0;have f1:=hBx5.free 1;have hK6:=hK3.same hK5;go_wp2_with fail
  have hB9:=(hBx5.set 0 (.int .i64 (tk.kind:Int))).set 1 (.slice (some ⟨ga,0,none⟩) l.length gc);have hb9:=((Below.refl w.heap.size w5).setCell (p:=⟨w.heap.size,0,none⟩) (Nat.le_refl _) (.int .i64 (tk.kind:Int))).setCell (p:=⟨w.heap.size,1,none⟩) (Nat.le_refl _) (.slice (some ⟨ga,0,none⟩) l.length gc);have hK9:=(hK6.setCell (p:=⟨w.heap.size,0,none⟩) (fun h=>absurd h (by simp)) (.int .i64 (tk.kind:Int))).setCell (p:=⟨w.heap.size,1,none⟩) (fun h=>absurd h (by simp)) (.slice (some ⟨ga,0,none⟩) l.length gc)
  have hS9:=hS5.belowB hb9 hbl hgl
  have hN9:=hN.of_block (w':=(w5.setCell ⟨w.heap.size,0,none⟩ (.int .i64 (tk.kind:Int))).setCell ⟨w.heap.size,1,none⟩ (.slice (some ⟨ga,0,none⟩) l.length gc)) fun g cur fz h4 _=>by
   have hne:g≠w.heap.size:=fun e=>by
    subst e;have h9:=h4.symm.trans hx5;injection h9 with h9
    injection h9 with _ h9 _
    exact absurd h9 (by decide)
   exact (Below.heap_setCell _ _ _ _ hne).trans (Below.heap_setCell _ _ _ _ hne)
  refine bodyPost_ret (eY (p:=2) (u:=3) (g:=w.heap.size) (cs:=[.int .i64 (tk.kind:Int),.slice (some ⟨ga,0,none⟩) l.length gc]) rfl _ _ _ rfl hB9 Tryz.underlying228 rfl (by kernel_rfl)) rfl (p8.ok rfl rfl hN9 hS9 hK9)
theorem AJ {ts:List aH}{i:Nat}(h:iP ts i=true):(aK ts i).kind≤100:=by
 have:=wP h
 omega
theorem GM {b g cap:Nat}{ts:List aH}{sent:Nat→Addr}(T:PTs cap ts)(f:Nat)(ih:∀ f'<f,rR b g cap ts sent f'):Af b g cap ts sent f:=by
 intro w i d r c vc hd hi hS hE hc hcl hr;have hbl:=hS.blt;have hgl:=hS.glt;have F:=T.fix;have hcap:=F.num;obtain⟨i0,hi0,hz0,hz1,hz2⟩:=info_parts Cf;have IH:=Ng ih;have HC:=Ng hc;obtain⟨gv,cv,rfl,-⟩:=hc;generalize hcz:c.length=z at *;have HCZ:=Ng hcz;clear ih hcz;go_enter Tryz.func204,Tryz.ntmps204
 go_wp2_with fail
 go_loopg [6,7,8] (ts.length - i) (fun m v t er wr=>∃ (k fk:Nat) (L:List (Nat×aA)),m=ts.length - k∧k<ts.length∧fk≤f∧L.length≤k∧Hid (∀ t∈L,t.1≤100∧t.2.length≤50000)∧aB (At b) w wr∧PSt wr b g cap ts k d∧fZ wr w.heap.size b v L∧Hid (eQ ts fk d k c L=some r))
 case atStart=>exact⟨i,f,[],rfl,hi,Nat.le_refl _,by simp,Ng (fun _ h=>nomatch h),aB.refl _ _,hS,fZ.nil _ _ _,hr⟩
 case round =>
  clear hS hr hi;obtain⟨k,fk,L,rfl,hk,hfk,hL1,hL2,hK,hS,hO,hr⟩:=hrel
  obtain⟨fk,rfl⟩:∃ q,fk=q+1:=by
   cases fk with
   | zero=>have:=hr.out;rw[eQ] at this;cases this
   | succ q=>exact⟨q,rfl⟩
  obtain⟨ao,acap,rfl⟩:=hO.form;have HP:=Ng hr.out;rw[eQ] at HP;clear hr;go_wp2_with fail
  refine (AR F hS hk).mono ?_;rintro e w1 ⟨rfl,hb1⟩;have hS1:=hS.below hb1;have hO1:=hO.below hbl hb1;have hK1:=hK.andBelow hb1;have hE1:=hE.kept hK1;have hsz:=hK1.size;clear hS hO hK hb1
  by_cases x0:iP ts k=true
  ·rw[if_pos x0] at HP;have hkd:=AJ x0;rw[x0];have hj:=(nF (ts:=ts) hk).2
   cases hq:dJ ts fk d (skP ts k) 0 with
   | none =>
    rw[hq] at HP;exact (go_none HP.out).elim
   | some rc =>
    rw[hq] at HP;have HD:=Ng (BU T fk (IH.out fk (by omega)) w1 k d rc hd hk hS1 hE1 (Ng hq))
    clear hS1 x0;obtain⟨kd,hkk⟩:∃ kd,(aK ts k).kind=kd:=⟨_,rfl⟩;rw[hkk] at HD HP hkd;go_wp2_with fail
    refine HD.out.mono ?_
    cases rc with
    | error e0 =>
     obtain⟨c0,p0⟩:=e0;have HX:=Ng (eP HP.out);clear HP hq HD;rintro e w5 ⟨hK5,v,u,j',rfl,⟨va,vn,vc,rfl⟩,⟨eb,rfl,q2,q3⟩,hS5⟩;go_wp2_with fail
     go_ret2;unfold bJ at q2;exact bA.bad HX.out rfl (.none _ _) (Nat.zero_le _) ⟨eb,rfl,q2.alloc _,by omega⟩ (hS5.alloc _) ((hK1.same hK5).alloc _)
    | ok q =>
     obtain⟨l,e2⟩:=q;obtain⟨y1,y2,y3,y4⟩:=uB T (by omega) hj hq
     have hkk1:=nF (ts:=ts) hk;have HX:=Ng (show eQ ts fk d e2 c (L++[(kd,l)])=some r from HP.out)
     clear HP hq HD;rintro e w5 ⟨hK5,v,rfl,hN,hS5⟩;have hK6:=hK1.same hK5;have HN:=Ng hN;obtain⟨ga,gc,rfl,-⟩:=hN;have hO5:=hO1.kept hbl hK5;have hsz5:=hK6.size
     have HL:=Ng (show ∀ t∈L++[(kd,l)],t.1≤100∧t.2.length≤50000 from fun t ht=>by
      rcases List.mem_append.1 ht with ht | ht
      ·exact hL2.out t ht
      ·rw[List.mem_singleton] at ht;subst ht;exact⟨hkd,by show l.length≤50000;omega⟩)
     generalize hlz:l.length=lz at *;have HLZ:=Ng hlz;clear hK5 hO1 hK1 hlz hL2;go_upto_region 6 with fail
     have hb6:=(Below.refl w5.heap.size w5).alloc (Nat.le_refl _) (.cells #[.int .i64 (kd:Int),.slice (some ⟨ga,0,none⟩) lz gc] 228);have hB6:=Blk.new w5 [.int .i64 (kd:Int),.slice (some ⟨ga,0,none⟩) lz gc] 228;obtain⟨w6,hw6⟩:∃ w6,w5.alloc (.cells #[.int .i64 (kd:Int),.slice (some ⟨ga,0,none⟩) lz gc] 228)=w6:=⟨_,rfl⟩;rw[hw6] at hb6 ⊢;have hB6:Blk w6 w5.heap.size [.int .i64 (kd:Int),.slice (some ⟨ga,0,none⟩) lz gc]:=by rw[← hw6];exact hB6
     have HN6:=Ng (HN.out.below hb6);have hS6:=hS5.below hb6;have hK7:=hK6.andBelow hb6;have hsz6:=hb6.size;have t0:=hB6.cell 0 rfl;have t1:=hB6.cell 1 rfl;obtain⟨us,u1,u2,u3⟩:=hO5.below hbl hb6;generalize w5.heap.size=tb at *;clear hO5 hS5 HN hw6 hb6 hB6 hK6;have hOA:∀ o,(w6.alloc o).ownsRow w.heap.size 228 2 _ L.length _:=fun o=>bM u2 (aB.ofBelow (S:=bW) ((Below.refl _ w6).alloc (Nat.le_refl _) o)) (fun _ _ _ e=>e)
     have hsz7:=hK7.size;go_wp2_with (at_builtin;refine wpList_append_own _ rfl _ _ 226 rfl w.heap.size 228 i0 _ 2 32 Tryz.underlying226 hi0 hz0 hz1 hz2 rfl (by decide) _ _ _ rfl (hOA _) ⟨w6.heap.size,0,none⟩ 1 1 [.int .i64 (kd:Int),.slice (some ⟨ga,0,none⟩) lz gc] rfl rfl (cL (by simp)) (by intro u hu;simp at hu;rcases hu with rfl | rfl <;> rfl) (by unfold maxLen;omega) (by omega) (by simp;omega) ?_;intro v7 w7 hown' hgrow _)
     obtain⟨hO7,hb7⟩:=fZ.grown (w0:=w) (t:=(kd,l)) hsz7 u1 u2 u3 (by have:=HN6.out;exact this) hown' hgrow
     have hS7:=hS6.belowB hb7 hbl hgl;have hK8:=hK7.belowB hb7 (Nat.le_refl _);go_wp2_with fail
     go_roundg (ts.length - e2)
     case measure=>omega
     case rel=>exact⟨e2,fk,L++[(kd,l)],rfl,y2,by omega,by simp;omega,HL,hK8,hS7,hO7,HX⟩
  ·have x0:iP ts k=false:=by simpa using x0
   rw[x0,if_neg (by simp)] at HP
   have HX:=Ng (gI HP.out);rw[x0];have HA:=Ng (A8 L c b _ _ w1 (by omega) hO1.tsl (HC.out.kept hK1) (by have:=HCZ.out;omega) hL2.out (by omega))
   clear HP x0;go_wp2_with fail
   refine HA.out.mono ?_;rintro e w5 ⟨v5,rfl,hN5,hb5⟩;obtain⟨g5,c5,rfl,-⟩:=id hN5;go_wp2_with fail
   go_ret2;exact bA.ok HX.out rfl hN5 (hS1.below hb5) (hK1.andBelow hb5)
theorem aO.one {w:World}{B b:Nat}{u:Value}{l:aA}(hB:B≤w.heap.size)(hu:NSl w b u l):aO (w.alloc (.cells #[u] 26)) B b (.slice (some ⟨w.heap.size,0,none⟩) 1 1) [l]:=by
 refine ⟨[u],rfl,⟨rfl,.inr ⟨w.heap.size,1,#[u],rfl,hB,?_,Nat.le_refl _,by unfold maxLen;omega,rfl,rfl⟩⟩,fun i x y hx hy=>?_⟩
 ·show (w.heap.push _)[w.heap.size]?=_
  rw[Array.getElem?_push,if_pos rfl]
 ·cases i with
  | zero =>
   cases hx
   cases hy
   exact hu.below ((Below.refl _ w).alloc (Nat.le_refl _) _)
  | succ i=>simp at hx
set_option maxHeartbeats 32000000
theorem Kv (S:List (List UInt8×aA))(Ws:List aA)(b:Nat)(v1 v2 v3:Value)(w:World)(hb:b<w.heap.size)(h1:SSl w v1 (S.map (·.1)))(h2:KSl w b v2 (S.map (·.2)))(h3:KSl w b v3 Ws)(hS:∀ x∈S,0<x.2.length∧x.2.length≤50000)(hsl:cQ S≤1000000)(hn:S.length≤9000)(hWl:Ws.flatten.length≤1000000)(hWn:Ws.length≤9000) :
  Calls Tryz.prog 235 #[v1,v2,v3] w fun e w'=>∃ v',e = .returned v'∧NSl w' b v' (dT S Ws)∧Below w.heap.size w w':=by
 by_cases hW:0<Ws.length
 ·exact Jc S Ws b v1 v2 v3 w hb h1 h2 h3 hS hn hW hWl hWn
 ·obtain rfl:Ws=[]:=List.length_eq_zero_iff.1 (by omega)
  exact I0 S b v1 v2 v3 w hb h1 h2 h3 (fun x hx=>(hS x hx).1) hsl hn
theorem SSl.kept {w w':World}{b:Nat}{v:Value}{L:List (List UInt8)}(h:SSl w v L)(hk:aB (At b) w w')(hb:∀ k,v.ownBlock=some k→k≠b):SSl w' v L:=by
 obtain⟨ao,cap,rfl,h2,h3,h4⟩:=h;refine ⟨ao,cap,rfl,h2,h3,fun hl=>?_⟩
 obtain⟨g,rfl,e2,e3⟩:=h4 hl;exact⟨g,rfl,Nat.lt_of_lt_of_le e2 hk.size,fun i s hi=>hk.cell (e3 i s hi) (hb g rfl)⟩
theorem dY.grown {w0 w w':World}{v v':Value}{L:List (List UInt8)}{s:List UInt8}{o:Obj}(hs:w0.heap.size≤w.heap.size)(h2:dY w w0.heap.size v L)
  (hown:w'.ownsRow w0.heap.size 9 1 v' (L.length+1) (L.map (fun s=>Value.string (bs s))++[.string (bs s)])) (hg:(w.alloc o).grownBy w' v.ownBlock):dY w' w0.heap.size v' (L++[s])∧Below w0.heap.size w w':=by
 have hb1:=(Below.refl w.heap.size w).alloc (Nat.le_refl _) o;have hlt:=World.ownsRow.lt h2;refine ⟨?_,?_⟩
 ·unfold dY;rw[List.length_append,List.map_append];exact hown
 ·exact (hb1.mono hs).trans ((aB.grown (S:=fun k=>some k=v.ownBlock) (aB.refl _ _) hg (fun k h _=>h.symm)).below (by simp;omega) (fun i hi e=>by have:=hlt _ e.symm;omega))
theorem Ig {ts:List aH}{cap:Nat}(T:PTs cap ts){f d i:Nat}{S:List (List UInt8×aA)}{e:Nat}(hi:i<ts.length)(h:gL ts f d i []=some (.ok (S,e))):e<ts.length∧cQ S≤50000∧S.length≤8200:=by
 have h1:=((lB T.fix.good f).sets d i [] hi).1 S e h;have:=T.fix.num
 simp only[cQ,List.map_nil,List.sum_nil,List.length_nil] at h1;unfold cQ;omega
theorem Hn {ts:List aH}{cap:Nat}(T:PTs cap ts){f d i:Nat}{o:List aA×List (Nat×aA)}{e:Nat}(hi:i<ts.length)(h:eB ts f d i [] []=some (.ok (o,e))):e<ts.length∧o.1.flatten.length≤50000∧o.1.length≤8200∧o.2.length≤8200:=by
 have h1:=((lB T.fix.good f).items d i [] [] hi).1 o e h;have:=T.fix.num
 simp only[dQ,List.flatten_nil,List.map_nil,List.sum_nil,List.length_nil] at h1;omega
theorem Gu {b g cap:Nat}{ts:List aH}{sent:Nat→Addr}(T:PTs cap ts)(f:Nat)(ih:∀ f'<f,rR b g cap ts sent f'):gN b g cap ts sent 205 (gS ts (f+1)):=by
 intro w i d r hd hi hS hE hr;have hbl:=hS.blt;have hgl:=hS.glt;have F:=T.fix;have hcap:=F.num;have hf3:=zZ;have hf0:=zX;obtain⟨k0,hk0,hk1,hk2,hk3⟩:=info_parts jB;obtain⟨i0,hi0,hz0,hz1,hz2⟩:=info_parts Cf;obtain⟨s0,hs0,hs1,hs2,hs3⟩:=info_parts xI;have IH:=Ng ih;have HR:=Ng hr.out;rw[gS] at HR;clear ih hr
 cases hq:gL ts f d i [] with
 | none =>
  rw[hq] at HR;exact (go_none HR.out).elim
 | some rs =>
  rw[hq] at HR;have HQ:=Ng hq;have HFS:=Ng (show ∀ S e,rs = .ok (S,e)→e<ts.length∧cQ S≤50000∧S.length≤8200 from fun S e h=>Ig T hi (by rw[hq,h]))
  clear hq;go_enter Tryz.func205,Tryz.ntmps205
  go_upto_block 0 with fail
  go_cut [4,6] (fun s4 s6 w2=>∃ (k:Nat) (S:List (List UInt8×aA)),rs = .ok (S,k)∧(∀ x∈S,0<x.2.length∧x.2.length≤50000)∧aO w2 w.heap.size b s4 (S.map (·.2))∧dY w2 w.heap.size s6 (S.map (·.1))∧aB (At b) w w2∧PSt w2 b g cap ts k d)
  case first =>
   go_wp2_with fail
   go_loopg [4,6,8,9] (ts.length - i) (fun m v4 v6 w8 e9 wr=>∃ (k fk:Nat) (L:List (List UInt8×aA)),m=ts.length - k∧k<ts.length∧fk≤f∧L.length≤k∧Hid (∀ x∈L,0<x.2.length∧x.2.length≤50000)∧aB (At b) w wr∧PSt wr b g cap ts k d∧aO wr w.heap.size b v4 (L.map (·.2))∧dY wr w.heap.size v6 (L.map (·.1))∧Hid (gL ts fk d k L=some rs))
   case atStart=>exact⟨i,f,[],rfl,hi,Nat.le_refl _,by simp,Ng (fun _ h=>nomatch h),aB.refl _ _,hS,aO.nil _ _ _,dY.nil _ _,HQ⟩
   case round =>
    clear hS HQ hi;obtain⟨k,fk,L,rfl,hk,hfk,hL1,hL2,hK,hS,hO,hO2,hr⟩:=hrel
    obtain⟨fk,rfl⟩:∃ q,fk=q+1:=by
     cases fk with
     | zero=>have:=hr.out;rw[gL] at this;cases this
     | succ q=>exact⟨q,rfl⟩
    obtain⟨ao,acap,rfl⟩:=hO.form;obtain⟨ao2,acap2,rfl⟩:=hO2.form;simp only[List.length_map];have HP:=Ng hr.out;rw[gL] at HP;clear hr;go_wp2_with fail
    refine (iY F (hS.alloc _) hk [18] _ _ (by decide) (show Blk _ _ [Value.int .i64 18] from Blk.new wr _ _)).mono ?_
    rintro e w1 ⟨rfl,hb1⟩;have hb2:=aE ((Below.refl _ wr).alloc (Nat.le_refl _) _) hb1;have hS1:=hS.below hb2;have hK1:=hK.andBelow hb2;have hO1:=hO.below hbl hb2;have hO21:=hO2.below hbl hb2;have hsz1:=hK1.size;clear hS hK hO hO2 hb1 hb2;have x1:isK ts k [18]=false:=EB T k;rw[x1];rw[if_neg (fun h=>by rw[x1] at h;exact absurd h.1 (by simp))] at HP
    have HX:=Ng (gI HP.out);clear HP;go_wp2_with fail
    go_meet
    case rel=>exact⟨k,L,HX.out,hL2.out,by have h:=hO1;rw[List.length_map] at h;exact h,by have h:=hO21;rw[List.length_map] at h;exact h,hK1,hS1⟩
  case rest =>
   rename World=>wa
   obtain⟨k1,S,rfl,hSx,hO,hO2,hK,hSc⟩:=hcut;obtain⟨f1,f2,f3⟩:=HFS.out S k1 rfl;have HSX:=Ng hSx;have HK2:=hO.ksl hbl;have HS2:=hO2.ssl;obtain⟨ao4,ac4,rfl⟩:=hO.form;obtain⟨ao6,ac6,rfl⟩:=hO2.form
   have hne2:∀ q,(Value.slice ao6 (S.map (·.1)).length ac6).ownBlock=some q→q≠b:=fun q hq=>by
    have:=World.ownsRow.lt hO2 q hq
    omega
   have hlen1:(S.map (·.1)).length=S.length:=List.length_map _;have hlen2:(S.map (·.2)).length=S.length:=List.length_map _;rw[hlen1] at HS2 hne2 ⊢;rw[hlen2] at HK2 ⊢;have HNE:=Ng hne2;clear hlen1 hlen2 hO hO2 hSx HQ HFS hS hne2;have hbw:b<wa.heap.size:=by have:=hK.size;omega
   have hgw:=hSc.glt;have HR2:=Ng (show ((eB ts f d k1 [] []).go fun wt e=>if S.length+wt.1.length+wt.2.length=0 then jJ ts e else pOk (fF wt.2 (dT S wt.1)) e)=some r from HR.out)
   clear HR
   cases hq:eB ts f d k1 [] [] with
   | none =>
    rw[hq] at HR2;exact (go_none HR2.out).elim
   | some ri =>
    rw[hq] at HR2;have HQ:=Ng hq;have HFS:=Ng (show ∀ o e,ri = .ok (o,e)→e<ts.length∧o.1.flatten.length≤50000∧o.1.length≤8200∧o.2.length≤8200 from fun o e h=>Hn T f1 (by rw[hq,h]))
    clear hq;go_upto_block 2 with fail
    go_cut [5,7] (fun s5 s7 w2=>∃ (k:Nat) (Ws:List aA) (L:List (Nat×aA)),ri = .ok ((Ws,L),k)∧(∀ t∈L,t.1≤100∧t.2.length≤50000)∧(∀ l∈Ws,0<l.length)∧aO w2 wa.heap.size b s5 Ws∧fZ w2 wa.heap.size b s7 L∧aB (At b) wa w2∧PSt w2 b g cap ts k d)
    case first =>
     go_wp2_with fail
     go_loopg [5,7,10,11,12,13] (ts.length - k1) (fun m v5 v7 t10 e11 w12 e13 wr=>∃ (k fk:Nat) (Ws:List aA) (L:List (Nat×aA)),m=ts.length - k∧k<ts.length∧fk≤f∧Ws.length≤k∧L.length≤k∧Hid (∀ t∈L,t.1≤100∧t.2.length≤50000)∧Hid (∀ l∈Ws,0<l.length)∧aB (At b) wa wr∧PSt wr b g cap ts k d∧aO wr wa.heap.size b v5 Ws∧fZ wr wa.heap.size b v7 L∧Hid (eB ts fk d k Ws L=some ri))
     case atStart=>exact⟨k1,f,[],[],rfl,f1,Nat.le_refl _,by simp,by simp,Ng (fun _ h=>nomatch h),Ng (fun _ h=>nomatch h),aB.refl _ _,hSc,aO.nil _ _ _,fZ.nil _ _ _,HQ⟩
     case round =>
      clear hSc HQ f1 HK2 HS2;obtain⟨k,fk,Ws,L,rfl,hk,hfk,hW1,hL1,hL2,hW2,hKc,hS,hO,hO2,hr⟩:=hrel
      obtain⟨fk,rfl⟩:∃ q,fk=q+1:=by
       cases fk with
       | zero=>have:=hr.out;rw[eB] at this;cases this
       | succ q=>exact⟨q,rfl⟩
      obtain⟨ao,acap,rfl⟩:=hO.form;obtain⟨ao2,acap2,rfl⟩:=hO2.form;have HP:=Ng hr.out;rw[eB] at HP;clear hr;go_wp2_with fail
      refine (AR F hS hk).mono ?_;rintro e w1 ⟨rfl,hb1⟩;have hS1:=hS.below hb1;have hO1:=hO.below hbw hb1;have hO21:=hO2.below hbw hb1;have hK1:=hKc.andBelow hb1;have hE1:=hE.kept (hK.same hK1);have hsz1:=hK1.size;clear hS hO hO2 hKc hb1
      by_cases x0:iP ts k=true
      ·rw[if_pos x0] at HP;have hkd:=AJ x0;rw[x0];have hj:=(nF (ts:=ts) hk)
       cases hq:dJ ts fk d (skP ts k) 0 with
       | none =>
        rw[hq] at HP;exact (go_none HP.out).elim
       | some rc =>
        rw[hq] at HP;have HD:=Ng (BU T fk (IH.out fk (by omega)) w1 k d rc hd hk hS1 hE1 (Ng hq))
        clear hS1 x0;obtain⟨kd,hkk⟩:∃ kd,(aK ts k).kind=kd:=⟨_,rfl⟩;rw[hkk] at HD HP hkd;go_wp2_with fail
        refine HD.out.mono ?_
        cases rc with
        | error e0 =>
         obtain⟨c0,p0⟩:=e0;have HX0:=Ng (eP HP.out)
         have HX:=Ng (show r = .error (c0,p0) from by
          have:=HR2.out
          rw[HX0.out] at this;exact eP this)
         clear HP hq HD HX0;have hszk:=hK.size;rintro e w5 ⟨hK5,v,u,j',rfl,⟨va,vn,vc,rfl⟩,⟨eb,rfl,q2,q3⟩,hS5⟩;go_wp2_with fail
         go_ret2;unfold bJ at q2;exact bA.bad HX.out rfl (.none _ _) (Nat.zero_le _) ⟨eb,rfl,q2.alloc _,by omega⟩ (hS5.alloc _) ((hK.same (hK1.same hK5)).alloc _)
        | ok q =>
         obtain⟨l,e2⟩:=q;obtain⟨y1,y2,y3,y4⟩:=uB T (by omega) hj.2 hq
         have HX:=Ng (show eB ts fk d e2 Ws (L++[(kd,l)])=some ri from HP.out)
         clear HP hq HD;rintro e w5 ⟨hK5,v,rfl,hN,hS5⟩;have hK6:=hK1.same hK5;have HN:=Ng hN;obtain⟨ga,gc,rfl,-⟩:=hN;have hO5:=hO1.kept hbw hK5;have hO25:=hO21.kept hbw hK5;have hsz5:=hK6.size
         have HL:=Ng (show ∀ t∈L++[(kd,l)],t.1≤100∧t.2.length≤50000 from fun t ht=>by
          rcases List.mem_append.1 ht with ht | ht
          ·exact hL2.out t ht
          ·rw[List.mem_singleton] at ht;subst ht;exact⟨hkd,by show l.length≤50000;omega⟩)
         generalize hlz:l.length=lz at *;have HLZ:=Ng hlz;clear hK5 hO1 hO21 hK1 hlz hL2 hE1;go_upto_region 16 with fail
         have hb6:=(Below.refl w5.heap.size w5).alloc (Nat.le_refl _) (.cells #[.int .i64 (kd:Int),.slice (some ⟨ga,0,none⟩) lz gc] 228);have hB6:=Blk.new w5 [.int .i64 (kd:Int),.slice (some ⟨ga,0,none⟩) lz gc] 228;obtain⟨w6,hw6⟩:∃ w6,w5.alloc (.cells #[.int .i64 (kd:Int),.slice (some ⟨ga,0,none⟩) lz gc] 228)=w6:=⟨_,rfl⟩;rw[hw6] at hb6 ⊢;have hB6:Blk w6 w5.heap.size [.int .i64 (kd:Int),.slice (some ⟨ga,0,none⟩) lz gc]:=by rw[← hw6];exact hB6
         have HN6:=Ng (HN.out.below hb6);have hS6:=hS5.below hb6;have hK7:=hK6.andBelow hb6;have hO6:=hO5.below hbw hb6;have hsz6:=hb6.size;have t0:=hB6.cell 0 rfl;have t1:=hB6.cell 1 rfl;obtain⟨us,u1,u2,u3⟩:=hO25.below hbw hb6;generalize w5.heap.size=tb at *;clear hO5 hO25 hS5 HN hw6 hb6 hB6 hK6;have hOA:∀ o,(w6.alloc o).ownsRow wa.heap.size 228 2 _ L.length _:=fun o=>bM u2 (aB.ofBelow (S:=bW) ((Below.refl _ w6).alloc (Nat.le_refl _) o)) (fun _ _ _ e=>e)
         have hsz7:=hK7.size;go_wp2_with (at_builtin;refine wpList_append_own _ rfl _ _ 226 rfl wa.heap.size 228 i0 _ 2 32 Tryz.underlying226 hi0 hz0 hz1 hz2 rfl (by decide) _ _ _ rfl (hOA _) ⟨w6.heap.size,0,none⟩ 1 1 [.int .i64 (kd:Int),.slice (some ⟨ga,0,none⟩) lz gc] rfl rfl (cL (by simp)) (by intro u hu;simp at hu;rcases hu with rfl | rfl <;> rfl) (by unfold maxLen;omega) (by omega) (by simp;omega) ?_;intro v7 w7 hown' hgrow _)
         obtain⟨hO7,hb7⟩:=fZ.grown (w0:=wa) (t:=(kd,l)) hsz7 u1 u2 u3 (by have:=HN6.out;exact this) hown' hgrow
         have hO8:=(hO6.below hbw ((Below.refl _ w6).alloc (Nat.le_refl _) _)).other hgrow (by decide) (by decide) (jE u2 _)
         have hS7:=hS6.belowB hb7 hbw hgw;have hK8:=hK7.belowB hb7 (Nat.le_refl _);go_wp2_with fail
         go_roundg (ts.length - e2)
         case measure=>omega
         case rel=>exact⟨e2,fk,Ws,L++[(kd,l)],rfl,y2,by omega,by omega,by simp;omega,HL,hW2,hK8,hS7,hO8,hO7,HX⟩
      ·have x0:iP ts k=false:=by simpa using x0
       rw[x0,if_neg (by simp)] at HP
       rw[x0];clear x0;go_wp2_with fail
       refine (uL F hS1 hk).mono ?_;rintro e w2 ⟨rfl,hb2⟩;have hS2:=hS1.below hb2;have hO2:=hO1.below hbw hb2;have hO22:=hO21.below hbw hb2;have hK2:=hK1.andBelow hb2;have hE2:=hE.kept (hK.same hK2);have hsz2:=hK2.size;clear hS1 hO1 hO21 hK1 hb2 hE1
       cases x1:eV ts k with
       | false =>
        rw[if_pos (.inl x1)] at HP;have HX:=Ng (gI HP.out);clear HP x1;go_wp2_with fail
        go_meet
        case rel=>exact⟨k,Ws,L,HX.out,hL2.out,hW2.out,hO2,hO22,hK2,hS2⟩
       | true =>
        go_wp2_with fail
        refine (C8 F hS2 hk [101,108,115,101]).mono ?_;rintro e w3 ⟨rfl,hb3⟩;have hS3:=hS2.below hb3;have hO3:=hO2.below hbw hb3;have hO23:=hO22.below hbw hb3;have hK3:=hK2.andBelow hb3;have hE3:=hE.kept (hK.same hK3);have hsz3:=hK3.size;clear hS2 hO2 hO22 hK2 hb3 hE2
        cases x2:i6 ts k [101,108,115,101] with
        | true =>
         rw[if_pos (.inr x2)] at HP;have HX:=Ng (gI HP.out);clear HP x1 x2;go_wp2_with fail
         go_meet
         case rel=>exact⟨k,Ws,L,HX.out,hL2.out,hW2.out,hO3,hO23,hK3,hS3⟩
        | false =>
         rw[if_neg (fun h=>by rw[x1,x2] at h;simp at h)] at HP
         clear x1 x2
         cases hq:dJ ts fk d k 0 with
         | none =>
          rw[hq] at HP;exact (go_none HP.out).elim
         | some rc =>
          rw[hq] at HP;have HD:=Ng (IH.out fk (by omega) w3 k d 0 rc hd (by omega) hk hS3 hE3 (Ng hq))
          clear hS3 hE3;go_wp2_with fail
          refine HD.out.mono ?_
          cases rc with
          | error e0 =>
           obtain⟨c0,p0⟩:=e0;have HX0:=Ng (eP HP.out)
           have HX:=Ng (show r = .error (c0,p0) from by
            have:=HR2.out
            rw[HX0.out] at this;exact eP this)
           clear HP hq HD HX0;have hszk:=hK.size;rintro e w9 ⟨hKa,v,u,j',l0,rfl,h0,-,⟨eb,rfl,q2,q3⟩,hS9⟩;obtain⟨va,vc,rfl⟩:=h0.form;go_wp2_with fail
           go_ret2;exact bA.bad HX.out rfl (.none _ _) (Nat.zero_le _) ⟨eb,rfl,q2,by omega⟩ hS9 (hK.same (hK3.same hKa))
          | ok q =>
           obtain⟨l,e2⟩:=q;obtain⟨y1,y2,y3,y4⟩:=uB T (by omega) hk hq
           have HX:=Ng (show eB ts fk d e2 (Ws++[l]) L=some ri from HP.out)
           clear HP hq HD;rintro e w9 ⟨hKa,v,rfl,hN,hS9⟩;have hKb:=hK3.same hKa;have hOa:=hO23.kept hbw hKa;obtain⟨us,u1,u2,u3⟩:=hO3.kept hbw hKa;have hszb:=hKb.size;have HW:=Ng (fP hW2.out y4);have HN:=Ng hN;obtain⟨ga,gc,rfl,-⟩:=hN;generalize hlz:l.length=lz at *;have hOA:∀ o,(w9.alloc o).ownsRow wa.heap.size 26 1 _ Ws.length us:=fun o=>bM u2 (aB.ofBelow (S:=bW) ((Below.refl _ w9).alloc (Nat.le_refl _) o)) (fun _ _ _ e=>e)
           clear hK3 hKa hO3 hO23 hW2;go_wp2_with (at_builtin;refine wpList_append_own _ rfl _ _ 25 rfl wa.heap.size 26 k0 _ 1 24 Tryz.underlying25 hk0 hk1 hk2 hk3 rfl (by decide) _ _ _ rfl (hOA _) ⟨w9.heap.size,0,none⟩ 1 1 [.slice (some ⟨ga,0,none⟩) lz gc] rfl rfl (cL (by simp)) (by intro u hu;simp at hu;subst hu;rfl) (by unfold maxLen;omega) (by omega) (by simp;omega) ?_;intro v10 w10 hown' hgrow _)
           obtain⟨hOd,hbd⟩:=aO.grown (w0:=wa) (L:=Ws) hszb u1 u2 u3 HN.out hown' hgrow;have hOe:=(hOa.below hbw ((Below.refl _ w9).alloc (Nat.le_refl _) _)).other hgrow (by decide) (by decide) (jE u2 _)
           have hSe:=hS9.belowB hbd hbw hgw;have hKe:=hKb.belowB hbd (Nat.le_refl _);go_wp2_with fail
           go_roundg (ts.length - e2)
           case measure=>omega
           case rel=>exact⟨e2,fk,Ws++[l],L,rfl,y2,by omega,by simp;omega,by omega,hL2,HW,hKe,hSe,hOd,hOe,HX⟩
    case rest =>
     rename World=>wd
     obtain⟨k,Ws,L,rfl,hL,hW,hO,hO2,hK3,hS3⟩:=hcut;obtain⟨g1,g2,g3,g4⟩:=HFS.out (Ws,L) k rfl;dsimp only at g2 g3 g4;have HR3:=Ng (show (if S.length+Ws.length+L.length=0 then jJ ts k else pOk (fF L (dT S Ws)) k)=some r from HR2.out)
     have hK4:=hK.same hK3;have hE4:=hE.kept hK4;have hszd:=hK4.size;obtain⟨ao5,ac5,rfl⟩:=hO.form;obtain⟨ao7,ac7,rfl⟩:=hO2.form;clear HR2 HFS HQ hSc
     by_cases h0:S.length+Ws.length+L.length=0
     ·rw[if_pos h0] at HR3;have HX:=Ng (sJ HR3.out);have e1:S.length=0:=by omega
      have e2:Ws.length=0:=by omega
      have e3:L.length=0:=by omega
      rw[e1,e2,e3];clear HR3 h0 e1 e2 e3 hO hO2 HK2 HS2;go_wp2_with fail
      refine (uP F hS3 g1 sent hE4.env).mono ?_;rintro e w6 ⟨eb,rfl,hE7,hl7,hb7⟩;go_wp2_with fail
      go_ret2;exact bA.bad HX.out rfl (.none _ _) (Nat.zero_le _) ⟨eb,rfl,hE7,by omega⟩ (hS3.below hb7) (hK4.andBelow hb7)
     ·rw[if_neg h0] at HR3;have HX:=Ng (gI HR3.out);have hml:=(vC S Ws).1;have HM:=Ng (Kv S Ws b _ _ _ wd (by omega) (HS2.kept hK3 HNE.out) (HK2.kept hK3) (hO.ksl hbw) HSX.out (by omega) (by omega) (by omega) (by omega))
      have HA:=Ng (fun (w5:World) (u:Value) (hb:Below wd.heap.size wd w5) (hu:NSl w5 b u (dT S Ws))=>A8 L (dT S Ws) b _ u w5 (by have:=hb.size;omega) (hO2.tsl.below hb) hu (by omega) hL (by omega))
      clear HR3 hO hO2 HK2 HS2 HSX;have q1:IntKind.i64.wrap ((S.length:Int)+(Ws.length:Int))=(S.length:Int)+(Ws.length:Int):=by rw[IntKind.wrap_i64];omega
      have q2:IntKind.i64.wrap ((S.length:Int)+(Ws.length:Int)+(L.length:Int))=(S.length:Int)+(Ws.length:Int)+(L.length:Int):=by rw[IntKind.wrap_i64];omega
      have q3:(((S.length:Int)+(Ws.length:Int)+(L.length:Int))==0)=false:=by rw[beq_eq_false_iff_ne];omega
      clear f2 f3 hml g2 g3 g4 h0 HNE;generalize S.length=n1 at *;generalize Ws.length=n2 at *;generalize L.length=n3 at *;go_wp2_with fail
      refine HM.out.mono ?_;rintro e w5 ⟨v5,rfl,hN5,hb5⟩;have HA5:=Ng (HA.out w5 _ hb5 hN5);obtain⟨g5,c5,rfl,-⟩:=id hN5;go_wp2_with fail
      refine HA5.out.mono ?_;rintro e w6 ⟨v6,rfl,hN6,hb6⟩;have hb7:=aE hb5 hb6;obtain⟨g6,c6,rfl,-⟩:=id hN6;go_wp2_with fail
      go_ret2;exact bA.ok HX.out rfl hN6 (hS3.below hb7) (hK4.andBelow hb7)
theorem aO.setLast {w:World}{B b g n cap:Nat}{Q:List aA}{y y':aA}{u:Value}(h:aO w B b (.slice (some ⟨g,0,none⟩) n cap) (Q++[y]))(hu:NSl w b u y') :
  aO (w.setCell ⟨g,Q.length,none⟩ u) B b (.slice (some ⟨g,0,none⟩) n cap) (Q++[y']):=by
 obtain⟨us,h1,h2,h3⟩:=h
 have hsame:∀ x l,NSl w b x l→NSl (w.setCell ⟨g,Q.length,none⟩ u) b x l:=fun x l hx=>hx.of_block fun g' cur fz h4 _=>by
  refine Below.heap_setCell _ _ _ _ (fun e=>?_)
  obtain⟨c2,f2,h5⟩:=oM h2 g rfl;rw[show g'=g from e] at h4
  rw[h4] at h5;injection h5 with h5
  injection h5 with _ h6 _
  exact absurd h6 (by decide)
 have hul:us.length=Q.length+1:=by rw[h1];simp
 refine ⟨us.set Q.length u,by simp [h1],⟨by simp [h1],?_⟩,fun i x l hx hl=>?_⟩
 ·rcases h2.2 with ⟨hv,h0⟩ | ⟨g',cap',cur,hv,hg,hh,hc1,hc2,hsz,ht⟩
  ·simp at h0
  ·injection hv with e1 e2 e3
   injection e1 with e1
   injection e1 with e1
   subst e1 e2 e3;have hgl:=lt_of_block hh;refine .inr ⟨g,cap,cur.set! Q.length u,by simp,hg,?_,by simpa using hc1,hc2,by simpa using hsz,?_⟩
   ·show (w.heap.modify g _)[g]?=_
    have h':w.heap[g] = .cells cur 26 (0,0):=by simpa [Array.getElem?_eq_getElem hgl] using hh
    rw[Array.getElem?_eq_getElem (by simpa using hgl),Array.getElem_modify_self,h']
    simp
   ·rw[Array.set!_eq_setIfInBounds,Array.toList_setIfInBounds,List.take_set];have e:(Q++[y']).length * 1=(Q++[y]).length * 1:=by simp
    rw[e,ht]
 ·by_cases hi:i=Q.length
  ·subst hi;rw[List.getElem?_set_self (by omega)] at hx
   rw[List.getElem?_append_right (Nat.le_refl _),Nat.sub_self] at hl
   cases hx
   cases hl
   exact hsame _ _ hu
  ·rw[List.getElem?_set_ne (Ne.symm hi)] at hx;have hil:=(List.getElem?_eq_some_iff.1 hx).1;rw[List.getElem?_append_left (by omega)] at hl
   exact hsame _ _ (h3 i x l hx (by rw[List.getElem?_append_left (by omega)];exact hl))
theorem aO.last {w:World}{B b:Nat}{ao:Option Addr}{n cap:Nat}{Q:List aA}{y:aA}(h:aO w B b (.slice ao n cap) (Q++[y])) :
  ∃ g u,ao=some ⟨g,0,none⟩∧n=Q.length+1∧n≤cap∧B≤g∧w.cell? ⟨g,Q.length,none⟩=some u∧NSl w b u y∧w.frozen? ⟨g,Q.length,none⟩=false:=by
 obtain⟨us,h1,h2,h3⟩:=h;have hul:us.length=Q.length+1:=by rw[h1];simp
 obtain⟨g,cap',q1,q2,q3,q4,q5,q6⟩:=kE h2 (by simp)
 injection q1 with e1 e2 e3
 subst e1 e3;have hu:us[Q.length]?=some us[Q.length]:=List.getElem?_eq_getElem (by omega)
 obtain⟨cur,fz,ht⟩:=oM h2 g rfl;refine ⟨g,_,rfl,by simpa using e2,by rw[e2];exact q2,q4,q6 _ _ hu,h3 _ _ _ hu (by simp),?_⟩
 rcases h2.2 with ⟨hv,_⟩ | ⟨g',cap'',cur',hv,_,hh,_⟩
 ·cases hv
 ·injection hv with e1 _ _
  injection e1 with e1
  injection e1 with e1
  subst e1;simp [World.frozen?,hh]
theorem Bm (O:List aA)(x:aA)(h:fX x=false):a8 O x=O++[x]:=by
 unfold a8;split
 ·rename_i y z hy
  rw[if_neg (fun hh=>by simp [fX,hh.2] at h)]
 ·rfl
theorem AB (Q:List aA)(y x:aA)(h:fX y=false):a8 (Q++[y]) x=(Q++[y])++[x]:=by
 unfold a8;split
 ·rename_i u z hy
  rw[List.getLast?_concat] at hy
  cases hy
  rw[if_neg (fun hh=>by simp [fX,hh.1] at h)]
 ·rfl
theorem AC (Q:List aA)(u z:bE)(hu:u.kind=1)(hz:z.kind=1):a8 (Q++[[u]]) [z]=Q++[aC 1 z.n (u.text++z.text) []]:=by
 unfold a8;rw[List.getLast?_concat];simp [hu,hz]
theorem sH {x:aA}(h:fX x=true):∃ z,x=[z]∧z.kind=1:=by
 match x,h with
 | [z],h=>exact⟨z,rfl,by simpa [fX] using h⟩
theorem CM (L:List aA)(k:Nat)(x:aA)(h:L[k]?=some x):(L.take (k+1)).foldl a8 []=a8 ((L.take k).foldl a8 []) x:=by
 obtain⟨hk,e⟩:=List.getElem?_eq_some_iff.1 h;rw[List.take_succ_eq_append_getElem hk,e,List.foldl_append];rfl
theorem vI (L:List aA)(k:Nat):txP (L.take k).flatten≤txP L.flatten:=by
 have h:L.flatten=(L.take k).flatten++(L.drop k).flatten:=by rw[← List.flatten_append,List.take_append_drop]
 rw[h,dF];omega
theorem Kk {L:List aA}{y:aA}(h:L.foldl a8 []=[y]):i8 L=y:=by
 unfold i8;rw[h]
theorem Jn {L O:List aA}(h:L.foldl a8 []=O)(h1:O.length≠1):i8 L=aC 4 0 [] O:=by
 unfold i8;rw[h]
 match O,h1 with
 | [],_=>rfl
 | [x],h1=>exact absurd rfl h1
 | x :: y :: l,_=>rfl
theorem Cr (L:List aA)(b:Nat)(v:Value)(w:World)(hbl:b<w.heap.size)(hpos:0<L.length)(hn:L.length≤10000)(hsz:L.flatten.length≤100000)(htx:txP L.flatten≤300000000)(h:KSl w b v L)(hne:Hid (∀ l∈L,0<l.length)) :
  Calls Tryz.prog 266 #[v] w fun e w'=>∃ v',e = .returned v'∧NSl w' b v' (i8 L)∧Below w.heap.size w w':=by
 obtain⟨k0,hk0,hk1,hk2,hk3⟩:=info_parts jB;obtain⟨ao,cap,rfl,hc1,hc2,hc3⟩:=h;obtain⟨g,rfl,hg1,hg2,hg3⟩:=hc3 hpos;obtain⟨n,hN⟩:∃ n,L.length=n:=⟨_,rfl⟩;have HN:=Ng hN;rw[hN] at hc1 hn hpos ⊢;clear hN hc3;go_enter Tryz.func266,Tryz.ntmps266
 go_wp2_with fail
 go_loopg [3,5,6,9] n (fun m o xx la c wr=>∃ k:Nat,m=n - k∧k≤n∧c = .int .i64 k∧aO wr w.heap.size b o ((L.take k).foldl a8 [])∧Below w.heap.size w wr)
 case atStart=>exact⟨0,rfl,Nat.zero_le _,rfl,aO.nil _ _ _,Below.refl _ _⟩
 case round =>
  obtain⟨k,rfl,hk,rfl,hO,hb⟩:=hrel;obtain⟨O,hOO⟩:∃ O,(L.take k).foldl a8 []=O:=⟨_,rfl⟩;have hfold:=pK (L.take k) [];have htk:=vI L k;rw[hOO] at hO hfold;simp only[List.flatten_nil,List.length_nil,e7,Nat.zero_add,List.length_take] at hfold;have hOl:O.length≤k:=by omega
  by_cases hlt:k<n
  ·obtain⟨x,hx⟩:∃ x,L[k]?=some x:=⟨_,List.getElem?_eq_getElem (by have:=HN.out;omega)⟩
   have HS:=Ng (show (L.take (k+1)).foldl a8 []=a8 O x by rw[CM L k x hx,hOO])
   obtain⟨u,hu,hul⟩:=hg3 k x hx;have hxp:=hne.out x (List.mem_of_getElem? hx);have hu:=aF hb hu
   have hx0:NSl wr b u x:=by
    rcases hul.below hb with h | ⟨_,rfl⟩
    ·exact h
    ·simp at hxp
   obtain⟨oa,oc,rfl⟩:=hO.form;have hx:=hx0;obtain⟨gx,cx,rfl,-⟩:=hx0;clear hul hOO;have hw1:IntKind.i64.wrap ((O.length:Int) - 1)=(O.length:Int) - 1:=by rw[IntKind.wrap_i64];omega
   cases hlx:fX x with
   | false =>
    have HJ:=Ng (Bm O x hlx);go_wp2_with fail
    refine (uZ x b _ wr hx).mono ?_;rintro e w2 ⟨rfl,hw2⟩;have hw2:=hw2.symm;subst hw2;rw[hlx];clear hlx;obtain⟨us,u1,u2,u3⟩:=hO;have hOA:∀ o,(wr.alloc o).ownsRow w.heap.size 26 1 _ O.length us:=fun o=>by first | exact bM u2 (aB.ofBelow (S:=bW) ((Below.refl _ wr).alloc (Nat.le_refl _) o)) (fun _ _ _ e=>e) | (rw[← HM.out];exact bM u2 (aB.ofBelow (S:=bW) ((Below.refl _ wr).alloc (Nat.le_refl _) o)) (fun _ _ _ e=>e))
    have HN:=Ng hx;have hsz5:=hb.size;go_wp2_with (at_builtin;refine wpList_append_own _ rfl _ _ 25 rfl w.heap.size 26 k0 _ 1 24 Tryz.underlying25 hk0 hk1 hk2 hk3 rfl (by decide) _ _ _ rfl (hOA _) ⟨wr.heap.size,0,none⟩ 1 1 [.slice (some ⟨gx,0,none⟩) x.length cx] rfl rfl (cL (by simp)) (by intro u hu;simp at hu;subst hu;rfl) (by unfold maxLen;omega) (by omega) (by simp;omega) ?_;intro v6 w6 hown' hgrow _)
    obtain⟨hO6,hb6⟩:=aO.grown hsz5 u1 u2 u3 HN.out (by first | exact hown' | (rw[HM.out];exact hown')) hgrow
    have hb7:=hb.trans hb6;have hO7:aO w6 w.heap.size b v6 ((L.take (k+1)).foldl a8 []):=by rw[HS.out,HJ.out];exact hO6
    go_wp2_with fail
    go_roundg (n - (k+1))
    case measure=>omega
    case rel=>exact⟨k+1,rfl,by omega,by go_num,hO7,hb7⟩
   | true =>
    obtain⟨z,rfl,hz⟩:=sH hlx
    rcases List.eq_nil_or_concat O with rfl | ⟨Q,y,rfl⟩
    ·have HJ:=Ng (show a8 [] [z]=[]++[[z]] from rfl)
     simp only[List.length_nil] at hO hw1 ⊢;have hw0:decide ((0:Int)≤((0:Nat):Int) - 1)=false:=by decide
     go_wp2_with fail
     refine (uZ [z] b _ wr hx).mono ?_;rintro e w2 ⟨rfl,hw2⟩;have hw2:=hw2.symm;subst hw2;rw[hlx];clear hlx;obtain⟨us,u1,u2,u3⟩:=hO;have hOA:∀ o,(wr.alloc o).ownsRow w.heap.size 26 1 _ 0 us:=fun o=>by first | exact bM u2 (aB.ofBelow (S:=bW) ((Below.refl _ wr).alloc (Nat.le_refl _) o)) (fun _ _ _ e=>e) | (rw[← HM.out];exact bM u2 (aB.ofBelow (S:=bW) ((Below.refl _ wr).alloc (Nat.le_refl _) o)) (fun _ _ _ e=>e))
     have HN:=Ng hx;have hsz5:=hb.size;go_wp2_with (at_builtin;refine wpList_append_own _ rfl _ _ 25 rfl w.heap.size 26 k0 _ 1 24 Tryz.underlying25 hk0 hk1 hk2 hk3 rfl (by decide) _ _ _ rfl (hOA _) ⟨wr.heap.size,0,none⟩ 1 1 [.slice (some ⟨gx,0,none⟩) 1 cx] rfl rfl (cL (by simp)) (by intro u hu;simp at hu;subst hu;rfl) (by unfold maxLen;omega) (by omega) (by simp;omega) ?_;intro v6 w6 hown' hgrow _)
     obtain⟨hO6,hb6⟩:=aO.grown hsz5 u1 u2 u3 HN.out (by first | exact hown' | (rw[HM.out];exact hown')) hgrow
     have hb7:=hb.trans hb6;have hO7:aO w6 w.heap.size b v6 ((L.take (k+1)).foldl a8 []):=by rw[HS.out,HJ.out];exact hO6
     go_wp2_with fail
     go_roundg (n - (k+1))
     case measure=>omega
     case rel=>exact⟨k+1,rfl,by omega,by go_num,hO7,hb7⟩
    ·rw[List.concat_eq_append] at *;obtain⟨og,uy,rfl,hol,hoc,hog,huy,hy,hfr⟩:=hO.last;obtain⟨n2,hn2⟩:∃ n2,Q.length=n2:=⟨_,rfl⟩;obtain⟨m1,hm1⟩:∃ m1,(Q++[y]).length=m1:=⟨_,rfl⟩;have HM:=Ng hm1;have HN2:=Ng hn2;rw[hm1] at hO hw1 hol hoc hOl ⊢;rw[hn2] at hol huy hfr;have hw2:IntKind.i64.wrap ((m1:Int) - 1)=(n2:Int):=by rw[hw1];omega
     have hlt2:(n2:Int)<(m1:Int):=by omega
     have hge2:(0:Int)≤(n2:Int):=by omega
     clear hm1 hn2 hw1;subst hol;obtain⟨gy,cy,rfl,-⟩:=id hy;go_wp2_with fail
     refine (uZ [z] b _ wr hx).mono ?_;rintro e w2 ⟨rfl,hw3⟩;have hw3:=hw3.symm;subst hw3;rw[hlx];clear hlx;go_wp2_with fail
     refine (uZ y b _ wr hy).mono ?_;rintro e w2 ⟨rfl,hw3⟩;have hw3:=hw3.symm;subst hw3
     cases hly:fX y with
     | false =>
      have HJ:=Ng (AB Q y [z] hly);clear hly;obtain⟨us,u1,u2,u3⟩:=hO;have hOA:∀ o,(wr.alloc o).ownsRow w.heap.size 26 1 _ (n2+1) us:=fun o=>by first | exact bM u2 (aB.ofBelow (S:=bW) ((Below.refl _ wr).alloc (Nat.le_refl _) o)) (fun _ _ _ e=>e) | (rw[← HM.out];exact bM u2 (aB.ofBelow (S:=bW) ((Below.refl _ wr).alloc (Nat.le_refl _) o)) (fun _ _ _ e=>e))
      have HN:=Ng hx;have hsz5:=hb.size;go_wp2_with (at_builtin;refine wpList_append_own _ rfl _ _ 25 rfl w.heap.size 26 k0 _ 1 24 Tryz.underlying25 hk0 hk1 hk2 hk3 rfl (by decide) _ _ _ rfl (hOA _) ⟨wr.heap.size,0,none⟩ 1 1 [.slice (some ⟨gx,0,none⟩) 1 cx] rfl rfl (cL (by simp)) (by intro u hu;simp at hu;subst hu;rfl) (by unfold maxLen;omega) (by omega) (by simp;omega) ?_;intro v6 w6 hown' hgrow _)
      obtain⟨hO6,hb6⟩:=aO.grown hsz5 u1 u2 u3 HN.out (by first | exact hown' | (rw[HM.out];exact hown')) hgrow
      have hb7:=hb.trans hb6;have hO7:aO w6 w.heap.size b v6 ((L.take (k+1)).foldl a8 []):=by rw[HS.out,HJ.out];exact hO6
      go_wp2_with fail
      go_roundg (n - (k+1))
      case measure=>omega
      case rel=>exact⟨k+1,rfl,by omega,by go_num,hO7,hb7⟩
     | true =>
      obtain⟨yn,rfl,hyn⟩:=sH hly;have HJ:=Ng (AC Q yn z hyn hz);clear hly;obtain⟨gx',cx',ex,-,-,-,hgx,hxr⟩:=id hx
      cases ex
      obtain⟨gy',cy',ey,-,-,-,hgy,hyr⟩:=id hy
      cases ey
      have x1:=hxr 1 (.int .i64 z.n) rfl;have x4:=hxr 4 (.string (bs z.text)) rfl;have y4:=hyr 4 (.string (bs yn.text)) rfl
      have htt:yn.text.length+z.text.length≤600000000:=by
       have h1:=(pK (L.take (k+1)) []).2.1;have h2:=vI L (k+1);rw[HS.out,HJ.out,List.flatten_append,dF,List.flatten_nil,e7,List.flatten_cons,List.flatten_nil,List.append_nil,eH,List.length_append] at h1;omega
      have hcat:bs yn.text++bs z.text=bs (yn.text++z.text):=rH _ _;have hz1:(bs yn.text).size≤600000000:=by rw[aY];omega
      have hz2:(bs z.text).size≤600000000:=by rw[aY];omega
      have hz3:¬ ((bs yn.text).size+(bs z.text).size > 9223372036854775807):=by omega
      have HN:=Ng (show ∀ w9:World,b<w9.heap.size→Calls Tryz.prog 7 #[.int .i64 1,.int .i64 z.n,.string (bs yn.text++bs z.text),.slice none 0 0] w9 fun e w'=>∃ v',e = .returned v'∧NSl w' b v' (aC 1 z.n (yn.text++z.text) [])∧Below w9.heap.size w9 w' from fun w9 h9=>by
       rw[hcat];exact bT 1 z.n (yn.text++z.text) [] b _ w9 h9 (KSl.nil _ _) (by simp) (by simp))
      clear hcat hxr hyr hgx hgy;have hbr:b<wr.heap.size:=Nat.lt_of_lt_of_le hbl hb.size
      have hogl:og<wr.heap.size:=by
       by_cases h:og<wr.heap.size
       ·exact h
       ·rw[show wr.cell? ⟨og,n2,none⟩=none from by simp [World.cell?,h]] at huy
        cases huy
      have i1:(n2:Int)<(n2:Int)+1:=by omega
      have i2:decide ((n2:Int)<(n2:Int)+1)=true:=by rw[decide_eq_true_eq];omega
      have i3:n2<n2+1:=by omega
      have i4:decide (n2<n2+1)=true:=by rw[decide_eq_true_eq];omega
      go_upto_region 7 with fail
      go_region_with (go_at_call 7;(with_reducible refine (HN.out _ (by first | exact hbr | (simp;exact hbr))).mono ?_);rintro e w9 ⟨v9,rfl,hN9,hb9⟩;obtain⟨g9,c9,rfl,-⟩:=id hN9;have x1':=aF hb9 x1;have x4':=aF hb9 x4;have y4':=aF hb9 y4;have huy':=aF hb9 huy;have hfr':=(World.frozen?_of_block (hb9.block og hogl)).trans hfr;have hbq:Below wr.heap.size wr w9:=(by first | exact hb9 | exact ((Below.refl _ wr).drew).trans hb9))
      all_goals (have hO8:=aO.setLast (hO.below hbl hbq) hN9)
      all_goals (rw[HN2.out] at hO8)
      all_goals (have hb8:=(hb.trans (hbq.mono hb.size)).setCell (p:=⟨og,n2,none⟩) hog (.slice (some ⟨g9,0,none⟩) (aC 1 z.n (yn.text++z.text) []).length c9))
      all_goals (have hO7:aO (w9.setCell ⟨og,n2,none⟩ (.slice (some ⟨g9,0,none⟩) (aC 1 z.n (yn.text++z.text) []).length c9)) w.heap.size b (.slice (some ⟨og,0,none⟩) (n2+1) oc) ((L.take (k+1)).foldl a8 []):=by rw[HS.out,HJ.out];exact hO8)
      all_goals (clear hO hO8 hN9 hb9 hbq HN x1 x4 y4 x1' x4' y4' huy huy' hfr hfr' hx hy)
      all_goals (go_wp2_with fail)
      all_goals (go_roundg (n - (k+1)))
      all_goals (first | omega | exact⟨k+1,rfl,by omega,by go_num,hO7,hb8⟩)
  ·obtain rfl:k=n:=by omega
   have hT:L.take k=L:=List.take_of_length_le (by have:=HN.out;omega)
   rw[hT] at hOO hfold
   by_cases h1:O.length=1
   ·obtain⟨y,rfl⟩:∃ y,O=[y]:=List.length_eq_one_iff.1 h1;have HJ:=Ng (Kk hOO);obtain⟨oa,oc,rfl⟩:=hO.form;have hO':aO wr w.heap.size b (.slice oa 1 oc) ([]++[y]):=hO;obtain⟨og,uy,rfl,-,hoc,hog,huy,hy,-⟩:=hO'.last;simp only[List.length_cons,List.length_nil,Nat.zero_add] at huy hoc ⊢;obtain⟨gy,cy,rfl,-⟩:=id hy;clear hO hO';go_wp2_with fail
    go_ret;exact⟨_,rfl,by rw[HJ.out];exact hy,hb⟩
   ·have HJ:=Ng (Jn hOO h1);have k1:((O.length:Int)==1)=false:=by rw[beq_eq_false_iff_ne];omega
    have HC:=Ng (bT 4 0 [] O b _ wr (Nat.lt_of_lt_of_le hbl hb.size) (hO.ksl hbl) (by omega) (by omega))
    obtain⟨oa,oc,rfl⟩:=hO.form;generalize O.length=ol at *;go_wp2_with fail
    refine HC.out.mono ?_;rintro e w3 ⟨v3,rfl,hN3,hb3⟩;obtain⟨g3,c3,rfl,-⟩:=id hN3;go_wp2_with fail
    go_ret;exact⟨_,rfl,by rw[HJ.out];exact hN3,aE hb hb3⟩
theorem JJ {ts:List aH}{cap:Nat}(T:PTs cap ts){f d i:Nat}{l:aA}{e:Nat}(hi:i<ts.length)(hit:eV ts i=true)(h:gG ts f d i=some (.ok (l,e))):i<e∧e<ts.length∧l.length+3≤6 * (e - i)∧txP l+16384≤30000 * (e - i)∧0<l.length:=by
 have h1:=((lB T.fix.good f).one d i hi hit).1 l e h;obtain⟨⟨M,D,hD⟩,_⟩:=(qF T.w f).one d i hit l e h;have:=hD.pos.1
 omega
theorem mS.facts {w:World}{g:Nat}{l:aA}(h:mS w g l){k:Nat}{x:bE}(hx:l[k]?=some x) :
  w.cell? ⟨g,k * 5,none⟩=some (.int .i64 x.kind)∧w.cell? ⟨g,k * 5+1,none⟩=some (.int .i64 x.n)∧w.cell? ⟨g,k * 5+2,none⟩=some (.int .i64 x.k)∧w.cell? ⟨g,k * 5+3,none⟩=some (.int .i64 x.size)∧w.cell? ⟨g,k * 5+4,none⟩=some (.string (bs x.text)):=by
 have hf:∀ j u,x.cells[j]?=some u→w.cell? ⟨g,k * 5+j,none⟩=some u:=fun j u hu=>by
  have:=h _ _ (mZ bE.cells 5 qM l k j x u hx hu)
  rwa [Nat.mul_comm] at this
 exact⟨hf 0 _ rfl,hf 1 _ rfl,hf 2 _ rfl,hf 3 _ rfl,hf 4 _ rfl⟩
theorem r5 {l:aA}{k:Nat}{x:bE}(hx:l[k]?=some x)(h:cW (l.take k)=false):cW (l.take (k+1))=(decide (x.kind=1)&&decide (2000<x.text.length)):=by
 obtain⟨hk,e⟩:=List.getElem?_eq_some_iff.1 hx;unfold cW at *;rw[List.take_succ_eq_append_getElem hk,e,List.any_append,h];simp
theorem rZ {l:aA}{k:Nat}(h:cW (l.take k)=true):cW l=true:=by
 unfold cW at *;rw[List.any_eq_true] at *;obtain⟨x,hx,h2⟩:=h;exact⟨x,List.mem_of_mem_take hx,h2⟩
theorem tU {t:aH}{M:List aA}(h:¬ (M.length=1∧t.kind=18∧oB t.text=true)):lO t 0 M=i8 M:=by
 unfold lO;rw[if_neg (fun x=>h x.2)]
theorem GX {b g cap:Nat}{ts:List aH}{sent:Nat→Addr}(T:PTs cap ts)(f:Nat)(ih:∀ f'<f,wD b g cap ts sent f')(w:World)(i d:Nat)(r:Except (Nat×Nat) (aA×Nat))(hd:d≤31)(hi:i<ts.length)(hS:PSt w b g cap ts i d)(hE:iG w b sent)(hr:Hid (dJ ts f d i 0=some r)) :
  Calls Tryz.prog 233 #[.pointer (some ⟨b,0,none⟩),.int .i64 0] w (bA w b g cap ts d (60000 * (32 - d)) sent r):=by
 have hbl:=hS.blt;have hgl:=hS.glt;have F:=T.fix;have hcap:=F.num;obtain⟨k0,hk0,hk1,hk2,hk3⟩:=info_parts jB;have hf4:=MH
 obtain⟨f,rfl⟩:∃ q,f=q+1:=by
  cases f with
  | zero=>have:=hr.out;rw[dJ] at this;cases this
  | succ q=>exact⟨q,rfl⟩
 have IH:=Ng ih;clear ih;have HR:=Ng hr.out;rw[dJ] at HR;clear hr;obtain⟨tk,htk⟩:∃ tk,aK ts i=tk:=⟨_,rfl⟩;have htx:=F.good.text i;have p2:=(T.cls i).1;rw[htk] at HR htx p2
 cases hq:fU ts f d i 0 [] with
 | none =>
  rw[hq] at HR;exact (go_none HR.out).elim
 | some rr =>
  rw[hq] at HR;have HQ:=Ng hq;clear hq;go_enter Tryz.func233,Tryz.ntmps233
  go_wp2_with fail
  refine (oU F hS hi).mono ?_;rintro e w1 ⟨rfl,hb1⟩;rw[htk];unfold aH.cells;have hB2:=Blk.new w1 [Value.int .i64 tk.kind,.int .i64 tk.place,.int .i64 tk.num,.string (bs tk.text),.bool tk.glue] 87;have hb2:=aE hb1 ((Below.refl _ w1).alloc (Nat.le_refl _) (.cells #[Value.int .i64 tk.kind,.int .i64 tk.place,.int .i64 tk.num,.string (bs tk.text),.bool tk.glue] 87));have hS2:=hS.below hb2;have hK2:=(aB.refl (At b) w).andBelow hb2;have hE2:=hE.kept hK2;have hsz1:=hb1.size;clear hS hb1 hb2 htk hE;go_upto_region 2 with fail
  refine eJ (fun w9=>Blk w9 w1.heap.size [Value.int .i64 tk.kind,.int .i64 tk.place,.int .i64 tk.num,.string (bs tk.text),.bool tk.glue]∧PSt w9 b g cap ts i d∧aB (At b) w w9∧iG w9 b sent) ⟨hB2,hS2,hK2,hE2⟩ ?_
  clear hB2 hS2 hK2 hE2;intro wz ⟨hB2,hS2,hK0,hE⟩;have htb:=hB2.lt;obtain⟨tb,htbb⟩:∃ tb,w1.heap.size=tb:=⟨_,rfl⟩;rw[htbb] at htb hsz1 hB2 ⊢;have hsz0:=hK0.size;have hbz:b<wz.heap.size:=by omega
  have hgz:=hS2.glt;clear htbb hgl;go_wp2_with fail
  go_loopg [7,8,9,10] (ts.length - i) (fun m v t x er wr=>∃ (k fk:Nat) (L:List aA),m=ts.length - k∧k<ts.length∧fk≤f∧L.length≤k∧L.flatten.length≤6 * k∧txP L.flatten≤30000 * k∧Hid (∀ l∈L,0<l.length)∧aB (At b) wz wr∧PSt wr b g cap ts k d∧aO wr wz.heap.size b v L∧Blk wr tb [Value.int .i64 tk.kind,.int .i64 tk.place,.int .i64 tk.num,.string (bs tk.text),.bool tk.glue]∧Hid (fU ts fk d k 0 L=some rr))
  case atStart=>exact⟨i,f,[],rfl,hi,Nat.le_refl _,by simp,by simp,by simp [e7],Ng (fun _ h=>nomatch h),aB.refl _ _,hS2,aO.nil _ _ _,hB2,HQ⟩
  case round =>
   clear hS2 HQ hi hB2;obtain⟨k,fk,L,rfl,hk,hfk,hL1,hL2,hL3,hL4,hK,hS,hO,hB,hr⟩:=hrel
   obtain⟨fk,rfl⟩:∃ q,fk=q+1:=by
    cases fk with
    | zero=>have:=hr.out;rw[fU] at this;cases this
    | succ q=>exact⟨q,rfl⟩
   obtain⟨ao,acap,rfl⟩:=hO.form;have HP:=Ng hr.out;rw[fU] at HP;clear hr;go_wp2_with fail
   refine (uL F hS hk).mono ?_;rintro e w2 ⟨rfl,hb2⟩;have hS2:=hS.below hb2;have hO2:=hO.below hbz hb2;have hB2:=hB.below hb2;have hK2:=hK.andBelow hb2;have hE2:=hE.kept hK2;have hsz2:=hK2.size;clear hS hO hK hb2 hB
   by_cases x0:eV ts k=true
   ·rw[if_neg (by rw[x0];simp)] at HP
    rw[x0];go_wp2_with fail
    refine (oU F hS2 hk).mono ?_;rintro e w3 ⟨rfl,hb3⟩;unfold aH.cells;have hT4:=Blk.new w3 [Value.int .i64 (aK ts k).kind,.int .i64 (aK ts k).place,.int .i64 (aK ts k).num,.string (bs (aK ts k).text),.bool (aK ts k).glue] 87;have hb4:=aE hb3 ((Below.refl _ w3).alloc (Nat.le_refl _) (.cells #[Value.int .i64 (aK ts k).kind,.int .i64 (aK ts k).place,.int .i64 (aK ts k).num,.string (bs (aK ts k).text),.bool (aK ts k).glue] 87));have hS4:=hS2.below hb4;have hO4:=hO2.below hbz hb4;have hB4:=hB2.below hb4;have hK4:=hK2.andBelow hb4;have hE4:=hE.kept hK4;have hsz4:=hK4.size;have hbt:b<w3.heap.size:=Nat.lt_of_lt_of_le (by omega) hb3.size
    clear hS2 hO2 hB2 hK2 hE2 hb3 hb4
    cases hq:gG ts fk d k with
    | none =>
     rw[hq] at HP;exact (go_none HP.out).elim
    | some rc =>
     rw[hq] at HP;have HD:=Ng (IH.out fk (by omega) _ k d rc hd hk x0 hS4 hE4 (Ng hq))
     clear hS4 hE4;go_wp2_with fail
     refine HD.out.mono ?_
     cases rc with
     | error e0 =>
      obtain⟨c0,p0⟩:=e0;have HX:=Ng (eP HP.out)
      have HX2:=Ng (show r = .error (c0,p0) from by
       have:=HR.out
       rw[HX.out] at this;exact eP this)
      clear HP hq HD HR HX;rintro e w5 ⟨hK5,v,u,j',l0,rfl,h0,-,⟨eb,rfl,q2,q3⟩,hS5⟩;obtain⟨va,vc,rfl⟩:=h0.form;go_wp2_with fail
      go_ret2;exact (bA.bad HX2.out rfl (.none _ _) (Nat.zero_le _) ⟨eb,rfl,q2,by omega⟩ hS5 (hK4.same hK5)).after hK0
     | ok q =>
      obtain⟨x,e2⟩:=q;obtain⟨z1,z2,z3,z4,z5⟩:=JJ T hk x0 hq;rintro e w5 ⟨hK5,v5,rfl,hN,hS5⟩;have hK6:=hK4.same hK5;have hB5:=hB4.kept hK5 (fun e=>by unfold At at e;omega)
      have hT5:=hT4.kept hK5 (fun e=>by unfold At at e;omega)
      have hO5:=hO4.kept hbz hK5;have hsz5:=hK6.size;clear hO4 hK4 hK5 hB4 hT4 HD x0;have HP2:=Ng (show (if isK ts e2 [15]=true then fU ts fk d (skP ts e2) 0 (L++[x]) else if eV ts e2=false∨(aK ts e2).glue=false then pOk (L++[x]) e2 else fU ts fk d e2 0 (L++[x]))=some rr from HP.out)
      have hM1:(L++[x]).length≤e2:=by rw[List.length_append,List.length_cons,List.length_nil];omega
      have hM2:(L++[x]).flatten.length≤6 * e2:=by rw[fD,List.length_append];omega
      have hM3:txP (L++[x]).flatten≤30000 * e2:=by rw[fD,dF];omega
      have hM4:=Ng (fP hL4.out z5);have hNx:=hN;have hKx:=hK6;have hsx:=hsz5;obtain⟨gc,cc,rfl,-⟩:=id hNx;clear HP hq hN hK6 hsz5 hT5;have hBx:=hB5;clear hB5;obtain⟨us,u1,u2,u3⟩:=hO5;have hOA:∀ o,(w5.alloc o).ownsRow wz.heap.size 26 1 _ L.length us:=fun o=>bM u2 (aB.ofBelow (S:=bW) ((Below.refl _ w5).alloc (Nat.le_refl _) o)) (fun _ _ _ e=>e)
      go_wp2_with (at_builtin;refine wpList_append_own _ rfl _ _ 25 rfl wz.heap.size 26 k0 _ 1 24 Tryz.underlying25 hk0 hk1 hk2 hk3 rfl (by decide) _ _ _ rfl (hOA _) ⟨w5.heap.size,0,none⟩ 1 1 [.slice (some ⟨gc,0,none⟩) x.length cc] rfl rfl (cL (by simp)) (by intro u hu;simp at hu;subst hu;rfl) (by unfold maxLen;omega) (by omega) (by simp;omega) ?_;intro v6 w6 hown' hgrow _)
      obtain⟨hO6,hb6⟩:=aO.grown hsx u1 u2 u3 hNx hown' hgrow;have hS6:=hS5.belowB hb6 hbz hgz;have hK6:=hKx.belowB hb6 (Nat.le_refl _);have hB6:=hBx.of_heap (hb6.block tb htb);have hsz6:=hK6.size;obtain⟨M,hM⟩:∃ M,L++[x]=M:=⟨_,rfl⟩;rw[hM] at HP2 hM1 hM2 hM3 hM4 hO6;have hM0:0<M.length:=by rw[← hM];simp
      clear hM hS5 hKx hBx hb6 hown' hgrow hOA u1 u2 u3 hNx;obtain⟨mo,mcap,rfl⟩:=hO6.form;go_wp2_with fail
      refine (iY F (hS6.alloc _) z2 [15] _ _ (by decide) (show Blk _ _ [Value.int .i64 15] from Blk.new w6 _ _)).mono ?_
      rintro e w7 ⟨rfl,hb7⟩;have hb8:=aE ((Below.refl _ w6).alloc (Nat.le_refl _) _) hb7;have hS7:=hS6.below hb8;have hO7:=hO6.below hbz hb8;have hB7:=hB6.below hb8;have hK7:=hK6.andBelow hb8;have hsz7:=hK7.size;clear hS6 hO6 hB6 hK6 hb7 hb8
      by_cases x1:isK ts e2 [15]=true
      ·rw[if_pos x1] at HP2;rw[x1];have hj:=(nF (ts:=ts) z2);obtain⟨j,hjj⟩:∃ j,skP ts e2=j:=⟨_,rfl⟩;rw[hjj] at HP2 hj;clear x1;go_wp2_with fail
       refine (mC F hS7 z2).mono ?_;rintro e w8 ⟨rfl,hS8,hK8⟩;rw[hjj] at hS8;have hO8:=hO7.kept hbz hK8;have hB8:=hB7.kept hK8 (fun e=>by unfold At at e;omega)
       have hK9:=hK7.same hK8;go_wp2_with fail
       go_roundg (ts.length - j)
       case measure=>omega
       case rel=>exact⟨j,fk,M,rfl,hj.2,by omega,by omega,by omega,by omega,hM4,hK9,hS8,hO8,hB8,HP2⟩
      ·have x1:isK ts e2 [15]=false:=by simpa using x1
       rw[x1,if_neg (by simp)] at HP2
       rw[x1];go_wp2_with fail
       refine (uL F hS7 z2).mono ?_;rintro e w8 ⟨rfl,hb8⟩;have hS8:=hS7.below hb8;have hO8:=hO7.below hbz hb8;have hB8:=hB7.below hb8;have hK8:=hK7.andBelow hb8;have hsz8:=hK8.size;clear hS7 hO7 hB7 hK7 hb8 x1
       by_cases x2:eV ts e2=true
       ·rw[x2] at HP2 ⊢;go_wp2_with fail
        refine (oU F hS8 z2).mono ?_;rintro e w9 ⟨rfl,hb9⟩;unfold aH.cells;have hS9:=hS8.below hb9;have hO9:=hO8.below hbz hb9;have hB9:=hB8.below hb9;have hK9:=hK8.andBelow hb9;have hsz9:=hK9.size;clear hS8 hO8 hB8 hK8 hb9 x2
        by_cases x3:(aK ts e2).glue=true
        ·rw[x3] at HP2 ⊢;rw[if_neg (by simp)] at HP2
         go_wp2_with fail
         go_roundg (ts.length - e2)
         case measure=>omega
         case rel=>exact⟨e2,fk,M,rfl,z2,by omega,by omega,by omega,by omega,hM4,hK9,hS9,hO9,hB9,HP2⟩
        ·have x3:(aK ts e2).glue=false:=by simpa using x3
         rw[x3] at HP2 ⊢;rw[if_pos (.inr rfl)] at HP2;have HRR:=Ng (gI HP2.out)
         have HX:=Ng (show (if cW (lO tk 0 M)=true then kC 101 tk.place else pOk (lO tk 0 M) e2)=some r from by
          have:=HR.out
          rw[HRR.out] at this;exact this)
         have hlj:=x5 M;clear HP2 HR HRR;go_wp2_with fail
         refine (Cr M b _ w9 (by omega) hM0 (by omega) (by omega) (by omega) (hO9.ksl hbz) hM4).mono ?_
         rintro e wj ⟨vj,rfl,hNj,hbj⟩;have hSj:=hS9.below hbj;have hBj:=hB9.below hbj;have hKj:=hK9.andBelow hbj;have hEj:=hE.kept hKj;have hszj:=hKj.size;clear hS9 hO9 hB9 hK9 hbj
         by_cases p1:M.length=1
         ·rw[p1];have p1':((1:Nat):Int)=1:=rfl;have hc0:=hBj.cell 0 rfl;have k1:((tk.kind:Int)==18)=false:=by rw[beq_eq_false_iff_ne];omega
          rw[tU (fun h=>p2 h.2.1)] at HX
          obtain⟨O,hOj⟩:∃ O,i8 M=O:=⟨_,rfl⟩;rw[hOj] at HX hNj hlj;clear hOj p1;obtain⟨og,oc,eo,o1,o2,o3,o4,o5⟩:=id hNj
          cases eo
          obtain⟨n,hn⟩:∃ n,O.length=n:=⟨_,rfl⟩;have HNl:=Ng hn;have hNo:=Ng hNj;have hRo:=Ng o5;rw[hn] at o1 hlj ⊢;clear hn hNj o5;have hseH:=Ng hEj;have hBjH:=Ng hBj;have hnn:n≤100000:=by omega
          go_wp2_with fail
          go_loopg [13,93] n (fun m p c wr=>∃ k:Nat,m=n - k∧k≤n∧c = .int .i64 k∧Below wj.heap.size wj wr∧Hid (cW (O.take k)=false))
          case atStart=>exact⟨0,rfl,Nat.zero_le _,rfl,Below.refl _ _,Ng (by simp [cW])⟩
          case round =>
           clear hBj;obtain⟨k,rfl,hkn,rfl,hbr,hnl⟩:=hrel
           by_cases hlt:k<n
           ·obtain⟨x,hx⟩:∃ x,O[k]?=some x:=⟨_,List.getElem?_eq_getElem (by have:=HNl.out;omega)⟩
            have HT:=Ng (r5 hx hnl.out);obtain⟨n0,n1,n2,n3,n4⟩:=hRo.out.facts hx;have n0:=aF hbr n0;have n1:=aF hbr n1;have n2:=aF hbr n2;have n3:=aF hbr n3;have n4:=aF hbr n4;have hszr:=hbr.size;have hb2:=hbr.alloc hbr.size (.cells #[Value.int .i64 x.kind,.int .i64 x.n,.int .i64 x.k,.int .i64 x.size,.string (bs x.text)] 40);clear hx
            by_cases q1:x.kind=1
            ·by_cases q2:2000<x.text.length
             ·have HX2:=Ng (show r = .error (101,tk.place) from by
               have h1:=HX.out;rw[if_pos (rZ (k:=k+1) (by rw[HT.out,q1];simp [q2]))] at h1
               exact eP h1)
              have q3:decide ((2000:Int)<((bs x.text).size:Int))=true:=by rw[decide_eq_true_eq,aY];omega
              have hse:=aF hbr (hseH.out.env 101 3 (by simp [cH]))
              have hcp:=aF hbr (hBjH.out.cell 1 rfl);rw[q1] at n0;rw[q1] at hb2;clear q1 q2 HX HT;have hcp2:=aF ((Below.refl _ wr).alloc (Nat.le_refl _) (.cells #[Value.int .i64 1,.int .i64 x.n,.int .i64 x.k,.int .i64 x.size,.string (bs x.text)] 40)) hcp;have hse2:=aF ((Below.refl _ wr).alloc (Nat.le_refl _) (.cells #[Value.int .i64 1,.int .i64 x.n,.int .i64 x.k,.int .i64 x.size,.string (bs x.text)] 40)) hse;go_upto_region 22 with fail
              go_region
              go_wp2_with fail
              go_ret2;have hb4:=lH (hb2.alloc hb2.size (.cells #[Value.int .i64 tk.place,.iface 286 (.pointer (some (sent 101)))] 63));have hbk:=(Blk.new (wr.alloc (.cells #[Value.int .i64 1,.int .i64 x.n,.int .i64 x.k,.int .i64 x.size,.string (bs x.text)] 40)) [Value.int .i64 tk.place,.iface 286 (.pointer (some (sent 101)))] 63).drew;rw[World.size_alloc] at hbk;exact (bA.bad HX2.out rfl (.none _ _) (Nat.zero_le _) ⟨_,rfl,hbk,by omega⟩ (hSj.below hb4) (hKj.andBelow hb4)).after hK0
             ·have q3:decide ((2000:Int)<((bs x.text).size:Int))=false:=by rw[decide_eq_false_iff_not,aY];omega
              have HT2:=Ng (show cW (O.take (k+1))=false by rw[HT.out];simp [q2])
              rw[q1] at n0;rw[q1] at hb2;clear q1 q2 HT;go_wp2_with fail
              go_roundg (n - (k+1))
              case measure=>omega
              case rel=>exact⟨k+1,rfl,by omega,by go_num,hb2,HT2⟩
            ·have q3:(x.kind==1)=false:=by rw[beq_eq_false_iff_ne];exact q1
             have HT2:=Ng (show cW (O.take (k+1))=false by rw[HT.out];simp [q1])
             clear q1 HT;go_wp2_with fail
             go_roundg (n - (k+1))
             case measure=>omega
             case rel=>exact⟨k+1,rfl,by omega,by go_num,hb2,HT2⟩
           ·obtain rfl:k=n:=by omega
            have HX2:=Ng (show r = .ok (O,e2) from by
             have h1:=HX.out;have h2:=hnl.out;rw[List.take_of_length_le (by have:=HNl.out;omega)] at h2
             rw[h2,if_neg (by simp)] at h1
             exact gI h1)
            clear HX hnl;go_wp2_with fail
            go_ret2;exact (bA.ok HX2.out rfl (by have h:=hNo.out.below hbr;rw[HNl.out] at h;exact h) (hSj.below hbr) (hKj.andBelow hbr)).after hK0
         ·have k1:((M.length:Int)==1)=false:=by rw[beq_eq_false_iff_ne];omega
          rw[tU (fun h=>p1 h.1)] at HX
          obtain⟨O,hOj⟩:∃ O,i8 M=O:=⟨_,rfl⟩;rw[hOj] at HX hNj hlj;clear hOj;generalize M.length=mlen at *;obtain⟨og,oc,eo,o1,o2,o3,o4,o5⟩:=id hNj
          cases eo
          obtain⟨n,hn⟩:∃ n,O.length=n:=⟨_,rfl⟩;have HNl:=Ng hn;have hNo:=Ng hNj;have hRo:=Ng o5;rw[hn] at o1 hlj ⊢;clear hn hNj o5;have hseH:=Ng hEj;have hBjH:=Ng hBj;have hnn:n≤100000:=by omega
          go_wp2_with fail
          go_loopg [13,93] n (fun m p c wr=>∃ k:Nat,m=n - k∧k≤n∧c = .int .i64 k∧Below wj.heap.size wj wr∧Hid (cW (O.take k)=false))
          case atStart=>exact⟨0,rfl,Nat.zero_le _,rfl,Below.refl _ _,Ng (by simp [cW])⟩
          case round =>
           clear hBj;obtain⟨k,rfl,hkn,rfl,hbr,hnl⟩:=hrel
           by_cases hlt:k<n
           ·obtain⟨x,hx⟩:∃ x,O[k]?=some x:=⟨_,List.getElem?_eq_getElem (by have:=HNl.out;omega)⟩
            have HT:=Ng (r5 hx hnl.out);obtain⟨n0,n1,n2,n3,n4⟩:=hRo.out.facts hx;have n0:=aF hbr n0;have n1:=aF hbr n1;have n2:=aF hbr n2;have n3:=aF hbr n3;have n4:=aF hbr n4;have hszr:=hbr.size;have hb2:=hbr.alloc hbr.size (.cells #[Value.int .i64 x.kind,.int .i64 x.n,.int .i64 x.k,.int .i64 x.size,.string (bs x.text)] 40);clear hx
            by_cases q1:x.kind=1
            ·by_cases q2:2000<x.text.length
             ·have HX2:=Ng (show r = .error (101,tk.place) from by
               have h1:=HX.out;rw[if_pos (rZ (k:=k+1) (by rw[HT.out,q1];simp [q2]))] at h1
               exact eP h1)
              have q3:decide ((2000:Int)<((bs x.text).size:Int))=true:=by rw[decide_eq_true_eq,aY];omega
              have hse:=aF hbr (hseH.out.env 101 3 (by simp [cH]))
              have hcp:=aF hbr (hBjH.out.cell 1 rfl);rw[q1] at n0;rw[q1] at hb2;clear q1 q2 HX HT;have hcp2:=aF ((Below.refl _ wr).alloc (Nat.le_refl _) (.cells #[Value.int .i64 1,.int .i64 x.n,.int .i64 x.k,.int .i64 x.size,.string (bs x.text)] 40)) hcp;have hse2:=aF ((Below.refl _ wr).alloc (Nat.le_refl _) (.cells #[Value.int .i64 1,.int .i64 x.n,.int .i64 x.k,.int .i64 x.size,.string (bs x.text)] 40)) hse;go_upto_region 22 with fail
              go_region
              go_wp2_with fail
              go_ret2;have hb4:=lH (hb2.alloc hb2.size (.cells #[Value.int .i64 tk.place,.iface 286 (.pointer (some (sent 101)))] 63));have hbk:=(Blk.new (wr.alloc (.cells #[Value.int .i64 1,.int .i64 x.n,.int .i64 x.k,.int .i64 x.size,.string (bs x.text)] 40)) [Value.int .i64 tk.place,.iface 286 (.pointer (some (sent 101)))] 63).drew;rw[World.size_alloc] at hbk;exact (bA.bad HX2.out rfl (.none _ _) (Nat.zero_le _) ⟨_,rfl,hbk,by omega⟩ (hSj.below hb4) (hKj.andBelow hb4)).after hK0
             ·have q3:decide ((2000:Int)<((bs x.text).size:Int))=false:=by rw[decide_eq_false_iff_not,aY];omega
              have HT2:=Ng (show cW (O.take (k+1))=false by rw[HT.out];simp [q2])
              rw[q1] at n0;rw[q1] at hb2;clear q1 q2 HT;go_wp2_with fail
              go_roundg (n - (k+1))
              case measure=>omega
              case rel=>exact⟨k+1,rfl,by omega,by go_num,hb2,HT2⟩
            ·have q3:(x.kind==1)=false:=by rw[beq_eq_false_iff_ne];exact q1
             have HT2:=Ng (show cW (O.take (k+1))=false by rw[HT.out];simp [q1])
             clear q1 HT;go_wp2_with fail
             go_roundg (n - (k+1))
             case measure=>omega
             case rel=>exact⟨k+1,rfl,by omega,by go_num,hb2,HT2⟩
           ·obtain rfl:k=n:=by omega
            have HX2:=Ng (show r = .ok (O,e2) from by
             have h1:=HX.out;have h2:=hnl.out;rw[List.take_of_length_le (by have:=HNl.out;omega)] at h2
             rw[h2,if_neg (by simp)] at h1
             exact gI h1)
            clear HX hnl;go_wp2_with fail
            go_ret2;exact (bA.ok HX2.out rfl (by have h:=hNo.out.below hbr;rw[HNl.out] at h;exact h) (hSj.below hbr) (hKj.andBelow hbr)).after hK0
       ·have x2:eV ts e2=false:=by simpa using x2
        rw[x2] at HP2 ⊢;rw[if_pos (.inl rfl)] at HP2;have HRR:=Ng (gI HP2.out)
        have HX:=Ng (show (if cW (lO tk 0 M)=true then kC 101 tk.place else pOk (lO tk 0 M) e2)=some r from by
         have:=HR.out
         rw[HRR.out] at this;exact this)
        have hlj:=x5 M;clear HP2 HR HRR;go_wp2_with fail
        refine (Cr M b _ w8 (by omega) hM0 (by omega) (by omega) (by omega) (hO8.ksl hbz) hM4).mono ?_
        rintro e wj ⟨vj,rfl,hNj,hbj⟩;have hSj:=hS8.below hbj;have hBj:=hB8.below hbj;have hKj:=hK8.andBelow hbj;have hEj:=hE.kept hKj;have hszj:=hKj.size;clear hS8 hO8 hB8 hK8 hbj
        by_cases p1:M.length=1
        ·rw[p1];have p1':((1:Nat):Int)=1:=rfl;have hc0:=hBj.cell 0 rfl;have k1:((tk.kind:Int)==18)=false:=by rw[beq_eq_false_iff_ne];omega
         rw[tU (fun h=>p2 h.2.1)] at HX
         obtain⟨O,hOj⟩:∃ O,i8 M=O:=⟨_,rfl⟩;rw[hOj] at HX hNj hlj;clear hOj p1;obtain⟨og,oc,eo,o1,o2,o3,o4,o5⟩:=id hNj
         cases eo
         obtain⟨n,hn⟩:∃ n,O.length=n:=⟨_,rfl⟩;have HNl:=Ng hn;have hNo:=Ng hNj;have hRo:=Ng o5;rw[hn] at o1 hlj ⊢;clear hn hNj o5;have hseH:=Ng hEj;have hBjH:=Ng hBj;have hnn:n≤100000:=by omega
         go_wp2_with fail
         go_loopg [13,93] n (fun m p c wr=>∃ k:Nat,m=n - k∧k≤n∧c = .int .i64 k∧Below wj.heap.size wj wr∧Hid (cW (O.take k)=false))
         case atStart=>exact⟨0,rfl,Nat.zero_le _,rfl,Below.refl _ _,Ng (by simp [cW])⟩
         case round =>
          clear hBj;obtain⟨k,rfl,hkn,rfl,hbr,hnl⟩:=hrel
          by_cases hlt:k<n
          ·obtain⟨x,hx⟩:∃ x,O[k]?=some x:=⟨_,List.getElem?_eq_getElem (by have:=HNl.out;omega)⟩
           have HT:=Ng (r5 hx hnl.out);obtain⟨n0,n1,n2,n3,n4⟩:=hRo.out.facts hx;have n0:=aF hbr n0;have n1:=aF hbr n1;have n2:=aF hbr n2;have n3:=aF hbr n3;have n4:=aF hbr n4;have hszr:=hbr.size;have hb2:=hbr.alloc hbr.size (.cells #[Value.int .i64 x.kind,.int .i64 x.n,.int .i64 x.k,.int .i64 x.size,.string (bs x.text)] 40);clear hx
           by_cases q1:x.kind=1
           ·by_cases q2:2000<x.text.length
            ·have HX2:=Ng (show r = .error (101,tk.place) from by
              have h1:=HX.out;rw[if_pos (rZ (k:=k+1) (by rw[HT.out,q1];simp [q2]))] at h1
              exact eP h1)
             have q3:decide ((2000:Int)<((bs x.text).size:Int))=true:=by rw[decide_eq_true_eq,aY];omega
             have hse:=aF hbr (hseH.out.env 101 3 (by simp [cH]))
             have hcp:=aF hbr (hBjH.out.cell 1 rfl);rw[q1] at n0;rw[q1] at hb2;clear q1 q2 HX HT;have hcp2:=aF ((Below.refl _ wr).alloc (Nat.le_refl _) (.cells #[Value.int .i64 1,.int .i64 x.n,.int .i64 x.k,.int .i64 x.size,.string (bs x.text)] 40)) hcp;have hse2:=aF ((Below.refl _ wr).alloc (Nat.le_refl _) (.cells #[Value.int .i64 1,.int .i64 x.n,.int .i64 x.k,.int .i64 x.size,.string (bs x.text)] 40)) hse;go_upto_region 22 with fail
             go_region
             go_wp2_with fail
             go_ret2;have hb4:=lH (hb2.alloc hb2.size (.cells #[Value.int .i64 tk.place,.iface 286 (.pointer (some (sent 101)))] 63));have hbk:=(Blk.new (wr.alloc (.cells #[Value.int .i64 1,.int .i64 x.n,.int .i64 x.k,.int .i64 x.size,.string (bs x.text)] 40)) [Value.int .i64 tk.place,.iface 286 (.pointer (some (sent 101)))] 63).drew;rw[World.size_alloc] at hbk;exact (bA.bad HX2.out rfl (.none _ _) (Nat.zero_le _) ⟨_,rfl,hbk,by omega⟩ (hSj.below hb4) (hKj.andBelow hb4)).after hK0
            ·have q3:decide ((2000:Int)<((bs x.text).size:Int))=false:=by rw[decide_eq_false_iff_not,aY];omega
             have HT2:=Ng (show cW (O.take (k+1))=false by rw[HT.out];simp [q2])
             rw[q1] at n0;rw[q1] at hb2;clear q1 q2 HT;go_wp2_with fail
             go_roundg (n - (k+1))
             case measure=>omega
             case rel=>exact⟨k+1,rfl,by omega,by go_num,hb2,HT2⟩
           ·have q3:(x.kind==1)=false:=by rw[beq_eq_false_iff_ne];exact q1
            have HT2:=Ng (show cW (O.take (k+1))=false by rw[HT.out];simp [q1])
            clear q1 HT;go_wp2_with fail
            go_roundg (n - (k+1))
            case measure=>omega
            case rel=>exact⟨k+1,rfl,by omega,by go_num,hb2,HT2⟩
          ·obtain rfl:k=n:=by omega
           have HX2:=Ng (show r = .ok (O,e2) from by
            have h1:=HX.out;have h2:=hnl.out;rw[List.take_of_length_le (by have:=HNl.out;omega)] at h2
            rw[h2,if_neg (by simp)] at h1
            exact gI h1)
           clear HX hnl;go_wp2_with fail
           go_ret2;exact (bA.ok HX2.out rfl (by have h:=hNo.out.below hbr;rw[HNl.out] at h;exact h) (hSj.below hbr) (hKj.andBelow hbr)).after hK0
        ·have k1:((M.length:Int)==1)=false:=by rw[beq_eq_false_iff_ne];omega
         rw[tU (fun h=>p1 h.1)] at HX
         obtain⟨O,hOj⟩:∃ O,i8 M=O:=⟨_,rfl⟩;rw[hOj] at HX hNj hlj;clear hOj;generalize M.length=mlen at *;obtain⟨og,oc,eo,o1,o2,o3,o4,o5⟩:=id hNj
         cases eo
         obtain⟨n,hn⟩:∃ n,O.length=n:=⟨_,rfl⟩;have HNl:=Ng hn;have hNo:=Ng hNj;have hRo:=Ng o5;rw[hn] at o1 hlj ⊢;clear hn hNj o5;have hseH:=Ng hEj;have hBjH:=Ng hBj;have hnn:n≤100000:=by omega
         go_wp2_with fail
         go_loopg [13,93] n (fun m p c wr=>∃ k:Nat,m=n - k∧k≤n∧c = .int .i64 k∧Below wj.heap.size wj wr∧Hid (cW (O.take k)=false))
         case atStart=>exact⟨0,rfl,Nat.zero_le _,rfl,Below.refl _ _,Ng (by simp [cW])⟩
         case round =>
          clear hBj;obtain⟨k,rfl,hkn,rfl,hbr,hnl⟩:=hrel
          by_cases hlt:k<n
          ·obtain⟨x,hx⟩:∃ x,O[k]?=some x:=⟨_,List.getElem?_eq_getElem (by have:=HNl.out;omega)⟩
           have HT:=Ng (r5 hx hnl.out);obtain⟨n0,n1,n2,n3,n4⟩:=hRo.out.facts hx;have n0:=aF hbr n0;have n1:=aF hbr n1;have n2:=aF hbr n2;have n3:=aF hbr n3;have n4:=aF hbr n4;have hszr:=hbr.size;have hb2:=hbr.alloc hbr.size (.cells #[Value.int .i64 x.kind,.int .i64 x.n,.int .i64 x.k,.int .i64 x.size,.string (bs x.text)] 40);clear hx
           by_cases q1:x.kind=1
           ·by_cases q2:2000<x.text.length
            ·have HX2:=Ng (show r = .error (101,tk.place) from by
              have h1:=HX.out;rw[if_pos (rZ (k:=k+1) (by rw[HT.out,q1];simp [q2]))] at h1
              exact eP h1)
             have q3:decide ((2000:Int)<((bs x.text).size:Int))=true:=by rw[decide_eq_true_eq,aY];omega
             have hse:=aF hbr (hseH.out.env 101 3 (by simp [cH]))
             have hcp:=aF hbr (hBjH.out.cell 1 rfl);rw[q1] at n0;rw[q1] at hb2;clear q1 q2 HX HT;have hcp2:=aF ((Below.refl _ wr).alloc (Nat.le_refl _) (.cells #[Value.int .i64 1,.int .i64 x.n,.int .i64 x.k,.int .i64 x.size,.string (bs x.text)] 40)) hcp;have hse2:=aF ((Below.refl _ wr).alloc (Nat.le_refl _) (.cells #[Value.int .i64 1,.int .i64 x.n,.int .i64 x.k,.int .i64 x.size,.string (bs x.text)] 40)) hse;go_upto_region 22 with fail
             go_region
             go_wp2_with fail
             go_ret2;have hb4:=lH (hb2.alloc hb2.size (.cells #[Value.int .i64 tk.place,.iface 286 (.pointer (some (sent 101)))] 63));have hbk:=(Blk.new (wr.alloc (.cells #[Value.int .i64 1,.int .i64 x.n,.int .i64 x.k,.int .i64 x.size,.string (bs x.text)] 40)) [Value.int .i64 tk.place,.iface 286 (.pointer (some (sent 101)))] 63).drew;rw[World.size_alloc] at hbk;exact (bA.bad HX2.out rfl (.none _ _) (Nat.zero_le _) ⟨_,rfl,hbk,by omega⟩ (hSj.below hb4) (hKj.andBelow hb4)).after hK0
            ·have q3:decide ((2000:Int)<((bs x.text).size:Int))=false:=by rw[decide_eq_false_iff_not,aY];omega
             have HT2:=Ng (show cW (O.take (k+1))=false by rw[HT.out];simp [q2])
             rw[q1] at n0;rw[q1] at hb2;clear q1 q2 HT;go_wp2_with fail
             go_roundg (n - (k+1))
             case measure=>omega
             case rel=>exact⟨k+1,rfl,by omega,by go_num,hb2,HT2⟩
           ·have q3:(x.kind==1)=false:=by rw[beq_eq_false_iff_ne];exact q1
            have HT2:=Ng (show cW (O.take (k+1))=false by rw[HT.out];simp [q1])
            clear q1 HT;go_wp2_with fail
            go_roundg (n - (k+1))
            case measure=>omega
            case rel=>exact⟨k+1,rfl,by omega,by go_num,hb2,HT2⟩
          ·obtain rfl:k=n:=by omega
           have HX2:=Ng (show r = .ok (O,e2) from by
            have h1:=HX.out;have h2:=hnl.out;rw[List.take_of_length_le (by have:=HNl.out;omega)] at h2
            rw[h2,if_neg (by simp)] at h1
            exact gI h1)
           clear HX hnl;go_wp2_with fail
           go_ret2;exact (bA.ok HX2.out rfl (by have h:=hNo.out.below hbr;rw[HNl.out] at h;exact h) (hSj.below hbr) (hKj.andBelow hbr)).after hK0
   ·have x0:eV ts k=false:=by simpa using x0
    rw[x0,if_pos rfl] at HP;rw[x0];have HX:=Ng (sJ HP.out)
    have HX2:=Ng (show r = .error (if isK ts k [0]=true then 109 else 108,(aK ts k).place) from by
     have:=HR.out
     rw[HX.out] at this;exact eP this)
    clear HP HR HX;go_wp2_with fail
    refine (uP F hS2 hk sent hE2.env).mono ?_;rintro e w6 ⟨eb,rfl,hE7,hl7,hb7⟩;go_wp2_with fail
    go_ret2;exact (bA.bad HX2.out rfl (.none _ _) (Nat.zero_le _) ⟨eb,rfl,hE7,by omega⟩ (hS2.below hb7) (hK2.andBelow hb7)).after hK0
theorem Ij {b g cap:Nat}{ts:List aH}{sent:Nat→Addr}(T:PTs cap ts)(f:Nat)(ih:∀ f'<f,wD b g cap ts sent f'):rR b g cap ts sent f:=by
 intro w i d how r hd hh hi hS hE hr;obtain rfl:how=0:=by omega
 exact GX T f ih w i d r hd hi hS hE hr
end Go.Proofs.YtbpjobmpacjgcaaGreatDoor
