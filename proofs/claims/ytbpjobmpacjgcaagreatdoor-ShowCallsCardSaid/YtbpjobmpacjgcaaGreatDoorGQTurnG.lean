/- Dialect A's parser: turns in memory. -/
import Derived.Test.YtbpjobmpacjgcaaGreatDoorGZD
import Derived.Test.YtbpjobmpacjgcaaGreatDoorGZJ
namespace Go.Proofs.YtbpjobmpacjgcaaGreatDoor
set_option maxHeartbeats 8000000
set_option maxRecDepth 100000
open Go Go.RowKit
theorem Bu:(Tryz.prog.info? 216).map (fun i=>(i.zero,i.size,i.bytes))=some (some (.agg #[.int .i64 0,.slice none 0 0]),2,32):=by kernel_rfl
def l7:List (Nat×aA)→List Value→List Value
 | t :: l,u :: us=>.int .i64 (t.1:Int) :: u :: l7 l us
 | _,_=>[]
theorem An:∀ (l:List (Nat×aA))(us:List Value)(t:Nat×aA)(u:Value),us.length=l.length→l7 (l++[t]) (us++[u])=l7 l us++[.int .i64 (t.1:Int),u]
 | [],[],t,u,_=>rfl
 | [],_ :: _,t,u,h=>by simp at h
 | _ :: l,[],t,u,h=>by simp at h
 | a :: l,v :: us,t,u,h=>by
  rw[List.cons_append,List.cons_append,l7,An l us t u (by simpa using h),l7]
  rfl
theorem Av:∀ (l:List (Nat×aA))(us:List Value)(i:Nat)(t:Nat×aA)(u:Value),l[i]?=some t→us[i]?=some u→(l7 l us)[i * 2]?=some (.int .i64 (t.1:Int))∧(l7 l us)[i * 2+1]?=some u
 | [],_,i,t,u,h,_=>by simp at h
 | _ :: _,[],i,t,u,_,h=>by simp at h
 | a :: l,v :: us,0,t,u,h,h'=>by
  simp only[List.getElem?_cons_zero,Option.some.injEq] at h h';subst h h';exact⟨rfl,rfl⟩
 | a :: l,v :: us,i+1,t,u,h,h'=>by
  have:=Av l us i t u (by simpa using h) (by simpa using h')
  rw[l7,Nat.succ_mul];exact this
def gB (w:World) (B b:Nat) (v:Value) (L:List (Nat×aA)):Prop:=∃ us:List Value,us.length=L.length∧w.ownsRow B 216 2 v L.length (l7 L us)∧∀ (i:Nat) (u:Value) (t:Nat×aA),us[i]?=some u→L[i]?=some t→NSl w b u t.2
theorem gB.nil (w:World)(B b:Nat):gB w B b (.slice none 0 0) []:=⟨[],rfl,World.ownsRow_nil _ _ _ _,fun i u l h=>by simp at h⟩
theorem gB.kept {w w':World}{B b:Nat}{v:Value}{L:List (Nat×aA)}(h:gB w B b v L)(hb:b<B)(hk:aB (At b) w w'):gB w' B b v L:=by
 obtain⟨us,h1,h2,h3⟩:=h;exact⟨us,h1,bM h2 hk (fun k hk _ e=>by unfold At at e;omega),fun i u l hu hl=>(h3 i u l hu hl).kept hk⟩
theorem gB.below {w w':World}{B b:Nat}{v:Value}{L:List (Nat×aA)}(h:gB w B b v L)(hb:b<B)(hk:Below w.heap.size w w'):gB w' B b v L:=h.kept hb (.ofBelow hk)
theorem gB.form {w:World}{B b:Nat}{v:Value}{L:List (Nat×aA)}(h:gB w B b v L):∃ ao cap,v = .slice ao L.length cap:=by
 obtain⟨us,h1,h2,_⟩:=h
 rcases h2.2 with ⟨hv,h0⟩ | ⟨g,cap,cur,hv,_⟩
 ·exact⟨none,0,by rw[hv,h0]⟩
 ·exact⟨_,_,hv⟩
def qD (w:World) (b:Nat) (v:Value) (L:List (Nat×aA)):Prop:=∃ ao cap,v = .slice ao L.length cap∧L.length≤cap∧cap≤maxLen ∧
 (0<L.length→∃ g,ao=some ⟨g,0,none⟩∧g<w.heap.size∧∀ (i:Nat) (t:Nat×aA),L[i]?=some t→∃ u,w.cell? ⟨g,i * 2,none⟩=some (.int .i64 (t.1:Int))∧w.cell? ⟨g,i * 2+1,none⟩=some u∧NSl w b u t.2)
theorem gB.tsl {w:World}{B b:Nat}{v:Value}{L:List (Nat×aA)}(h:gB w B b v L):qD w b v L:=by
 obtain⟨us,h1,h2,h3⟩:=h
 by_cases hl:0<L.length
 ·obtain⟨g,cap,q1,q2,q3,q4,q5,q6⟩:=kE h2 hl;refine ⟨_,cap,q1,q2,q3,fun _=>⟨g,rfl,q5,fun i t hi=>?_⟩⟩
  have hil:=(List.getElem?_eq_some_iff.1 hi).1;have hu:us[i]?=some us[i]:=List.getElem?_eq_getElem (by omega)
  obtain⟨c1,c2⟩:=Av L us i t _ hi hu;exact⟨_,q6 _ _ c1,q6 _ _ c2,h3 i _ t hu hi⟩
 ·have h0:L=[]:=List.length_eq_zero_iff.1 (by omega)
  subst h0
  rcases h2.2 with ⟨hv,_⟩ | ⟨g,cap,cur,hv,_,_,q1,q2,_⟩
  ·exact⟨none,0,hv,Nat.le_refl _,Nat.zero_le _,fun h=>absurd h (by simp)⟩
  ·exact⟨_,cap,hv,q1,q2,fun h=>absurd h (by simp)⟩
theorem gB.grown {w0 w w':World}{b:Nat}{v v':Value}{L:List (Nat×aA)}{t:Nat×aA}{u:Value}{us:List Value}{o:Obj}(hs:w0.heap.size≤w.heap.size)(h1:us.length=L.length)(h2:w.ownsRow w0.heap.size 216 2 v L.length (l7 L us))(h3:∀ (i:Nat)(u:Value)(t:Nat×aA),us[i]?=some u→L[i]?=some t→NSl w b u t.2)(hu:NSl w b u t.2)
  (hown:w'.ownsRow w0.heap.size 216 2 v' (L.length+1) (l7 L us++[.int .i64 (t.1:Int),u])) (hg:(w.alloc o).grownBy w' v.ownBlock):gB w' w0.heap.size b v' (L++[t])∧Below w0.heap.size w w':=by
 have hb1:=(Below.refl w.heap.size w).alloc (Nat.le_refl _) o
 have hrow:∀ k,v.ownBlock=some k→∃ cur fz t,(w.alloc o).heap[k]?=some (.cells cur t fz)∧t≠40:=fun k hk=>by
  obtain⟨cur,fz,e⟩:=oM h2 k hk;exact⟨cur,fz,216,(hb1.block k (lt_of_block e)).trans e,by decide⟩
 have hlt:=World.ownsRow.lt h2;have hsame:∀ x l,NSl w b x l→NSl w' b x l:=fun x l hx=>(hx.below hb1).grown hg hrow
 refine ⟨⟨us++[u],by simp [h1],?_,fun i x y hx hy=>?_⟩,?_⟩
 ·rw[An L us t u h1,List.length_append];exact hown
 ·by_cases hi:i<us.length
  ·rw[List.getElem?_append_left hi] at hx;rw[List.getElem?_append_left (by omega)] at hy
   exact hsame _ _ (h3 i x y hx hy)
  ·rw[List.getElem?_append_right (by omega)] at hx hy
   obtain⟨k,hk⟩:∃ k,i - us.length=k:=⟨_,rfl⟩;have hk2:i - L.length=k:=by omega
   rw[hk] at hx;rw[hk2] at hy
   cases k with
   | zero =>
    cases hx
    cases hy
    exact hsame _ _ hu
   | succ k=>simp at hx
 ·exact (hb1.mono hs).trans ((aB.grown (S:=fun k=>some k=v.ownBlock) (aB.refl _ _) hg (fun k h _=>h.symm)).below (by simp;omega) (fun i hi e=>by have:=hlt _ e.symm;omega))
theorem gB.other {w w':World}{B b:Nat}{v:Value}{L:List (Nat×aA)}{e:TypeId}{row:Option Nat}(h:gB w B b v L)(hg:w.grownBy w' row)(h1:e≠216)(h2:e≠40)(hr:∀ k,row=some k→∃ cur fz t,w.heap[k]?=some (.cells cur t fz)∧t=e):gB w' B b v L:=by
 obtain⟨us,u1,u2,u3⟩:=h;refine ⟨us,u1,tN u2 hg (fun k hk=>?_),fun i u l hu hl=>(u3 i u l hu hl).grown hg (fun k hk=>?_)⟩
 ·obtain⟨c,f,t,h3,rfl⟩:=hr k hk;exact⟨c,f,t,h3,h1⟩
 ·obtain⟨c,f,t,h3,rfl⟩:=hr k hk;exact⟨c,f,t,h3,h2⟩
theorem qD.below {w w':World}{b:Nat}{v:Value}{L:List (Nat×aA)}(h:qD w b v L)(hb:Below w.heap.size w w'):qD w' b v L:=by
 obtain⟨ao,cap,h1,h2,h3,h4⟩:=h;refine ⟨ao,cap,h1,h2,h3,fun hl=>?_⟩
 obtain⟨g,e1,e2,e3⟩:=h4 hl;refine ⟨g,e1,Nat.lt_of_lt_of_le e2 hb.size,fun i t hi=>?_⟩
 obtain⟨u,u1,u2,u3⟩:=e3 i t hi;exact⟨u,aF hb u1,aF hb u2,u3.below hb⟩
open Go.Shelf
attribute [local go_sem] Oper.semAt_some
theorem GU (F:Fence)(n:Nat)(h8:F.fn 281)(hro:F.round=none)(hn:1≤n)(l Bs len cap:Nat)(ao ap:Option Addr)(ks:Nat→Nat)(us:Nat→Value)(hlen:len≤100000)(_hcap:len≤cap)(J Jx:List (Fin len)→World→Prop)
  (hY:∀ pre x W,J pre W→pre.length<len→YieldAt F (n - 1) Tryz.prog l #[.int .i64 (x.1:Int),.agg #[.int .i64 (ks x.1:Int),us x.1]] W fun e W' =>
   (e = .returned (.bool true)∧J (pre++[x]) W'∧cR Bs ap W W')∨(e = .returned (.bool false)∧Jx (pre++[x]) W'))
  (W:World) (hBs:W.cell? ⟨Bs,0,none⟩=some (.slice ao len cap)) (hc:∀ j,j<len→∃ g,ao=some ⟨g,0,none⟩∧ap=some ⟨g,0,none⟩∧W.cell? ⟨g,j * 2,none⟩=some (.int .i64 (ks j:Int))∧W.cell? ⟨g,j * 2+1,none⟩=some (us j)) (h0:J [] W) :
  CallsIn F n Tryz.prog 281 #[.func (.yield l) #[] #[],.pointer (some ⟨Bs,0,none⟩)] W fun e W'=>(∃ v,e = .returned v) ∧
   ((∃ ys,ys=gX len 0∧J ys W')∨(∃ pre,True∧Jx pre W')):=by
 refine callsIn_of_wp Tryz.func281 rfl h8 ?_ hro;simp only[Tryz.ntmps281,List.size_toArray,List.length_cons,List.length_nil,Nat.reduceAdd,Nat.reduceSub,Array.replicate_succ,Array.replicate_zero,List.push_toArray,List.append_toArray,List.nil_append,List.cons_append];have hw1:IntKind.i64.wrap ((len:Int) - 1)=(len:Int) - 1:=by rw[IntKind.wrap_i64];omega
 have HY:=Ng hY;have HC:=Ng hc;clear hY hc;gi_wp2
 gi_loopw [3] (fun i wr=>∃ k:Nat,k≤len∧i = .int .i64 ((k:Int) - 1)∧J (gX len k) wr∧cR Bs ap W wr)
  (fun i _=>(intOf i+1).toNat)
 case atStart=>exact⟨len,Nat.le_refl _,rfl,by rw[yA];exact h0,cR.refl _ _ _⟩
 case round =>
  obtain⟨k,hk,rfl,hJs,hnx⟩:=hrel;have hb:=hnx.cell hBs (.inl rfl)
  by_cases hlt:0<k
  ·obtain⟨k,rfl⟩:∃ q,k=q+1:=⟨k - 1,by omega⟩
   have hkk:(((k+1:Nat):Int) - 1)=(k:Int):=by omega
   rw[hkk];obtain⟨g,rfl,hap,hc1,hc2⟩:=HC.out k (by omega)
   have hc1:=hnx.cell hc1 (.inr hap);have hc2:=hnx.cell hc2 (.inr hap);obtain⟨fn,tmps,assign,body,hy,hR⟩:=HY.out _ ⟨k,by omega⟩ wr hJs (by rw[x9];omega)
   dsimp only at hy;have hw2:IntKind.i64.wrap ((k:Int) - 1)=(k:Int) - 1:=by rw[IntKind.wrap_i64];omega
   gi_wp2
   refine hR.mono ?_;rintro e W3 (⟨rfl,hJ3,hk3⟩ | ⟨rfl,hJx3⟩)
   ·gi_wp2
    go_roundw
    case rel=>exact⟨k,by omega,rfl,by rw[xH (by omega)];exact hJ3,hnx.trans hk3⟩
    case measure=>simp [intOf]
   ·gi_wp2
    refine bodyPost_ret (results_none rfl _ _ _) rfl ?_;exact⟨⟨_,rfl⟩,.inr ⟨_,trivial,hJx3⟩⟩
  ·obtain rfl:k=0:=by omega
   gi_wp2
   go_end0
   exact⟨⟨_,rfl⟩,.inl ⟨_,rfl,hJs⟩⟩
theorem IZ (a:Option Addr)(len cap:Nat)(w:World) :
  Calls Tryz.prog 260 #[.slice a len cap] w fun e w'=>e = .returned (.func (.func 281) #[] #[.pointer (some ⟨w.heap.size,0,none⟩)])∧w'=w.alloc (.cells #[.slice a len cap] 214):=by
 have hmf:∀ (fn:Fn) (first cap:Array Value) (w:World),(Instr.makeFunc fn first cap).run Tryz.prog w = .ok (.func fn first cap) w:=fun _ _ _ _=>rfl
 go_enter Tryz.func260,Tryz.ntmps260
 go_wp2
 go_ret;exact⟨rfl,rfl⟩
theorem Fz (F:Fence)(n:Nat)(h8:F.fn 281)(hro:F.round=none)(hn:1≤n)(Bs len cap:Nat)(ao ap:Option Addr)(ks:Nat→Nat)(us:Nat→Value)(hlen:len≤100000)(hcap:len≤cap)(w:World)
  (hBs:w.cell? ⟨Bs,0,none⟩=some (.slice ao len cap)) (hc:∀ j,j<len→∃ g,ao=some ⟨g,0,none⟩∧ap=some ⟨g,0,none⟩∧w.cell? ⟨g,j * 2,none⟩=some (.int .i64 (ks j:Int))∧w.cell? ⟨g,j * 2+1,none⟩=some (us j)) :
  SeqStopsK F n Tryz.prog 281 #[.pointer (some ⟨Bs,0,none⟩)] (fun x:Fin len=>#[.int .i64 (x.1:Int),.agg #[.int .i64 (ks x.1:Int),us x.1]]) (cR Bs ap) (fun ys=>ys=gX len 0) (fun _=>True) len w:=fun l J Jx W hW _ _ hY h0 =>
 GU F n h8 hro hn l Bs len cap ao ap ks us hlen hcap J Jx hY W (aF hW hBs) (fun j hj=>by
  obtain⟨g,e,e2,c1,c2⟩:=hc j hj;exact⟨g,e,e2,aF hW c1,aF hW c2⟩) h0
theorem qD.facts {w:World}{b:Nat}{ao:Option Addr}{n cap:Nat}{L:List (Nat×aA)}(h:qD w b (.slice ao n cap) L):n=L.length∧n≤cap∧(∀ k,ao=some ⟨k,0,none⟩→0<n→k<w.heap.size)∧∃ us:Nat→Value,(∀ j,j<n→∃ g,ao=some ⟨g,0,none⟩∧w.cell? ⟨g,j * 2,none⟩=some (.int .i64 ((L.getD j (0,[])).1:Int))∧w.cell? ⟨g,j * 2+1,none⟩=some (us j))∧∀ j,j<n→NSl w b (us j) (L.getD j (0,[])).2:=by
 obtain⟨ao',cap',hv,h1,h2,h3⟩:=h
 cases hv
 refine ⟨rfl,h1,fun k hk hl=>?_,?_⟩
 ·obtain⟨g,e,q,_⟩:=h3 hl;rw[hk] at e
  cases e
  exact q
 ·have hex:∀ j,∃ u,j<L.length→(∃ g,ao=some ⟨g,0,none⟩∧w.cell? ⟨g,j * 2,none⟩=some (.int .i64 ((L.getD j (0,[])).1:Int))∧w.cell? ⟨g,j * 2+1,none⟩=some u)∧NSl w b u (L.getD j (0,[])).2:=fun j=>by
   by_cases hj:j<L.length
   ·obtain⟨g,e,q,r⟩:=h3 (by omega)
    obtain⟨u,u1,u2,u3⟩:=r j L[j] (List.getElem?_eq_getElem hj);refine ⟨u,fun _=>?_⟩
    rw[List.getD_eq_getElem?_getD,List.getElem?_eq_getElem hj];exact⟨⟨g,e,u1,u2⟩,u3⟩
   ·exact⟨undef,fun h=>absurd h hj⟩
  exact⟨fun j=>Classical.choose (hex j),fun j hj=>(Classical.choose_spec (hex j) hj).1,fun j hj=>(Classical.choose_spec (hex j) hj).2⟩
theorem Gg (l:List (Nat×aA))(c:aA)(h:∀ t∈l,t.2.length≤200000):(gH l c).length≤c.length+200001 * l.length:=by
 induction l with
 | nil=>exact Nat.le_refl _
 | cons t l ih =>
  have h1:=ih (fun t ht=>h t (by simp [ht]))
  have h2:=h t (by simp)
  unfold gH at h1 ⊢;rw[List.foldr_cons];split
  ·rw[(jF _ _ _ _ _).1,List.length_cons];omega
  ·rw[(jF _ _ _ _ _).1,List.length_cons];omega
theorem IE (L:List (Nat×aA)):(List.finRange L.length).map (fun x=>((fun j=>(L.getD j (0,[])).1) x.1,(fun j=>(L.getD j (0,[])).2) x.1))=L:=by
 apply List.ext_getElem
 ·simp
 ·intro i h1 h2;simp
theorem Bc (L:List (Nat×aA))(c:aA)(b:Nat)(v vc:Value)(w:World)(hb:b<w.heap.size)(hT:qD w b v L)(hc:NSl w b vc c)(hcl:c.length≤100000000)(hL:∀ t∈L,t.1≤100∧t.2.length≤200000)(hn:L.length≤25000) :
  Calls Tryz.prog 224 #[v,vc] w fun e w'=>∃ v',e = .returned v'∧NSl w' b v' (gH L c)∧Below w.heap.size w w':=by
 obtain⟨ao,n,cap,rfl⟩:∃ ao n cap,v = .slice ao n cap:=by
  obtain⟨ao,cap,rfl,_⟩:=hT;exact⟨_,_,_,rfl⟩
 obtain⟨hnl,hcap,hao,us,hcs,hus⟩:=hT.facts;have HNL:=Ng hnl;have HLL:=Ng hL;rw[← hnl] at hn;clear hT hnl hL;have HC:=Ng hc;obtain⟨g0,c0,rfl,-⟩:=hc;generalize hm:c.length=m at *;have HM:=Ng hm;clear hm;refine (callsIn_wide (n:=6)).1 ?_;refine callsIn_of_wp_marks Tryz.func224 rfl trivial ?_ rfl;simp only[Tryz.ntmps224,List.size_toArray,List.length_cons,List.length_nil,Nat.reduceAdd,Nat.reduceSub,Array.replicate_succ,Array.replicate_zero,List.push_toArray,List.append_toArray,List.nil_append,List.cons_append];gi_wp2_with (refine ⟨trivial,?_⟩;gi_at_call 260;refine (callsIn_wide.2 (IZ _ _ _ _)).mono ?_;rintro e w' ⟨rfl,rfl⟩)
 have bC:=(Boxed.new w 26 (.slice (some ⟨g0,0,none⟩) m c0)).alloc (.cells #[.slice ao n cap] 214);have bS:=Boxed.new (w.alloc (.cells #[.slice (some ⟨g0,0,none⟩) m c0] 26)) 214 (.slice ao n cap);have hB0:=((Below.refl _ w).alloc (Nat.le_refl _) (.cells #[.slice (some ⟨g0,0,none⟩) m c0] 26)).alloc (by simp) (.cells #[.slice ao n cap] 214)
 have hsz:((w.alloc (.cells #[.slice (some ⟨g0,0,none⟩) m c0] 26)).alloc (.cells #[.slice ao n cap] 214)).heap.size=w.heap.size+2:=by simp
 simp only[World.size_alloc] at bC bS;obtain⟨W0,hW0⟩:∃ W0,(w.alloc (.cells #[.slice (some ⟨g0,0,none⟩) m c0] 26)).alloc (.cells #[.slice ao n cap] 214)=W0:=⟨_,rfl⟩;rw[hW0] at bC bS hB0 hsz ⊢;clear hW0
 obtain⟨ap,hap1,hap2⟩:∃ ap:Option Addr,(0<n→ap=ao)∧(n=0→ap=none):=by
  by_cases h:0<n
  ·exact⟨ao,fun _=>rfl,fun h2=>by omega⟩
  ·exact⟨none,fun h2=>absurd h2 h,fun _=>rfl⟩
 have hapl:∀ k,ap=some ⟨k,0,none⟩→k<w.heap.size:=fun k hk=>by
  by_cases h:0<n
  ·rw[hap1 h] at hk;exact hao k hk h
  ·rw[hap2 (by omega)] at hk
   cases hk
 obtain⟨ks,hks⟩:∃ ks:Nat→Nat,(fun j=>(L.getD j (0,[])).1)=ks:=⟨_,rfl⟩
 obtain⟨qs,hqs⟩:∃ qs:Nat→aA,(fun j=>(L.getD j (0,[])).2)=qs:=⟨_,rfl⟩
 have hks2:∀ j,j<n→ks j≤100∧(qs j).length≤200000:=fun j hj=>by
  rw[← hks,← hqs];refine HLL.out _ ?_;rw[List.getD_eq_getElem?_getD,List.getElem?_eq_getElem (by have:=HNL.out;omega)]
  exact List.getElem_mem _
 have hus2:∀ j,j<n→NSl w b (us j) (qs j):=fun j hj=>by rw[← hqs];exact hus j hj
 have hcs2:∀ j,j<n→∃ g,ao=some ⟨g,0,none⟩∧ap=some ⟨g,0,none⟩∧W0.cell? ⟨g,j * 2,none⟩=some (.int .i64 (ks j:Int))∧W0.cell? ⟨g,j * 2+1,none⟩=some (us j):=fun j hj=>by
  obtain⟨g,e,q1,q2⟩:=hcs j hj;refine ⟨g,e,by rw[hap1 (by omega),e],?_,aF hB0 q2⟩
  rw[← hks];exact aF hB0 q1
 have HALL:=Ng (show (gX n 0).reverse.map (fun x=>(ks x.1,qs x.1))=L from by
  have:=HNL.out
  subst this;rw[← hks,← hqs,tZ,List.reverse_reverse];exact IE L)
 have HT:=Ng (show ∀ l:List (Fin n),(gH (l.map (fun x=>(ks x.1,qs x.1))) c).length≤m+200001 * l.length from fun l=>by
  have h:=Gg (l.map (fun x=>(ks x.1,qs x.1))) c (fun t ht=>by
   obtain⟨x,_,rfl⟩:=List.mem_map.1 ht;exact (hks2 x.1 x.2).2)
  rw[List.length_map,HM.out] at h;exact h)
 clear hap1 hap2 hcs hao hks hqs hus
 refine wpIn_rangeFunc_ownH rfl (by omega) (gf:=281) (lb:=#[.pointer (some ⟨w.heap.size+1,0,none⟩)]) rfl trivial (enters_of Tryz.func281 (by kernel_rfl) rfl)
  (Fz Fence.wide (6 - 1) trivial rfl (by omega) (w.heap.size+1) n cap ao ap ks us (by omega) hcap W0 bS.cell hcs2) cR.trans (vG (by omega) (fun k hk=>by have:=hapl k hk;omega)) (Below.refl _ _) (fun _=>rfl)
  (fun pre W=>(∃ v,Boxed W w.heap.size 26 v∧NSl W b v (gH (pre.reverse.map (fun x=>(ks x.1,qs x.1))) c))∧(Below w.heap.size w W∧w.heap.size+2≤W.heap.size))
  (fun _ _ _=>False)
  (OwnFrom.and (Own.from (fun s X Y row hs hg hr=>by obtain⟨v,h1,h2⟩:=hs;exact⟨v,boxed_own _ _ (fun (_:Unit)=>v) () X Y row h1 hg hr,h2.others hg hr⟩) _) (OwnFrom.and (ownFrom_below (Nat.le_refl _) (by omega)) (fun _ _ _ _ hs hg _=>Nat.le_trans hs hg.size)))
  (fun _ _ _ _ _ hs _ _=>hs)
  ⟨⟨_,bC,HC.out.below hB0⟩,hB0,by omega⟩
  (fun x a' W=>∃ Bx,w.heap.size<Bx∧Blk W Bx [.int .i64 (ks x.1),us x.1]∧a'={ tmps:=#[.slice ao n cap,.slice (some ⟨g0,0,none⟩) m c0,undef,.pointer (some ⟨w.heap.size,0,none⟩),.slice none 0 0,undef,.pointer (some ⟨Bx,0,none⟩),.slice ao n cap,.func (.func 281) #[] #[.pointer (some ⟨w.heap.size+1,0,none⟩)],.int .i64 (x.1:Int),.agg #[.int .i64 (ks x.1),us x.1],undef,undef,undef,undef,undef,undef,undef,undef,undef,undef,undef,undef,undef,undef,undef,undef,undef,undef],defers:=[] })
  (fun x a' _ X Y row hs hg hr=>by
   obtain⟨Bx,h1,h2,h3⟩:=hs;refine ⟨Bx,h1,h2.of_heap (hg.block Bx h2.lt (fun e=>?_)),h3⟩
   obtain⟨_,o,h7,h8⟩:=hr Bx e.symm;obtain⟨t,h2⟩:=h2;rw[h2] at h7
   cases h7
   cases h8)
  ?assign ?body ?done ?stop
 case assign =>
  rintro l pre x W K ⟨⟨v,bV,hV⟩,hB,hsW⟩ hK;have hux:=hus2 x.1 x.2;generalize us x.1=u at hK hux ⊢;obtain⟨gu,cu,rfl,-⟩:=id hux;gi_wp2
  have hb1:=(Below.refl W.heap.size W).alloc (Nat.le_refl _) (.cells #[.int .i64 (ks x.1:Int),.slice (some ⟨gu,0,none⟩) (qs x.1).length cu] 216);exact hK _ _ ((KeepsOthers.alloc _ _).from _) (cR.ofBelow hb1 (by omega) (fun k hk=>by have:=hapl k hk;omega)) ⟨⟨v,bV.alloc _,hV.below hb1⟩,hB.alloc hB.size _,by simp;omega⟩ ⟨W.heap.size,bV.lt,Blk.new W [.int .i64 (ks x.1:Int),.slice (some ⟨gu,0,none⟩) (qs x.1).length cu] 216,rfl⟩
 case body =>
  rintro l pre x a' W hl ⟨r,hr⟩ ⟨⟨v,bV,hV⟩,hB,hsW⟩ ⟨Bx,hBx,bX,rfl⟩ hlt;have hux:=(hus2 x.1 x.2).below hB;obtain⟨hkx,hqx⟩:=hks2 x.1 x.2;have HA:Hid (gH ((pre++[x]).reverse.map (fun x=>(ks x.1,qs x.1))) c=if ks x.1=12 then aC 34 0 [] [qs x.1,gH (pre.reverse.map (fun x=>(ks x.1,qs x.1))) c] else aC 33 ((ks x.1:Int) - 8) [] [qs x.1,gH (pre.reverse.map (fun x=>(ks x.1,qs x.1))) c]):=Ng (by rw[List.reverse_append];rfl)
  have hal:=HT.out pre.reverse;rw[List.length_reverse] at hal;generalize gH (pre.reverse.map (fun x=>(ks x.1,qs x.1))) c=A at hV HA hal
  generalize us x.1=u at bX hux ⊢;generalize qs x.1=q at hux hqx HA;generalize ks x.1=kx at bX hkx HA ⊢;obtain⟨gu,cu,rfl,-⟩:=id hux;obtain⟨gv,cv,rfl,-⟩:=id hV;have cV:=bV.cell;have fV:=bV.frozen;have x0:=bX.cell 0 rfl;have x1:=bX.cell 1 rfl
  by_cases hk:kx=12
  ·rw[if_pos hk] at HA;subst hk;have HN:=Ng (bT 34 0 [] [q,A] b _ _ (by simp;omega) (KSl.new2 (w:=W) (by omega) (.inl hux) (.inl hV)) (by simp;omega) (by simp))
   have hb0:=(Below.refl W.heap.size W).alloc (Nat.le_refl _) (.cells #[.slice (some ⟨gu,0,none⟩) q.length cu,.slice (some ⟨gv,0,none⟩) A.length cv] 26);gi_wp2_with fail
   refine ⟨trivial,(CallsIn.inRound l (callsIn_wide.2 HN.out)).mono ?_⟩;rintro e w5 ⟨v5,rfl,hN5,hb5⟩;have hb6:=aE hb0 hb5;obtain⟨g5,c5,rfl,-⟩:=id hN5;generalize hz:List.length (aC _ _ _ _)=z at hN5 ⊢;have cV5:=aF hb6 cV;have fV5:=kT hb6 cV fV;have hsz5:=hb6.size;have bV5:Boxed w5 w.heap.size 26 _:=(hb6.block _ bV.lt).trans bV;gi_wp2_with fail
   have hN6:NSl (w5.setCell ⟨w.heap.size,0,none⟩ (.slice (some ⟨g5,0,none⟩) z c5)) b (.slice (some ⟨g5,0,none⟩) z c5) _:=hN5.of_block fun g cur fz h4 _=>Below.heap_setCell _ _ _ _ (fun e=>by
    subst e;have h9:=h4.symm.trans bV5;injection h9 with h9
    injection h9 with _ h9 _
    exact absurd h9 (by decide))
   have hne:∀ k,(k=w.heap.size+1∨ap=some ⟨k,0,none⟩)→k≠w.heap.size:=fun k hk=>by
    rcases hk with hk | hk
    ·omega
    ·have:=hapl k hk
     omega
   exact⟨((KeepsOthers.ofBelow hb6).trans (KeepsOthers.setCell _ _ _)).from _,(cR.ofBelow hb6 (by omega) (fun k hk=>by have:=hapl k hk;omega)).trans (fun k hk=>Below.heap_setCell _ _ _ _ (hne k hk)),⟨_,bV5.set _,by rw[HA.out];exact hN6⟩,(hB.trans (hb6.mono hB.size)).setCell (Nat.le_refl _) _,by simp;omega⟩
  ·rw[if_neg hk] at HA;have hk2:((kx:Int)==12)=false:=by rw[beq_eq_false_iff_ne];omega
   rw[show (kx:Int) - 8=(kx:Int) - 9+1 by omega] at HA
   have HN:=Ng (bT 33 ((kx:Int) - 9+1) [] [q,A] b _ _ (by simp;omega) (KSl.new2 (w:=W) (by omega) (.inl hux) (.inl hV)) (by simp;omega) (by simp))
   have hb0:=(Below.refl W.heap.size W).alloc (Nat.le_refl _) (.cells #[.slice (some ⟨gu,0,none⟩) q.length cu,.slice (some ⟨gv,0,none⟩) A.length cv] 26);gi_wp2_with fail
   refine ⟨trivial,(CallsIn.inRound l (callsIn_wide.2 HN.out)).mono ?_⟩;rintro e w5 ⟨v5,rfl,hN5,hb5⟩;have hb6:=aE hb0 hb5;obtain⟨g5,c5,rfl,-⟩:=id hN5;generalize hz:List.length (aC _ _ _ _)=z at hN5 ⊢;have cV5:=aF hb6 cV;have fV5:=kT hb6 cV fV;have hsz5:=hb6.size;have bV5:Boxed w5 w.heap.size 26 _:=(hb6.block _ bV.lt).trans bV;gi_wp2_with fail
   have hN6:NSl (w5.setCell ⟨w.heap.size,0,none⟩ (.slice (some ⟨g5,0,none⟩) z c5)) b (.slice (some ⟨g5,0,none⟩) z c5) _:=hN5.of_block fun g cur fz h4 _=>Below.heap_setCell _ _ _ _ (fun e=>by
    subst e;have h9:=h4.symm.trans bV5;injection h9 with h9
    injection h9 with _ h9 _
    exact absurd h9 (by decide))
   have hne:∀ k,(k=w.heap.size+1∨ap=some ⟨k,0,none⟩)→k≠w.heap.size:=fun k hk=>by
    rcases hk with hk | hk
    ·omega
    ·have:=hapl k hk
     omega
   exact⟨((KeepsOthers.ofBelow hb6).trans (KeepsOthers.setCell _ _ _)).from _,(cR.ofBelow hb6 (by omega) (fun k hk=>by have:=hapl k hk;omega)).trans (fun k hk=>Below.heap_setCell _ _ _ _ (hne k hk)),⟨_,bV5.set _,by rw[HA.out];exact hN6⟩,(hB.trans (hb6.mono hB.size)).setCell (Nat.le_refl _) _,by simp;omega⟩
 case done =>
  rintro D ys W hD rfl ⟨⟨v,bV,hV⟩,hB,hsW⟩ hK;rw[HALL.out] at hV;have cV:=bV.cell;gi_wp2
  refine ⟨by simp,.inl ⟨_,_,rfl,run_takeDeferred hK,?_⟩⟩
  refine ⟨_,results_tmp rfl _ _ _,_,rfl,hV.others (grownBy_putObj' W D _) (fun r e=>by cases e;exact⟨_,hK,rfl⟩),hB.trans ?_⟩
  exact belowK_b (w:=W0) (by omega) W D _ _ hD hK rfl rfl
 case stop =>
  rintro D c pre W _ _ h _;exact h.elim
end Go.Proofs.YtbpjobmpacjgcaaGreatDoor
