/- The document's parser of dialect B: words as one tree; turns. -/
import Derived.Test.YtbplbehhlbkklaaGreatDoorGZWord
import Derived.Test.YtbplbehhlbkklaaGreatDoorGZD
namespace Go.Proofs.YtbplbehhlbkklaaGreatDoor
open Go Go.RowKit
def ZDoesWs (b g cap:Nat) (ts:List BTok) (f0:Nat):Prop :=
 ∀ (w:World) (i d:Nat) (dz:Int) (f:Option (Nat×Nat)) (how:Nat),how≤1→(f=none→dz=(d:Int)∧d≤30)→i<ts.length→ZIn w b g cap ts i f→Hid (f=none→pWords ts f0 d i how []≠none)→Calls Tryz.prog 119 #[.pointer (some ⟨b,0,none⟩),.int .i64 dz,.bool (livB how)] w (ZOutW w b g cap ts i f (zS d - 10) ((pWords ts f0 d i how []).go fun l j=>pOk (catP l) j))
theorem cat_rel {ts:List BTok}{f0 d i k how:Nat}{f1:Option (Nat×Nat)}{L:List Prog}{X:PRes (List Prog)}(hd:d≤30)(h:WordsAt ts f0 d i how X (zS d - 11) k f1 L)(hr:WRes X f1 L k) :
  ZRelW i none (zS d - 10) (X.go fun l j=>pOk (catP l) j) k f1 (catP L):=by
 have hs:=h.size
 cases f1 with
 | some x =>
  rw[if_neg (by simp)] at hs
  rw[show X=some (.error x) from hr]
  refine ⟨rfl,?_⟩;unfold catP;split
  ·rename_i l
   simp only[List.flatten_cons,List.flatten_nil,List.append_nil,List.length_cons,List.length_nil] at hs;unfold zS at hs ⊢;omega
  ·rw[newP,List.length_cons];unfold zS at hs ⊢
   by_cases h0:L.length=0
   ·obtain rfl:L=[]:=List.length_eq_zero_iff.1 h0;simp
    omega
   ·omega
 | none =>
  rw[show X=some (.ok (L,k)) from hr]
  exact⟨rfl,rfl,rfl⟩
theorem cat_many {L:List Prog}(h:L.length≠1):catP L=newP 3 0 [] L:=by
 unfold catP;split
 ·exact absurd rfl h
 ·rfl
theorem tree_cat {L:List Prog}(h:∀ l∈L,Tree l):Tree (catP L):=by
 by_cases h1:L.length=1
 ·obtain⟨x,rfl⟩:∃ x,L=[x]:=List.length_eq_one_iff.1 h1;exact h x (by simp)
 ·rw[cat_many h1];exact .node _ _ _ _ h
section
variable {b g cap:Nat} {ts:List BTok}
set_option maxHeartbeats 16000000
set_option maxRecDepth 100000
theorem zwords_walk (F:ZFix cap ts)(f0:Nat)(hW:∀ f',f'<f0→ZDoesW b g cap ts f'):ZDoesWs b g cap ts f0:=by
 intro w i d dz f how hhow hdz hi hS hX;obtain⟨k0,hk0,hk1,hk2,hk3⟩:=info_parts infoNodes;have hbl:=hS.blt;have hgl:=hS.glt;have HW:=Lib.hid hW;clear hW
 cases f with
 | some x =>
  clear hdz hX;go_enter Tryz.func119,Tryz.ntmps119
  go_wp2_with fail
  go_loopg [7] 0 (fun m s7 wr=>m=0∧s7 = .slice none 0 0∧wr=w)
  case atStart=>exact⟨rfl,rfl,rfl⟩
  case round =>
   obtain⟨rfl,rfl,rfl⟩:=hrel;rename World=>w
   go_wp2_with fail
   refine (zitem_any F hS hi).mono ?_;rintro e w1 ⟨rfl,hb1⟩;have h1:=hS.below hb1;go_wp2_with fail
   refine (z12node_any 3 0 [] [] _ h1.blt (KSl.nil _ _) (by simp) (by simp)).mono ?_
   rintro e w2 ⟨v2,rfl,hN2,hb2⟩;obtain⟨g2,cp2,rfl,-⟩:=id hN2;go_wp2_with fail
   go_ret;exact ZOutW.mk rfl hN2 (Tree.leaf _ _ _) (h1.below hb2) (Nat.le_refl _) hi (Kept.ofBelow (bNext hb1 hb2)) ⟨rfl,by simp [newP]⟩
 | none =>
  obtain⟨rfl,hd⟩:=hdz rfl;obtain⟨X,hXE⟩:∃ X,pWords ts f0 d i how []=X:=⟨_,rfl⟩;have HXE:=Lib.hid hXE;have HXN:=Lib.hid (show X≠none from by rw[← hXE];exact hX.out rfl)
  rw[hXE];have HA0:=Lib.hid (show WordsAt ts f0 d i how X (zS d - 11) i none [] from by rw[← hXE];exact WordsAt.start hi)
  clear hX hdz hXE;go_enter Tryz.func119,Tryz.ntmps119
  go_wp2_with fail
  go_loopg [7] (ts.length - i+1) (fun m s7 wr=>∃ (k:Nat) (f1:Option (Nat×Nat)) (L:List Prog),m=(if f1=none then ts.length - k+1 else 0)∧KOwn wr w.heap.size b s7 L∧ZIn wr b g cap ts k f1∧Kept (At b) w wr∧Hid (WordsAt ts f0 d i how X (zS d - 11) k f1 L))
  case atStart=>exact⟨i,none,[],rfl,KOwn.nil _ _ _,hS,Kept.refl _ _,HA0⟩
  case round =>
   clear hS HA0;obtain⟨k,f1,L,rfl,hO,h4,hK4,HA⟩:=hrel;have hlt4:=HA.out.lt;have hle4:=HA.out.le;have hnum4:L.length≤1001:=by have h1:=HA.out.num;have:=F.few;split at h1 <;> omega
   obtain⟨ra,rc,rfl⟩:=hO.form;go_wp2_with fail
   refine (zitem_any F h4 hlt4).mono ?_;rintro e w5 ⟨rfl,hb5⟩;have h5:=h4.below hb5;have hO5:=hO.below hbl hb5;have hK5:=hK4.andBelow hb5;clear h4 hO hK4 hb5
   by_cases hit:(f1.isNone&&itemP ts k)=true
   ·rw[hit];obtain⟨rfl,fk,hfk,hne,hstep⟩:=WordsAt.more F HA.out HXN.out hit;have HST:=Lib.hid hstep;clear HA hit hstep;go_wp2_with fail
    refine (HW.out fk hfk w5 k d _ none how hhow (fun _=>⟨rfl,hd⟩) hlt4 h5 (Lib.hid fun _=>hne)).mono ?_
    rintro e w9 ⟨v9,l,k',f',rfl,hN9,hT9,h9,hle9,hlt9,hK9,hR9⟩;obtain⟨HA9,hmove⟩:=HST.out k' f' l hT9 hle9 hlt9 hR9;have HA9:=Lib.hid HA9;have HN:=Lib.hid hN9;obtain⟨g9,cp9,rfl,-⟩:=hN9;have hK59:=hK5.same hK9;have HO:=Lib.hid (hO5.kept hbl hK9);have hsz1:=hK59.size;clear h5 hO5 hK5 hK9 HST hR9 hne;obtain⟨us,u1,u2,u3⟩:=HO.out;have U1:=Lib.hid u1;have U2:=Lib.hid u2;have U3:=Lib.hid u3;have hOA:∀ o,(w9.alloc o).ownsRow w.heap.size 23 1 (.slice ra L.length rc) L.length us:=fun o=>ownsRow_kept U2.out (Kept.ofBelow (S:=Nowhere) ((Below.refl _ w9).alloc (Nat.le_refl _) o)) (fun _ _ _ e=>e)
    clear u1 u2 u3;go_wp2_with (at_builtin;refine wpList_append_own _ rfl _ _ 99 rfl w.heap.size 23 k0 _ 1 24 Tryz.underlying99 hk0 hk1 hk2 hk3 rfl (by decide) _ L.length _ rfl (hOA _) ⟨w9.heap.size,0,none⟩ 1 1 [.slice (some ⟨g9,0,none⟩) (l).length cp9] rfl rfl ?c1 ?c2 ?c3 ?c4 ?c5 ?_)
    case c1=>exact cells_new (by simp)
    case c2=>intro u9 hu9;simp at hu9;subst hu9;rfl
    case c3=>unfold maxLen;omega
    case c4=>omega
    case c5=>simp;omega
    intro v6 w6 hown' hgrow _;have hS6:=(h9).grown hgrow (row_tag U2.out (by decide)) hbl hgl
    obtain⟨hO6,hb6⟩:=KOwn.grown hsz1 U1.out U2.out U3.out HN.out hown' hgrow;clear hOA hown' hgrow U1 U2 U3;have hK6:=hK59.belowB hb6 (Nat.le_refl _);go_wp2_with fail
    go_roundg (if f'=none then ts.length - k'+1 else 0)
    case measure =>
     by_cases hf':f'=none
     ·rw[if_pos hf'];have:=hmove hf'
      omega
     ·rw[if_neg hf'];omega
    case rel=>exact⟨k',f',L++[l],rfl,hO6,hS6,hK6,HA9⟩
   ·have hit:(f1.isNone&&itemP ts k)=false:=by simpa using hit
    have hdone:=HA.out.done HXN.out hit;have HR:=Lib.hid (cat_rel hd HA.out hdone);have HTC:=Lib.hid (tree_cat HA.out.trees);have HSZ:=Lib.hid HA.out.size;have HNE:=Lib.hid (fun l hl=>(HA.out.trees l hl).pos)
    have HKS:=Lib.hid (hO5.ksl hbl);rw[hit]
    have HFL:=Lib.hid (show L.flatten.length≤90000 from by
     have h1:=HSZ.out;have:=F.few
     split at h1
     ·omega
     ·unfold zS at h1;omega)
    clear hdone hit HA HSZ hO5
    by_cases h1:L.length=1
    ·obtain⟨x,rfl⟩:∃ x,L=[x]:=List.length_eq_one_iff.1 h1;obtain⟨og,oc,u,e9,hoc,hu,hN⟩:=HKS.out.one (HNE.out x (by simp))
     injection e9 with e91 e92 e93
     subst e91 e93;clear e92 h1;simp only[List.length_cons,List.length_nil,Nat.zero_add] at hoc hnum4 ⊢;obtain⟨gu,cu,rfl,-⟩:=id hN;have HN:=Lib.hid hN;clear hN;go_wp2_with fail
     go_ret;exact ZOutW.mk rfl HN.out HTC.out h5 hle4 hlt4 hK5 HR.out
    ·have e1:((L.length:Int)==1)=false:=by rw[beq_eq_false_iff_ne];omega
     have HCM:=Lib.hid (cat_many h1);have HC:=Lib.hid (z12node_any 3 0 [] L _ h5.blt HKS.out (by have:=HFL.out;omega) (by omega))
     clear h1;generalize L.length=ll at *;go_wp2_with fail
     refine HC.out.mono ?_;rintro e w8 ⟨v8,rfl,hN8,hb8⟩;obtain⟨g8,cp8,rfl,-⟩:=id hN8;go_wp2_with fail
     go_ret;exact ZOutW.mk rfl (by rw[HCM.out];exact hN8) HTC.out (h5.below hb8) hle4 hlt4 (hK5.andBelow hb8) HR.out
end
end Go.Proofs.YtbplbehhlbkklaaGreatDoor

namespace Go.Proofs.YtbplbehhlbkklaaGreatDoor
set_option maxHeartbeats 16000000
set_option maxRecDepth 100000
open Go Go.RowKit
theorem infoZTurn:(Tryz.prog.info? 164).map (fun i=>(i.zero,i.size,i.bytes))=some (some (.agg #[.int .i64 0,.slice none 0 0]),2,32):=by kernel_rfl
def zmode (k:Nat):Nat:=(k - 10) % 4
def zm (t:Nat×Prog):Nat×Prog:=(zmode t.1,t.2)
def ZTOwn (w:World) (B b:Nat) (v:Value) (L:List (Nat×Prog)):Prop:=∃ us:List Value,us.length=L.length∧w.ownsRow B 164 2 v L.length (turnCells (L.map zm) us)∧∀ (i:Nat) (u:Value) (t:Nat×Prog),us[i]?=some u→L[i]?=some t→NSl w b u t.2
theorem ZTOwn.nil (w:World)(B b:Nat):ZTOwn w B b (.slice none 0 0) []:=⟨[],rfl,World.ownsRow_nil _ _ _ _,fun i u l h=>by simp at h⟩
theorem ZTOwn.kept {w w':World}{B b:Nat}{v:Value}{L:List (Nat×Prog)}(h:ZTOwn w B b v L)(hb:b<B)(hk:Kept (At b) w w'):ZTOwn w' B b v L:=by
 obtain⟨us,h1,h2,h3⟩:=h;exact⟨us,h1,ownsRow_kept h2 hk (fun k hk _ e=>by unfold At at e;omega),fun i u l hu hl=>(h3 i u l hu hl).kept hk⟩
theorem ZTOwn.below {w w':World}{B b:Nat}{v:Value}{L:List (Nat×Prog)}(h:ZTOwn w B b v L)(hb:b<B)(hk:Below w.heap.size w w'):ZTOwn w' B b v L:=h.kept hb (.ofBelow hk)
theorem ZTOwn.form {w:World}{B b:Nat}{v:Value}{L:List (Nat×Prog)}(h:ZTOwn w B b v L):∃ ao cap,v = .slice ao L.length cap:=by
 obtain⟨us,h1,h2,_⟩:=h
 rcases h2.2 with ⟨hv,h0⟩ | ⟨g,cap,cur,hv,_⟩
 ·exact⟨none,0,by rw[hv,h0]⟩
 ·exact⟨_,_,hv⟩
def ZTSl (w:World) (b:Nat) (v:Value) (L:List (Nat×Prog)):Prop:=∃ ao cap,v = .slice ao L.length cap∧L.length≤cap∧cap≤maxLen ∧
 (0<L.length→∃ g,ao=some ⟨g,0,none⟩∧g<w.heap.size∧∀ (i:Nat) (t:Nat×Prog),L[i]?=some t→∃ u,w.cell? ⟨g,i * 2,none⟩=some (.int .i64 (zmode t.1:Nat))∧w.cell? ⟨g,i * 2+1,none⟩=some u∧NSl w b u t.2)
theorem ZTOwn.tsl {w:World}{B b:Nat}{v:Value}{L:List (Nat×Prog)}(h:ZTOwn w B b v L):ZTSl w b v L:=by
 obtain⟨us,h1,h2,h3⟩:=h
 by_cases hl:0<L.length
 ·obtain⟨g,cap,q1,q2,q3,q4,q5,q6⟩:=row_cell h2 hl;refine ⟨_,cap,q1,q2,q3,fun _=>⟨g,rfl,q5,fun i t hi=>?_⟩⟩
  have hil:=(List.getElem?_eq_some_iff.1 hi).1;have hu:us[i]?=some us[i]:=List.getElem?_eq_getElem (by omega)
  obtain⟨c1,c2⟩:=turnCells_get (L.map zm) us i (zm t) _ (by rw[List.getElem?_map,hi];rfl) hu
  exact⟨_,q6 _ _ c1,q6 _ _ c2,h3 i _ t hu hi⟩
 ·have h0:L=[]:=List.length_eq_zero_iff.1 (by omega)
  subst h0
  rcases h2.2 with ⟨hv,_⟩ | ⟨g,cap,cur,hv,_,_,q1,q2,_⟩
  ·exact⟨none,0,hv,Nat.le_refl _,Nat.zero_le _,fun h=>absurd h (by simp)⟩
  ·exact⟨_,cap,hv,q1,q2,fun h=>absurd h (by simp)⟩
theorem ZTOwn.grown {w0 w w':World}{b:Nat}{v v':Value}{L:List (Nat×Prog)}{t:Nat×Prog}{u:Value}{us:List Value}{o:Obj}(hs:w0.heap.size≤w.heap.size)(h1:us.length=L.length)(h2:w.ownsRow w0.heap.size 164 2 v L.length (turnCells (L.map zm) us))(h3:∀ (i:Nat)(u:Value)(t:Nat×Prog),us[i]?=some u→L[i]?=some t→NSl w b u t.2)(hu:NSl w b u t.2)
  (hown:w'.ownsRow w0.heap.size 164 2 v' (L.length+1) (turnCells (L.map zm) us++[.int .i64 (zmode t.1:Nat),u])) (hg:(w.alloc o).grownBy w' v.ownBlock):ZTOwn w' w0.heap.size b v' (L++[t])∧Below w0.heap.size w w':=by
 have hb1:=(Below.refl w.heap.size w).alloc (Nat.le_refl _) o
 have hrow:∀ k,v.ownBlock=some k→∃ cur fz t,(w.alloc o).heap[k]?=some (.cells cur t fz)∧t≠67:=fun k hk=>by
  obtain⟨cur,fz,e⟩:=ownsRow_tag h2 k hk;exact⟨cur,fz,164,(hb1.block k (lt_of_block e)).trans e,by decide⟩
 have hlt:=World.ownsRow.lt h2;have hsame:∀ x l,NSl w b x l→NSl w' b x l:=fun x l hx=>(hx.below hb1).grown hg hrow
 refine ⟨⟨us++[u],by simp [h1],?_,fun i x y hx hy=>?_⟩,?_⟩
 ·rw[List.map_append,show [t].map zm=[zm t] from rfl,turnCells_snoc (L.map zm) us (zm t) u (by rw[List.length_map];exact h1),List.length_append]
  exact hown
 ·by_cases hi:i<us.length
  ·rw[List.getElem?_append_left hi] at hx;rw[List.getElem?_append_left (by omega)] at hy
   exact hsame _ _ (h3 i x y hx hy)
  ·rw[List.getElem?_append_right (by omega)] at hx hy
   obtain⟨k,hk⟩:∃ k,i - us.length=k:=⟨_,rfl⟩;have hk2:i - L.length=k:=by omega
   rw[hk] at hx;rw[hk2] at hy
   cases k with
   | zero =>
    cases hx
    cases hy
    exact hsame _ _ hu
   | succ k=>simp at hx
 ·exact (hb1.mono hs).trans ((Kept.grown (S:=fun k=>some k=v.ownBlock) (Kept.refl _ _) hg (fun k h _=>h.symm)).below (by simp;omega) (fun i hi e=>by have:=hlt _ e.symm;omega))
theorem around_step {L:List (Nat×Prog)}{c:Prog}{k:Nat}{t:Nat×Prog}(h:L[k]?=some t):aroundP (L.drop k) c=if t.1=14 then newP 34 0 [] [t.2,aroundP (L.drop (k+1)) c] else newP 33 ((t.1:Int) - 10) [] [t.2,aroundP (L.drop (k+1)) c]:=by
 obtain⟨hk,e⟩:=List.getElem?_eq_some_iff.1 h;rw[List.drop_eq_getElem_cons hk,e];rfl
theorem drop_len (L:List (Nat×Prog))(k:Nat):turnsLen (L.drop k)≤turnsLen L:=by
 have h:turnsLen L=turnsLen (L.take k)+turnsLen (L.drop k):=by
  unfold turnsLen;rw[← List.sum_append,← List.map_append,List.take_append_drop]
 omega
theorem tree_around {c:Prog}(hc:Tree c):∀ L:List (Nat×Prog),(∀ t∈L,Tree t.2)→Tree (aroundP L c)
 | [],_=>hc
 | t :: L,h=>by
  have h1:=tree_around hc L fun x hx=>h x (by simp [hx])
  show Tree (if t.1=14 then _ else _)
  split
  ·exact Tree.two (h t (by simp)) h1
  ·exact Tree.two (h t (by simp)) h1
def KindsT (L:List (Nat×Prog)):Prop:=∀ t∈L,t.1=11∨t.1=12∨t.1=13∨t.1=14
theorem z12around_any (L:List (Nat×Prog))(c:Prog)(b:Nat)(v vc:Value)(w:World)(hb:b<w.heap.size)(hT:ZTSl w b v L)(hc:NSl w b vc c)(hcl:c.length+turnsLen L≤1000000)(hL:L.length≤100000)(hk:KindsT L)(_hp:∀ t∈L,0<t.2.length) :
  Calls Tryz.prog 139 #[v,vc] w fun e w'=>∃ v',e = .returned v'∧NSl w' b v' (aroundP L c)∧Below w.heap.size w w':=by
 obtain⟨ao,cap,rfl,h1,h2,h3⟩:=hT;have H3:=Lib.hid h3;have HK:=Lib.hid hk;obtain⟨N,hN⟩:∃ N,L.length=N:=⟨_,rfl⟩;have HN:=Lib.hid hN;rw[hN] at h1 hL ⊢;have H0:=Lib.hid (show NSl w b vc (aroundP (L.drop N) c) from by rw[List.drop_of_length_le (by omega)];exact hc)
 have HD:=Lib.hid (drop_len L);obtain⟨gc,cc,rfl,-⟩:=id hc;have HA:=Lib.hid (show ∀ k,(aroundP (L.drop k) c).length≤1000000 from fun k=>by have h4:=(around_len (L.drop k) c).1;have h5:=drop_len L k;omega)
 have hwN:IntKind.i64.wrap ((N:Int) - 1)=(N:Int) - 1:=by rw[IntKind.wrap_i64];omega
 clear h3 hk hN hc;generalize c.length=cl at *;go_enter Tryz.func139,Tryz.ntmps139
 go_wp2_with fail
 go_loopg [1,5] N (fun m s1 s5 wr=>∃ (k:Nat) (v9:Value),k=m∧k≤N∧s1=v9∧NSl wr b v9 (aroundP (L.drop k) c)∧s5 = .int .i64 ((k:Int) - 1)∧Below w.heap.size w wr)
 case atStart=>exact⟨N,_,rfl,Nat.le_refl _,rfl,H0.out,rfl,Below.refl _ _⟩
 case round =>
  obtain⟨k,v9,rfl,hk,rfl,hv,rfl,hbr⟩:=hrel;have HV:=Lib.hid hv;obtain⟨gv,cv,rfl,-⟩:=id hv;clear hv H0
  by_cases h0:0<k
  ·obtain⟨q,rfl⟩:∃ q,k=q+1:=⟨k - 1,by omega⟩
   have hkk:((q+1:Nat):Int) - 1=(q:Int):=by omega
   rw[hkk];obtain⟨t,ht⟩:∃ t,L[q]?=some t:=⟨_,List.getElem?_eq_getElem (by have:=HN.out;omega)⟩
   have HST:=Lib.hid (around_step (c:=c) ht);have htm:=List.mem_of_getElem? ht;have hkd:=HK.out t htm;obtain⟨g,rfl,hg1,hg2⟩:=H3.out (by have:=HN.out;omega)
   obtain⟨u,u1,u2,u3⟩:=hg2 q t ht;replace u1:=bSome hbr u1;replace u2:=bSome hbr u2;have HU:=Lib.hid (u3.below hbr);obtain⟨gu,cu,rfl,-⟩:=u3;have hbr9:b<wr.heap.size:=Nat.lt_of_lt_of_le hb hbr.size;have hla:=HA.out (q+1)
   have hlt:t.2.length≤1000000:=by
    have h4:=HA.out q;rw[HST.out] at h4;split at h4
    ·rw[newP,List.length_cons] at h4;simp only[List.flatten_cons,List.flatten_nil,List.append_nil,List.length_append] at h4;omega
    ·rw[newP,List.length_cons] at h4;simp only[List.flatten_cons,List.flatten_nil,List.append_nil,List.length_append] at h4;omega
   have hwq:IntKind.i64.wrap ((q:Int) - 1)=(q:Int) - 1:=by rw[IntKind.wrap_i64];omega
   have hKS:=Lib.hid (fun (w9:World) (h9:b<w9.heap.size) (h8:NSl w9 b (.slice (some ⟨gu,0,none⟩) t.2.length cu) t.2) (h7:NSl w9 b (.slice (some ⟨gv,0,none⟩) (aroundP (L.drop (q+1)) c).length cv) (aroundP (L.drop (q+1)) c))=>KSl.new2 (w:=w9) h9 (.inl h8) (.inl h7))
   have HNB:=Lib.hid (show ∀ kd n:Int,Calls Tryz.prog 52 #[.int .i64 kd,.int .i64 n,.string (bs []),.slice (some ⟨wr.heap.size,0,none⟩) 2 2] (wr.alloc (.cells #[.slice (some ⟨gu,0,none⟩) t.2.length cu,.slice (some ⟨gv,0,none⟩) (aroundP (L.drop (q+1)) c).length cv] 23)) fun e w'=>∃ v',e = .returned v'∧NSl w' b v' (newP kd n [] [t.2,aroundP (L.drop (q+1)) c])∧Below wr.heap.size wr w' from fun kd n=>by
    refine (z12node_any kd n [] [t.2,aroundP (L.drop (q+1)) c] _ (by simp;omega) (hKS.out wr hbr9 HU.out HV.out) (by simp;omega) (by simp)).mono ?_
    rintro e w' ⟨v',rfl,q1,q2⟩;exact⟨v',rfl,q1,bNextW q2⟩)
   have HNBd:=Lib.hid (show ∀ kd n:Int,Calls Tryz.prog 52 #[.int .i64 kd,.int .i64 n,.string (bs []),.slice (some ⟨wr.heap.size,0,none⟩) 2 2] ((wr.alloc (.cells #[.slice (some ⟨gu,0,none⟩) t.2.length cu,.slice (some ⟨gv,0,none⟩) (aroundP (L.drop (q+1)) c).length cv] 23)).drew) fun e w'=>∃ v',e = .returned v'∧NSl w' b v' (newP kd n [] [t.2,aroundP (L.drop (q+1)) c])∧Below wr.heap.size wr w' from fun kd n=>by
    refine (z12node_any kd n [] [t.2,aroundP (L.drop (q+1)) c] _ (by simp;omega) ((hKS.out wr hbr9 HU.out HV.out).below (Below.refl _ _).drew) (by simp;omega) (by simp)).mono ?_
    rintro e w' ⟨v',rfl,q1,q2⟩;exact⟨v',rfl,q1,bNext (((Below.refl wr.heap.size wr).alloc (Nat.le_refl _) _).drew) q2⟩)
   clear ht htm hKS hkk;generalize (aroundP (L.drop (q+1)) c).length=al at *;obtain⟨tk,tp⟩:=t;dsimp only at u1 u2 HU HST HNB HNBd hlt hkd;generalize tp.length=tl at *
   rcases hkd with rfl | rfl | rfl | rfl
   ·-- a turn of kind 11,number 1
    have HX:=Lib.hid (show aroundP (L.drop q) c=newP 33 1 [] [tp,aroundP (L.drop (q+1)) c] from by rw[HST.out];rfl)
    have u1':wr.cell? ⟨g,q * 2,none⟩=some (.int .i64 1):=u1;clear u1 HST;have e0:((1:Int)==0)=false:=by decide
    have hq0:(0:Int)≤(q:Int):=by omega
    have hq1:(q:Int)<(N:Int):=by omega
    go_upto_region 6 with fail
    go_region_held3 (fun w'=>w'.cell? ⟨g,q * 2,none⟩=some (.int .i64 1)∧w'.cell? ⟨g,q * 2+1,none⟩=some (.slice (some ⟨gu,0,none⟩) tl cu)) (first | exact⟨bSome hb9 u1',bSome hb9 u2⟩ | go_keep) (first | (go_at_call 52;(refine (HNBd.out 33 1).mono ?_);rintro e w9 ⟨v9,rfl,hN9,hb9⟩;obtain⟨g9,c9,rfl,-⟩:=id hN9))
    all_goals (go_wp2_with fail)
    all_goals go_roundg q
    all_goals first
     | omega
     | exact⟨q,_,rfl,by omega,rfl,by rw[HX.out];exact hN9,by go_num,bNext hbr hb9⟩
   ·-- a turn of kind 12,number 2
    have HX:=Lib.hid (show aroundP (L.drop q) c=newP 33 2 [] [tp,aroundP (L.drop (q+1)) c] from by rw[HST.out];rfl)
    have u1':wr.cell? ⟨g,q * 2,none⟩=some (.int .i64 2):=u1;clear u1 HST;have e0:((2:Int)==0)=false:=by decide
    have hq0:(0:Int)≤(q:Int):=by omega
    have hq1:(q:Int)<(N:Int):=by omega
    go_upto_region 6 with fail
    go_region_held3 (fun w'=>w'.cell? ⟨g,q * 2,none⟩=some (.int .i64 2)∧w'.cell? ⟨g,q * 2+1,none⟩=some (.slice (some ⟨gu,0,none⟩) tl cu)) (first | exact⟨bSome hb9 u1',bSome hb9 u2⟩ | go_keep) (first | (go_at_call 52;(refine (HNBd.out 33 2).mono ?_);rintro e w9 ⟨v9,rfl,hN9,hb9⟩;obtain⟨g9,c9,rfl,-⟩:=id hN9))
    all_goals (go_wp2_with fail)
    all_goals go_roundg q
    all_goals first
     | omega
     | exact⟨q,_,rfl,by omega,rfl,by rw[HX.out];exact hN9,by go_num,bNext hbr hb9⟩
   ·-- a turn of kind 13,number 3
    have HX:=Lib.hid (show aroundP (L.drop q) c=newP 33 3 [] [tp,aroundP (L.drop (q+1)) c] from by rw[HST.out];rfl)
    have u1':wr.cell? ⟨g,q * 2,none⟩=some (.int .i64 3):=u1;clear u1 HST;have e0:((3:Int)==0)=false:=by decide
    have hq0:(0:Int)≤(q:Int):=by omega
    have hq1:(q:Int)<(N:Int):=by omega
    go_upto_region 6 with fail
    go_region_held3 (fun w'=>w'.cell? ⟨g,q * 2,none⟩=some (.int .i64 3)∧w'.cell? ⟨g,q * 2+1,none⟩=some (.slice (some ⟨gu,0,none⟩) tl cu)) (first | exact⟨bSome hb9 u1',bSome hb9 u2⟩ | go_keep) (first | (go_at_call 52;(refine (HNBd.out 33 3).mono ?_);rintro e w9 ⟨v9,rfl,hN9,hb9⟩;obtain⟨g9,c9,rfl,-⟩:=id hN9))
    all_goals (go_wp2_with fail)
    all_goals go_roundg q
    all_goals first
     | omega
     | exact⟨q,_,rfl,by omega,rfl,by rw[HX.out];exact hN9,by go_num,bNext hbr hb9⟩
   ·have HX:=Lib.hid (show aroundP (L.drop q) c=newP 34 0 [] [tp,aroundP (L.drop (q+1)) c] from by rw[HST.out];rfl)
    have u1':wr.cell? ⟨g,q * 2,none⟩=some (.int .i64 0):=u1;clear u1 HST;go_wp2_with fail
    refine (HNB.out 34 0).mono ?_;rintro e w9 ⟨v9,rfl,hN9,hb9⟩;obtain⟨g9,c9,rfl,-⟩:=id hN9;go_wp2_with fail
    go_roundg q
    case measure=>omega
    case rel=>exact⟨q,_,rfl,by omega,rfl,by rw[HX.out];exact hN9,by go_num,bNext hbr hb9⟩
  ·obtain rfl:k=0:=by omega
   go_wp2_with fail
   go_ret;exact⟨_,rfl,HV.out,hbr⟩
end Go.Proofs.YtbplbehhlbkklaaGreatDoor

namespace Go.Proofs.YtbplbehhlbkklaaGreatDoor
open Go Go.RowKit
theorem NSl.setOther {w:World}{b G j:Nat}{v u:Value}{l:Prog}(h:NSl w b v l)(hG:∃ cs fz t,w.heap[G]?=some (.cells cs t fz)∧t≠67):NSl (w.setCell ⟨G,j,none⟩ u) b v l:=h.of_block fun g cur fz h4 _=>by
 refine Below.heap_setCell _ _ _ _ (fun e=>?_)
 obtain⟨cs,fz2,t,h5,h6⟩:=hG;rw[show g=G from e] at h4
 rw[h4] at h5;injection h5 with h5
 injection h5 with _ h7 _
 exact h6 h7.symm
theorem ZIn.setOther {w:World}{b g cap G j:Nat}{ts:List BTok}{i:Nat}{f:Option (Nat×Nat)}{u:Value}(h:ZIn w b g cap ts i f)(hG:∃ cs fz t,w.heap[G]?=some (.cells cs t fz)∧t≠3)(hb:b≠G)(hg:g≠G):ZIn (w.setCell ⟨G,j,none⟩ u) b g cap ts i f:=by
 have hblk:∀ k,k≠G→(w.setCell ⟨G,j,none⟩ u).heap[k]?=w.heap[k]?:=fun k hk=>Below.heap_setCell _ _ _ _ hk
 obtain⟨cd,fa,h1,h2⟩:=h;refine ⟨cd,fa,⟨h1.here.of_heap (hblk b hb),fun k a ha j u hu=>(World.cell?_of_block (w:=w) (hblk g hg)).trans (h1.row k a ha j u hu),h1.ne,by simpa [World.setCell] using h1.glt⟩,?_⟩
 cases f with
 | none=>exact h2
 | some x =>
  obtain⟨q1,q2,q3,q4,fb,q5,q6,q7⟩:=h2;refine ⟨q1,q2,q3,q4,fb,q5,q6,(hblk fb (fun e=>?_)).trans q7⟩
  obtain⟨cs,fz2,t,h5,h6⟩:=hG;rw[e,h5] at q7;injection q7 with q7
  injection q7 with _ h7 _
  exact h6 h7
theorem tag_set {w:World}{G j:Nat}{u:Value}{cs:Array Value}{t:TypeId}(h:w.heap[G]?=some (.cells cs t (0,0))):∃ cs',(w.setCell ⟨G,j,none⟩ u).heap[G]?=some (.cells cs' t (0,0)):=by
 have hlt:=lt_of_block h;have h':w.heap[G] = .cells cs t (0,0):=by simpa [Array.getElem?_eq_getElem hlt] using h
 refine ⟨cs.setIfInBounds j u,?_⟩;show (w.heap.modify G _)[G]?=_
 rw[Array.getElem?_eq_getElem (by simpa using hlt),Array.getElem_modify_self,h']
 simp
theorem snoc_any {α:Type}{P:α→Prop}{l:List α}{x:α}(h:∀ y∈l,P y)(hx:P x):∀ y∈l++[x],P y:=fun y hy=>by
 rcases List.mem_append.1 hy with hy | hy
 ·exact h y hy
 ·rw[List.mem_singleton] at hy;subst hy;exact hx
def ZDoesTn (b g cap:Nat) (ts:List BTok) (f0:Nat):Prop :=
 ∀ (w:World) (i d:Nat),d≤30→i<ts.length→turningP ts i=true→ZIn w b g cap ts i none→Hid (pWord ts f0 d (skP ts i) 0≠none)→Calls Tryz.prog 138 #[.pointer (some ⟨b,0,none⟩),.int .i64 d] w fun e w'=>∃ v l i' f',e = .returned (.agg #[.int .i64 (zmode (tkAt ts i).kind:Nat),v])∧NSl w' b v l∧Tree l∧ZIn w' b g cap ts i' f'∧skP ts i≤i'∧i'<ts.length∧Kept (At b) w w'∧ZRelW (skP ts i) none (zS d - 11) (pWord ts f0 d (skP ts i) 0) i' f' l
section
variable {b g cap:Nat} {ts:List BTok}
set_option maxHeartbeats 16000000
set_option maxRecDepth 100000
theorem zturn_walk (F:ZFix cap ts)(f0:Nat)(hW:ZDoesW b g cap ts f0):ZDoesTn b g cap ts f0:=by
 intro w i d hd hi hit hS hX;have hf0:=ztok_f0;have hkd:=turning_kind hit;have hbl:=hS.blt;have hgl:=hS.glt;obtain⟨hsk,hi1⟩:=skP_eq F.T.fix.good hi (by omega)
 rw[hsk] at hX ⊢;have HSK:=Lib.hid hsk;have HX:=Lib.hid hX.out;have HW:=Lib.hid hW;clear hX hW hit hsk;obtain⟨tk,htk⟩:∃ tk,(tkAt ts i).kind=tk:=⟨_,rfl⟩;have HTK:=Lib.hid htk;rw[htk] at hkd ⊢;clear htk;obtain⟨G,hG⟩:∃ G,w.heap.size=G:=⟨_,rfl⟩;have hS1:ZIn (w.alloc (.cells #[.int .i64 0,.slice none 0 0] 164)) b g cap ts i none:=hS.below ((Below.refl _ _).alloc (Nat.le_refl _) _);have hG1:(w.alloc (.cells #[.int .i64 0,.slice none 0 0] 164)).heap[G]?=some (.cells #[.int .i64 0,.slice none 0 0] 164 (0,0)):=by rw[← hG];exact heap_new _
 have hK1:Kept (At b) w (w.alloc (.cells #[.int .i64 0,.slice none 0 0] 164)):=(Kept.refl _ _).alloc _;go_enter Tryz.func138,Tryz.ntmps138
 go_wp2_with fail
 refine (znow_any F hS1 hi).mono ?_;rintro e w2 ⟨rfl,hb2⟩;have hS2:=hS1.below hb2;have hG2:=(hb2.block G (lt_of_block hG1)).trans hG1;have hK2:=hK1.andBelow hb2;unfold BTok.cells;rw[HTK.out];clear hS hS1 hG1 hK1 hb2
 rcases hkd with rfl | rfl | rfl | rfl
 ·go_wp2_with fail
  refine (znext_any F hS2 hi).mono ?_;rw[HSK.out];rintro e w3 ⟨rfl,hS3,hK3⟩;have hG3:=(hK3.block G (lt_of_block hG2) (by show ¬ G=b;omega)).trans hG2
  have hK23:=hK2.same hK3;clear hS2 hG2 hK2 hK3;go_wp2_with fail
  refine (HW.out w3 (i+1) d _ none 0 (by omega) (fun _=>⟨rfl,hd⟩) hi1 hS3 (Lib.hid fun _=>HX.out)).mono ?_
  rintro e w4 ⟨v,l,i',f',rfl,hN4,hT4,hS4,hle4,hlt4,hK4,hR4⟩;have hG4:=(hK4.block G (lt_of_block hG3) (by show ¬ G=b;omega)).trans hG3
  have hK24:=hK23.same hK4;obtain⟨g4,c4,rfl,-⟩:=id hN4;have HN4:=Lib.hid hN4;have hB4:Blk w4 G [.int .i64 0,.slice none 0 0]:=⟨_,hG4⟩;have d0:=hB4.cell 0 rfl;have d1:=hB4.cell 1 rfl;have e0:=hB4.free 0;have e1:=hB4.free 1;have HG4:=Lib.hid hG4;have HB4:=Lib.hid hB4;clear hS3 hG3 hK23 hK4 hN4 hG4 hB4;go_wp2_with fail
  (try simp only[Exit.inBlock,Exit.then])
  refine bodyPost_ret (results_blk1 (p:=4) (g:=G) (cs:=[.int .i64 1,.slice (some ⟨g4,0,none⟩) l.length c4]) rfl _ _ _ rfl ?_ Tryz.underlying164 rfl (by kernel_rfl)) rfl ?_
  ·exact (HB4.out.set 0 _).set 1 _
  ·obtain⟨cs',hG5⟩:=tag_set (j:=0) (u:=.int .i64 1) HG4.out;exact⟨_,l,i',f',rfl,(HN4.out.setOther ⟨_,_,_,HG4.out,by decide⟩).setOther ⟨_,_,_,hG5,by decide⟩,hT4,(hS4.setOther ⟨_,_,_,HG4.out,by decide⟩ (by omega) (by omega)).setOther ⟨_,_,_,hG5,by decide⟩ (by omega) (by omega),hle4,hlt4,Kept.setCell (S:=At b) (p:=⟨G,1,none⟩) (Kept.setCell (S:=At b) (p:=⟨G,0,none⟩) hK24 (fun h=>absurd (show G<w.heap.size from h) (by omega)) _) (fun h=>absurd (show G<w.heap.size from h) (by omega)) _,hR4⟩
 ·go_wp2_with fail
  refine (znext_any F hS2 hi).mono ?_;rw[HSK.out];rintro e w3 ⟨rfl,hS3,hK3⟩;have hG3:=(hK3.block G (lt_of_block hG2) (by show ¬ G=b;omega)).trans hG2
  have hK23:=hK2.same hK3;clear hS2 hG2 hK2 hK3;go_wp2_with fail
  refine (HW.out w3 (i+1) d _ none 0 (by omega) (fun _=>⟨rfl,hd⟩) hi1 hS3 (Lib.hid fun _=>HX.out)).mono ?_
  rintro e w4 ⟨v,l,i',f',rfl,hN4,hT4,hS4,hle4,hlt4,hK4,hR4⟩;have hG4:=(hK4.block G (lt_of_block hG3) (by show ¬ G=b;omega)).trans hG3
  have hK24:=hK23.same hK4;obtain⟨g4,c4,rfl,-⟩:=id hN4;have HN4:=Lib.hid hN4;have hB4:Blk w4 G [.int .i64 0,.slice none 0 0]:=⟨_,hG4⟩;have d0:=hB4.cell 0 rfl;have d1:=hB4.cell 1 rfl;have e0:=hB4.free 0;have e1:=hB4.free 1;have HG4:=Lib.hid hG4;have HB4:=Lib.hid hB4;clear hS3 hG3 hK23 hK4 hN4 hG4 hB4;go_wp2_with fail
  (try simp only[Exit.inBlock,Exit.then])
  refine bodyPost_ret (results_blk1 (p:=4) (g:=G) (cs:=[.int .i64 2,.slice (some ⟨g4,0,none⟩) l.length c4]) rfl _ _ _ rfl ?_ Tryz.underlying164 rfl (by kernel_rfl)) rfl ?_
  ·exact (HB4.out.set 0 _).set 1 _
  ·obtain⟨cs',hG5⟩:=tag_set (j:=0) (u:=.int .i64 2) HG4.out;exact⟨_,l,i',f',rfl,(HN4.out.setOther ⟨_,_,_,HG4.out,by decide⟩).setOther ⟨_,_,_,hG5,by decide⟩,hT4,(hS4.setOther ⟨_,_,_,HG4.out,by decide⟩ (by omega) (by omega)).setOther ⟨_,_,_,hG5,by decide⟩ (by omega) (by omega),hle4,hlt4,Kept.setCell (S:=At b) (p:=⟨G,1,none⟩) (Kept.setCell (S:=At b) (p:=⟨G,0,none⟩) hK24 (fun h=>absurd (show G<w.heap.size from h) (by omega)) _) (fun h=>absurd (show G<w.heap.size from h) (by omega)) _,hR4⟩
 ·go_wp2_with fail
  refine (znext_any F hS2 hi).mono ?_;rw[HSK.out];rintro e w3 ⟨rfl,hS3,hK3⟩;have hG3:=(hK3.block G (lt_of_block hG2) (by show ¬ G=b;omega)).trans hG2
  have hK23:=hK2.same hK3;clear hS2 hG2 hK2 hK3;go_wp2_with fail
  refine (HW.out w3 (i+1) d _ none 0 (by omega) (fun _=>⟨rfl,hd⟩) hi1 hS3 (Lib.hid fun _=>HX.out)).mono ?_
  rintro e w4 ⟨v,l,i',f',rfl,hN4,hT4,hS4,hle4,hlt4,hK4,hR4⟩;have hG4:=(hK4.block G (lt_of_block hG3) (by show ¬ G=b;omega)).trans hG3
  have hK24:=hK23.same hK4;obtain⟨g4,c4,rfl,-⟩:=id hN4;have HN4:=Lib.hid hN4;have hB4:Blk w4 G [.int .i64 0,.slice none 0 0]:=⟨_,hG4⟩;have d0:=hB4.cell 0 rfl;have d1:=hB4.cell 1 rfl;have e0:=hB4.free 0;have e1:=hB4.free 1;have HG4:=Lib.hid hG4;have HB4:=Lib.hid hB4;clear hS3 hG3 hK23 hK4 hN4 hG4 hB4;go_wp2_with fail
  (try simp only[Exit.inBlock,Exit.then])
  refine bodyPost_ret (results_blk1 (p:=4) (g:=G) (cs:=[.int .i64 3,.slice (some ⟨g4,0,none⟩) l.length c4]) rfl _ _ _ rfl ?_ Tryz.underlying164 rfl (by kernel_rfl)) rfl ?_
  ·exact (HB4.out.set 0 _).set 1 _
  ·obtain⟨cs',hG5⟩:=tag_set (j:=0) (u:=.int .i64 3) HG4.out;exact⟨_,l,i',f',rfl,(HN4.out.setOther ⟨_,_,_,HG4.out,by decide⟩).setOther ⟨_,_,_,hG5,by decide⟩,hT4,(hS4.setOther ⟨_,_,_,HG4.out,by decide⟩ (by omega) (by omega)).setOther ⟨_,_,_,hG5,by decide⟩ (by omega) (by omega),hle4,hlt4,Kept.setCell (S:=At b) (p:=⟨G,1,none⟩) (Kept.setCell (S:=At b) (p:=⟨G,0,none⟩) hK24 (fun h=>absurd (show G<w.heap.size from h) (by omega)) _) (fun h=>absurd (show G<w.heap.size from h) (by omega)) _,hR4⟩
 ·go_wp2_with fail
  refine (znext_any F hS2 hi).mono ?_;rw[HSK.out];rintro e w3 ⟨rfl,hS3,hK3⟩;have hG3:=(hK3.block G (lt_of_block hG2) (by show ¬ G=b;omega)).trans hG2
  have hK23:=hK2.same hK3;clear hS2 hG2 hK2 hK3;go_wp2_with fail
  refine (HW.out w3 (i+1) d _ none 0 (by omega) (fun _=>⟨rfl,hd⟩) hi1 hS3 (Lib.hid fun _=>HX.out)).mono ?_
  rintro e w4 ⟨v,l,i',f',rfl,hN4,hT4,hS4,hle4,hlt4,hK4,hR4⟩;have hG4:=(hK4.block G (lt_of_block hG3) (by show ¬ G=b;omega)).trans hG3
  have hK24:=hK23.same hK4;obtain⟨g4,c4,rfl,-⟩:=id hN4;have HN4:=Lib.hid hN4;have hB4:Blk w4 G [.int .i64 0,.slice none 0 0]:=⟨_,hG4⟩;have d0:=hB4.cell 0 rfl;have d1:=hB4.cell 1 rfl;have e0:=hB4.free 0;have e1:=hB4.free 1;have HG4:=Lib.hid hG4;have HB4:=Lib.hid hB4;clear hS3 hG3 hK23 hK4 hN4 hG4 hB4;go_wp2_with fail
  (try simp only[Exit.inBlock,Exit.then])
  refine bodyPost_ret (results_blk1 (p:=4) (g:=G) (cs:=[.int .i64 0,.slice (some ⟨g4,0,none⟩) l.length c4]) rfl _ _ _ rfl ?_ Tryz.underlying164 rfl (by kernel_rfl)) rfl ?_
  ·exact (HB4.out.set 0 _).set 1 _
  ·obtain⟨cs',hG5⟩:=tag_set (j:=0) (u:=.int .i64 0) HG4.out;exact⟨_,l,i',f',rfl,(HN4.out.setOther ⟨_,_,_,HG4.out,by decide⟩).setOther ⟨_,_,_,hG5,by decide⟩,hT4,(hS4.setOther ⟨_,_,_,HG4.out,by decide⟩ (by omega) (by omega)).setOther ⟨_,_,_,hG5,by decide⟩ (by omega) (by omega),hle4,hlt4,Kept.setCell (S:=At b) (p:=⟨G,1,none⟩) (Kept.setCell (S:=At b) (p:=⟨G,0,none⟩) hK24 (fun h=>absurd (show G<w.heap.size from h) (by omega)) _) (fun h=>absurd (show G<w.heap.size from h) (by omega)) _,hR4⟩
def TurnRes (ts:List BTok) (f0 d:Nat) (c:Prog) (X:PRes Prog) (k:Nat) (f:Option (Nat×Nat)) (L:List (Nat×Prog)):Prop:=match f with | some x=>X=some (.error x) | none=>∃ fk,fk≤f0∧pTurns ts fk d k c L=X
def TRes (X:PRes Prog) (f:Option (Nat×Nat)) (a:Prog) (k:Nat):Prop:=match f with | some x=>X=some (.error x) | none=>X=some (.ok (a,k))
structure TurnsAt (ts:List BTok) (f0 d i0:Nat) (c:Prog) (X:PRes Prog) (sl:Nat) (k:Nat) (f:Option (Nat×Nat)) (L:List (Nat×Prog)):Prop where
 le:i0≤k
 lt:k<ts.length
 size:turnsLen L≤6 * (k - i0)+(if f=none then 0 else sl+1)
 trees:∀ t∈L,Tree t.2
 kinds:KindsT L
 num:L.length≤k - i0+(if f=none then 0 else 1)
 res:TurnRes ts f0 d c X k f L
theorem TurnsAt.done {ts:List BTok}{f0 d i0 sl k:Nat}{c:Prog}{X:PRes Prog}{f:Option (Nat×Nat)}{L:List (Nat×Prog)}(h:TurnsAt ts f0 d i0 c X sl k f L)(hX:X≠none)(hn:(f.isNone&&turningP ts k)=false):TRes X f (aroundP L c) k:=by
 have hr:=h.res;clear h
 cases f with
 | some x=>exact hr
 | none =>
  obtain⟨fk,h1,h2⟩:=hr
  cases fk with
  | zero =>
   rw[pTurns] at h2;exact absurd h2.symm hX
  | succ fk =>
   rw[pTurns,if_neg (by simpa using hn)] at h2
   exact h2.symm
theorem TurnsAt.more {cap:Nat}{ts:List BTok}(F:ZFix cap ts){f0 d i0 sl k:Nat}{c:Prog}{X:PRes Prog}{f:Option (Nat×Nat)}{L:List (Nat×Prog)}(h:TurnsAt ts f0 d i0 c X sl k f L)(hX:X≠none)(hn:(f.isNone&&turningP ts k)=true):f=none∧turningP ts k=true∧∃ fk,fk<f0∧pWord ts fk d (skP ts k) 0≠none ∧
  ∀ k' f' l,Tree l→skP ts k≤k'→k'<ts.length→ZRelW (skP ts k) none sl (pWord ts fk d (skP ts k) 0) k' f' l→TurnsAt ts f0 d i0 c X sl k' f' (L++[((tkAt ts k).kind,l)])∧(f'=none→k<k'):=by
 have hr:=h.res;have hs:=h.size;have hle0:=h.le;have hlt0:=h.lt;have hnum:=h.num;have htrs:=h.trees;have hkds:=h.kinds;clear h
 cases f with
 | some x=>cases hn
 | none =>
  have hn:turningP ts k=true:=by simpa using hn
  refine ⟨rfl,hn,?_⟩;have hkd:=turning_kind hn;obtain⟨hsk,hk1⟩:=skP_eq F.T.fix.good hlt0 (by omega)
  obtain⟨fk,h1,h2⟩:=hr
  cases fk with
  | zero =>
   rw[pTurns] at h2;exact absurd h2.symm hX
  | succ fk =>
   rw[pTurns,if_pos hn] at h2;have hne:pWord ts fk d (skP ts k) 0≠none:=fun e=>hX (by rw[← h2,e];rfl)
   refine ⟨fk,by omega,hne,fun k' f' l hT hle hlt hR=>?_⟩
   rw[if_pos rfl] at hs hnum;rw[hsk] at hle hR hne h2;have htr:∀ x∈L++[((tkAt ts k).kind,l)],Tree x.2:=snoc_any htrs hT;have hkk:KindsT (L++[((tkAt ts k).kind,l)]):=snoc_any hkds hkd
   cases hq:pWord ts fk d (k+1) 0 with
   | none=>exact absurd hq hne
   | some r =>
    rw[hq] at hR h2
    cases r with
    | error x =>
     obtain⟨rfl,hl⟩:=hR;refine ⟨⟨by omega,hlt,?_,htr,hkk,?_,h2.symm⟩,fun e=>by cases e⟩
     ·rw[if_neg (by simp),turnsLen_snoc]
      dsimp only;omega
     ·rw[if_neg (by simp),List.length_append]
      simp only[List.length_cons,List.length_nil];omega
    | ok q =>
     obtain⟨a,j⟩:=q;obtain⟨rfl,rfl,rfl⟩:=hR;have hp:=((postAll F.T.fix.good fk).word d (k+1) 0 hk1).1 l k' hq;refine ⟨⟨by omega,hlt,?_,htr,hkk,?_,fk,by omega,h2⟩,fun _=>by omega⟩
     ·rw[if_pos rfl,turnsLen_snoc];dsimp only;omega
     ·rw[if_pos rfl,List.length_append];simp only[List.length_cons,List.length_nil];omega
def ZDoesT (b g cap:Nat) (ts:List BTok) (f0:Nat):Prop :=
 ∀ (w:World) (i d:Nat) (dz:Int) (f:Option (Nat×Nat)) (c:Prog) (vc:Value),(f=none→dz=(d:Int)∧d≤30)→i<ts.length→ZIn w b g cap ts i f→NSl w b vc c→Tree c→c.length≤100000→Hid (f=none→pTurns ts f0 d i c []≠none)→Calls Tryz.prog 113 #[.pointer (some ⟨b,0,none⟩),.int .i64 dz,vc] w fun e w'=>∃ v l i' f',e = .returned v∧NSl w' b v l∧Tree l∧ZIn w' b g cap ts i' f'∧i≤i'∧i'<ts.length∧Kept (At b) w w'∧l.length≤c.length+6 * (i' - i)+(zS d - 10)∧(match f with | some x=>f'=some x∧l=c | none=>TRes (pTurns ts f0 d i c []) f' l i')
theorem zturns_walk (F:ZFix cap ts)(f0:Nat)(hW:∀ f',f'<f0→ZDoesW b g cap ts f'):ZDoesT b g cap ts f0:=by
 intro w i d dz f c vc hdz hi hS hc hTc hcl hX;obtain⟨q0,hq0,hq1,hq2,hq3⟩:=info_parts infoZTurn;have hbl:=hS.blt;have hgl:=hS.glt;have HW:=Lib.hid hW;clear hW;obtain⟨gc,cc,rfl,-⟩:=id hc;have HC0:=Lib.hid hc;clear hc;obtain⟨cl,hclN⟩:∃ cl,c.length=cl:=⟨_,rfl⟩;have HCL:=Lib.hid hclN;rw[hclN] at hcl HC0 ⊢;clear hclN
 cases f with
 | some x =>
  have HA:=Lib.hid (fun (w9:World) (h9:w.heap.size≤w9.heap.size) (hN:NSl w9 b (.slice (some ⟨gc,0,none⟩) cl cc) c)=>z12around_any [] c b (.slice none 0 0) _ w9 (by omega) ⟨none,0,rfl,Nat.le_refl _,Nat.zero_le _,fun h=>absurd h (by simp)⟩ hN (by have:=HCL.out;simp [turnsLen];omega) (by simp) (fun _ h=>(nomatch h)) (fun _ h=>(nomatch h)))
  clear hdz hX;go_enter Tryz.func113,Tryz.ntmps113
  go_wp2_with fail
  go_loopg [7] 0 (fun m s7 wr=>m=0∧s7 = .slice none 0 0∧wr=w)
  case atStart=>exact⟨rfl,rfl,rfl⟩
  case round =>
   obtain⟨rfl,rfl,rfl⟩:=hrel;rename World=>w
   go_wp2_with fail
   refine (zturning_any F hS hi).mono ?_;rintro e w1 ⟨rfl,hb1⟩;have h1:=hS.below hb1;have HA1:=Lib.hid (HA.out w1 hb1.size (HC0.out.below hb1));go_wp2_with fail
   refine HA1.out.mono ?_;rintro e w2 ⟨v2,rfl,hN2,hb2⟩;obtain⟨g2,cp2,rfl,-⟩:=id hN2;go_wp2_with fail
   go_ret;exact⟨_,c,i,_,rfl,hN2,hTc,h1.below hb2,Nat.le_refl _,hi,Kept.ofBelow (bNext hb1 hb2),by have:=HCL.out;omega,rfl,rfl⟩
 | none =>
  obtain⟨rfl,hd⟩:=hdz rfl;obtain⟨X,hXE⟩:∃ X,pTurns ts f0 d i c []=X:=⟨_,rfl⟩;have HXN:=Lib.hid (show X≠none from by rw[← hXE];exact hX.out rfl)
  have HA0:=Lib.hid (show TurnsAt ts f0 d i c X (zS d - 11) i none [] from ⟨Nat.le_refl _,hi,by simp [turnsLen],(fun _ h=>(nomatch h)),(fun _ h=>(nomatch h)),by simp,f0,Nat.le_refl _,hXE⟩)
  rw[hXE];clear hX hdz hXE;go_enter Tryz.func113,Tryz.ntmps113
  go_wp2_with fail
  go_loopg [7] (ts.length - i+1) (fun m s7 wr=>∃ (k:Nat) (f1:Option (Nat×Nat)) (L:List (Nat×Prog)),m=(if f1=none then ts.length - k+1 else 0)∧ZTOwn wr w.heap.size b s7 L∧ZIn wr b g cap ts k f1∧Kept (At b) w wr∧Hid (TurnsAt ts f0 d i c X (zS d - 11) k f1 L))
  case atStart=>exact⟨i,none,[],rfl,ZTOwn.nil _ _ _,hS,Kept.refl _ _,HA0⟩
  case round =>
   clear hS HA0;obtain⟨k,f1,L,rfl,hO,h4,hK4,HA⟩:=hrel;have hlt4:=HA.out.lt;have hle4:=HA.out.le;have hnum4:L.length≤1001:=by have h1:=HA.out.num;have:=F.few;split at h1 <;> omega
   obtain⟨ra,rc,rfl⟩:=hO.form;go_wp2_with fail
   refine (zturning_any F h4 hlt4).mono ?_;rintro e w5 ⟨rfl,hb5⟩;have h5:=h4.below hb5;have hO5:=hO.below hbl hb5;have hK5:=hK4.andBelow hb5;clear h4 hO hK4 hb5
   by_cases hit:(f1.isNone&&turningP ts k)=true
   ·rw[hit];obtain⟨rfl,htk,fk,hfk,hne,hstep⟩:=TurnsAt.more F HA.out HXN.out hit;have HST:=Lib.hid hstep;have HTN:=Lib.hid (zturn_walk F fk (HW.out fk hfk) w5 k d hd hlt4 htk h5 (Lib.hid hne));clear HA hit hstep htk h5;go_wp2_with fail
    refine HTN.out.mono ?_;rintro e w9 ⟨v9,l,k',f',rfl,hN9,hT9,h9,hle9,hlt9,hK9,hR9⟩;obtain⟨HA9,hmove⟩:=HST.out k' f' l hT9 hle9 hlt9 hR9;have HA9:=Lib.hid HA9;have HN:=Lib.hid hN9;obtain⟨g9,cp9,rfl,-⟩:=hN9;have hK59:=hK5.same hK9;have HO:=Lib.hid (hO5.kept hbl hK9);have hsz1:=hK59.size;have hkk:k≤skP ts k:=by have:=skP_le (ts:=ts) hlt4;unfold skP;omega
    clear hO5 hK5 hK9 HST hR9 hne HTN;obtain⟨kd,hkd⟩:∃ kd,(tkAt ts k).kind=kd:=⟨_,rfl⟩;rw[hkd] at HA9 ⊢;clear hkd;obtain⟨us,u1,u2,u3⟩:=HO.out;have U1:=Lib.hid u1;have U2:=Lib.hid u2;have U3:=Lib.hid u3;have hOA:∀ o,(w9.alloc o).ownsRow w.heap.size 164 2 (.slice ra L.length rc) L.length (turnCells (L.map zm) us):=fun o=>ownsRow_kept U2.out (Kept.ofBelow (S:=Nowhere) ((Below.refl _ w9).alloc (Nat.le_refl _) o)) (fun _ _ _ e=>e)
    clear u1 u2 u3;go_wp2_with (at_builtin;refine wpList_append_own _ rfl _ _ 162 rfl w.heap.size 164 q0 _ 2 32 Tryz.underlying162 hq0 hq1 hq2 hq3 rfl (by decide) _ L.length _ rfl (hOA _) ⟨w9.heap.size,0,none⟩ 1 1 [.int .i64 (zmode kd:Nat),.slice (some ⟨g9,0,none⟩) (l).length cp9] rfl rfl ?c1 ?c2 ?c3 ?c4 ?c5 ?_)
    case c1=>exact cells_new (by simp)
    case c2=>intro u9 hu9;simp at hu9;rcases hu9 with rfl | rfl <;> rfl
    case c3=>unfold maxLen;omega
    case c4=>omega
    case c5=>simp;omega
    intro v6 w6 hown' hgrow _;have hS6:=(h9).grown hgrow (row_tag U2.out (by decide)) hbl hgl
    obtain⟨hO6,hb6⟩:=ZTOwn.grown (t:=(kd,l)) hsz1 U1.out U2.out U3.out HN.out hown' hgrow;clear hOA hown' hgrow U1 U2 U3;have hK6:=hK59.belowB hb6 (Nat.le_refl _);go_wp2_with fail
    go_roundg (if f'=none then ts.length - k'+1 else 0)
    case measure =>
     by_cases hf':f'=none
     ·rw[if_pos hf'];have:=hmove hf'
      omega
     ·rw[if_neg hf'];omega
    case rel=>exact⟨k',f',L++[(kd,l)],rfl,hO6,hS6,hK6,HA9⟩
   ·have hit:(f1.isNone&&turningP ts k)=false:=by simpa using hit
    have HDN:=Lib.hid (HA.out.done HXN.out hit);have hsz:=HA.out.size;have HSZ:=Lib.hid (show turnsLen L≤6 * (k - i)+(zS d - 10) from by unfold zS at hsz ⊢;split at hsz <;> omega)
    have HAR:=Lib.hid (z12around_any L c b _ _ w5 h5.blt hO5.tsl (HC0.out.kept hK5) (by
     have:=HCL.out
     have:=F.few
     have h9:=HSZ.out;unfold zS at h9;omega) (by omega) HA.out.kinds fun t ht=>(HA.out.trees t ht).pos)
    have HTA:=Lib.hid (tree_around hTc L HA.out.trees);have HAL:=Lib.hid (around_len L c).1;rw[hit];clear hit HA hO5 hsz;generalize L.length=ll at *;go_wp2_with fail
    refine HAR.out.mono ?_;rintro e w2 ⟨v2,rfl,hN2,hb2⟩;obtain⟨g2,cp2,rfl,-⟩:=id hN2;go_wp2_with fail
    go_ret;exact⟨_,aroundP L c,k,f1,rfl,hN2,HTA.out,h5.below hb2,hle4,hlt4,hK5.andBelow hb2,by rw[HAL.out];have h1:=HSZ.out;have h2:=HCL.out;omega,HDN.out⟩
end
end Go.Proofs.YtbplbehhlbkklaaGreatDoor
