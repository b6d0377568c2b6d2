/- The document's parser of dialect B: an item. -/
import Derived.Test.YtbplbehhlbkklaaGreatDoorGZM
import Derived.Test.YtbplbehhlbkklaaGreatDoorGZEsc
import Derived.Test.YtbplbehhlbkklaaGreatDoorGZC
namespace Go.Proofs.YtbplbehhlbkklaaGreatDoor
open Go Go.RowKit
def wrapO (how:Nat) (t:BTok) (x:Prog):Prog:=if how=1 then aliveP t x else x
def livB (how:Nat):Bool:=decide (how=1)
def ZDoesW (b g cap:Nat) (ts:List BTok) (f0:Nat):Prop :=
 ∀ (w:World) (i d:Nat) (dz:Int) (f:Option (Nat×Nat)) (how:Nat),how≤1→(f=none→dz=(d:Int)∧d≤30)→i<ts.length→ZIn w b g cap ts i f→Hid (f=none→pWord ts f0 d i how≠none)→Calls Tryz.prog 120 #[.pointer (some ⟨b,0,none⟩),.int .i64 dz,.bool (livB how)] w (ZOutW w b g cap ts i f (zS d - 11) (pWord ts f0 d i how))
def ZDoesO (b g cap:Nat) (ts:List BTok) (f0:Nat):Prop :=
 ∀ (w:World) (i d:Nat) (how:Nat),how≤1→d≤30→i<ts.length→itemP ts i=true→ZIn w b g cap ts i none→Hid (pOne ts f0 d i≠none)→Calls Tryz.prog 141 #[.pointer (some ⟨b,0,none⟩),.int .i64 d,.bool (livB how)] w (ZOut w b g cap ts i none (zS d - 12) ((pOne ts f0 d i).go fun x j=>pOk (wrapO how (tkAt ts i) x) j))
structure WordsAt (ts:List BTok) (f0 d i0 how:Nat) (X:PRes (List Prog)) (sl:Nat) (k:Nat) (f:Option (Nat×Nat)) (L:List Prog):Prop where
 le:i0≤k
 lt:k<ts.length
 size:L.flatten.length+L.length≤6 * (k - i0)+(if f=none then 0 else sl+1)
 trees:∀ l∈L,Tree l
 num:L.length≤k - i0+(if f=none then 0 else 1)
 res:match f with | some x=>X=some (.error x) | none=>∃ fk,fk≤f0∧pWords ts fk d k how L=X
theorem WordsAt.start {ts:List BTok}{f0 d i0 how sl:Nat}(hi:i0<ts.length):WordsAt ts f0 d i0 how (pWords ts f0 d i0 how []) sl i0 none [] :=
 ⟨Nat.le_refl _,hi,by simp,(fun _ h=>nomatch h),by simp,f0,Nat.le_refl _,rfl⟩
def WRes (X:PRes (List Prog)) (f:Option (Nat×Nat)) (L:List Prog) (k:Nat):Prop:=match f with | some x=>X=some (.error x) | none=>X=some (.ok (L,k))
theorem WordsAt.done {ts:List BTok}{f0 d i0 how sl k:Nat}{X:PRes (List Prog)}{f:Option (Nat×Nat)}{L:List Prog}(h:WordsAt ts f0 d i0 how X sl k f L)(hX:X≠none)(hn:(f.isNone&&itemP ts k)=false):WRes X f L k:=by
 cases f with
 | some x=>exact h.res
 | none =>
  obtain⟨fk,h1,h2⟩:=h.res
  cases fk with
  | zero =>
   rw[pWords] at h2;exact absurd h2.symm hX
  | succ fk =>
   rw[pWords,if_neg (by simpa using hn)] at h2
   exact h2.symm
theorem WordsAt.more {cap:Nat}{ts:List BTok}(F:ZFix cap ts){f0 d i0 how sl k:Nat}{X:PRes (List Prog)}{f:Option (Nat×Nat)}{L:List Prog}(h:WordsAt ts f0 d i0 how X sl k f L)(hX:X≠none)(hn:(f.isNone&&itemP ts k)=true):f=none∧∃ fk,fk<f0∧pWord ts fk d k how≠none ∧
  ∀ k' f' l,Tree l→k≤k'→k'<ts.length→ZRelW k none sl (pWord ts fk d k how) k' f' l→WordsAt ts f0 d i0 how X sl k' f' (L++[l])∧(f'=none→k<k'):=by
 cases f with
 | some x=>cases hn
 | none =>
  refine ⟨rfl,?_⟩;obtain⟨fk,h1,h2⟩:=h.res
  cases fk with
  | zero =>
   rw[pWords] at h2;exact absurd h2.symm hX
  | succ fk =>
   rw[pWords,if_pos (by simpa using hn)] at h2
   have hne:pWord ts fk d k how≠none:=fun e=>hX (by rw[← h2,e];rfl)
   refine ⟨fk,by omega,hne,fun k' f' l hT hle hlt hR=>?_⟩
   have hs:=h.size;have hle0:=h.le;rw[if_pos rfl] at hs
   have htr:∀ x∈L++[l],Tree x:=fun x hx=>by
    rcases List.mem_append.1 hx with hx | hx
    ·exact h.trees x hx
    ·rw[List.mem_singleton] at hx;subst hx;exact hT
   have hnum:=h.num
   cases hq:pWord ts fk d k how with
   | none=>exact absurd hq hne
   | some r =>
    rw[hq] at hR h2
    cases r with
    | error x =>
     obtain⟨rfl,hl⟩:=hR;refine ⟨⟨by omega,hlt,?_,htr,?_,?_⟩,fun e=>by cases e⟩
     ·rw[if_neg (by simp),List.flatten_append,List.length_append,List.length_append]
      simp only[List.flatten_cons,List.flatten_nil,List.append_nil,List.length_cons,List.length_nil];omega
     ·rw[List.length_append];rw[if_pos rfl] at hnum;rw[if_neg (by simp)]
      simp
      omega
     ·exact h2.symm
    | ok q =>
     obtain⟨a,j⟩:=q;obtain⟨rfl,rfl,rfl⟩:=hR;have hp:=((postAll F.T.fix.good fk).word d k how h.lt).1 l k' hq;refine ⟨⟨by omega,hlt,?_,htr,?_,fk,by omega,h2⟩,fun _=>hp.1⟩
     ·rw[if_pos rfl,List.flatten_append,List.length_append,List.length_append];simp only[List.flatten_cons,List.flatten_nil,List.append_nil,List.length_cons,List.length_nil];omega
     ·rw[if_pos rfl] at hnum ⊢;rw[List.length_append];simp
      omega
theorem one_plain {i s i':Nat}{X:PRes Prog}{f':Option (Nat×Nat)}{l:Prog}{t:BTok}(h:ZRel i none s X i' f' l):ZRel i none (s+1) (X.go fun x j=>pOk (wrapO 0 t x) j) i' f' l:=by
 cases X with
 | none=>exact h.elim
 | some r =>
  cases r with
  | error x=>exact⟨h.1,by have:=h.2.1;omega,h.2.2⟩
  | ok q=>exact h
theorem one_live {i s i':Nat}{X:PRes Prog}{f':Option (Nat×Nat)}{l:Prog}{t:BTok}(h:ZRel i none s X i' f' l)(h1:t.kind≠18)(h2:t.kind≠19):ZRel i none (s+1) (X.go fun x j=>pOk (wrapO 1 t x) j) i' f' (newP 8 0 [] [l]):=by
 cases X with
 | none=>exact h.elim
 | some r =>
  cases r with
  | error x=>exact⟨h.1,by have:=h.2.1;simp [newP];omega,by simp [newP,ndAt]⟩
  | ok q =>
   obtain⟨h3,h4,h5⟩:=h;refine ⟨h3,h4,?_⟩;rw[h5];unfold wrapO aliveP;rw[if_pos rfl,if_neg h1,if_neg h2]
theorem words_rel {cap:Nat}{ts:List BTok}(F:ZFix cap ts){f0 d i k i1:Nat}{f1:Option (Nat×Nat)}{L:List Prog}{X:PRes (List Prog)}(hd:d+1≤30)(_hi:i<ts.length)(hsk:i1=i+1)(h:WordsAt ts f0 (d+1) i1 0 X (zS (d+1) - 11) k f1 L)(hr:WRes X f1 L k) :
  ZRel i none (zS d - 13) ((X).go fun l j=>takeP ts j [7] fun e=>pOk (newP 3 0 [] l) e) (wantI ts k f1 7) (wantF ts k f1 7) (newP 3 0 [] L):=by
 have hs:=h.size;have hle:=h.le;have hw:=wantI_le F h.lt f1 7
 cases f1 with
 | some x =>
  rw[if_neg (by simp)] at hs
  rw[show X=some (.error x) from hr]
  exact⟨rfl,by rw[newP,List.length_cons];unfold zS at hs ⊢;omega,by simp [newP,ndAt]⟩
 | none =>
  rw[if_pos rfl] at hs;rw[show X=some (.ok (L,k)) from hr]
  show ZRel i none _ (takeP ts k [7] fun e=>pOk (newP 3 0 [] L) e) _ _ _
  cases hk:isK ts k [7] with
  | false =>
   rw[take_no hk,(want_no hk).1,(want_no hk).2];exact⟨rfl,by rw[newP,List.length_cons];unfold zS;omega,by simp [newP,ndAt]⟩
  | true =>
   rw[take_yes hk,(want_yes hk).1,(want_yes hk).2];exact⟨rfl,rfl,rfl⟩
theorem sub_rel {cap:Nat}{ts:List BTok}(F:ZFix cap ts){f0 d i k i1:Nat}{f1:Option (Nat×Nat)}{l:Prog}(hd:d≤30)(_hi:i<ts.length)(hsk:i1=i+1)(hi1:i1<ts.length)(hle:i1≤k)(hlt:k<ts.length)(h:ZRelW i1 none (zS d - 14) (pList ts f0 d i1) k f1 l) :
  ZRel i none (zS d - 13) ((pList ts f0 d i1).go fun l j=>takeP ts j [9] fun e=>pOk (newP 12 0 [] [l]) e) (wantI ts k f1 9) (wantF ts k f1 9) (newP 12 0 [] [l]):=by
 have hw:=wantI_le F hlt f1 9
 cases hq:pList ts f0 d i1 with
 | none=>rw[hq] at h;exact h.elim
 | some r =>
  rw[hq] at h
  cases r with
  | error x =>
   obtain⟨rfl,h2⟩:=h;exact⟨rfl,by rw[newP,List.length_cons];simp;unfold zS at h2 ⊢;omega,by simp [newP,ndAt]⟩
  | ok q =>
   obtain⟨a,j⟩:=q;obtain⟨rfl,rfl,rfl⟩:=h;have hp:=((postAll F.T.fix.good f0).list d i1 hi1).1 l k hq;show ZRel i none _ (takeP ts k [9] fun e=>pOk (newP 12 0 [] [l]) e) _ _ _
   cases hk:isK ts k [9] with
   | false =>
    rw[take_no hk,(want_no hk).1,(want_no hk).2];exact⟨rfl,by rw[newP,List.length_cons];simp;unfold zS;omega,by simp [newP,ndAt]⟩
   | true =>
    rw[take_yes hk,(want_yes hk).1,(want_yes hk).2];exact⟨rfl,rfl,rfl⟩
section
variable {b g cap:Nat} {ts:List BTok}
set_option maxHeartbeats 16000000
set_option maxRecDepth 100000
theorem zone_walk (F:ZFix cap ts)(f0:Nat)(hL:ZDoes b g cap ts 20 1 (fun d=>zS d - 14) (pList ts f0))(hW:∀ f',f'<f0→ZDoesW b g cap ts f'):ZDoesO b g cap ts (f0+1):=by
 intro w i d how hhow hd hi hit hS hX;obtain⟨k0,hk0,hk1,hk2,hk3⟩:=info_parts infoNodes;have hbl:=hS.blt;have hgl:=hS.glt;have hf0:=ztok_f0
 have hkd:(tkAt ts i).kind=18∨(tkAt ts i).kind=19∨((tkAt ts i).kind=20∨(tkAt ts i).kind=21∨(tkAt ts i).kind=22∨(tkAt ts i).kind=23∨(tkAt ts i).kind=6∨(tkAt ts i).kind=10):=by
  unfold itemP at hit;simp only[isK_two,isK_one,Bool.or_eq_true,decide_eq_true_eq] at hit;omega
 obtain⟨hsk,hi1⟩:=skP_eq F.T.fix.good hi (by omega)
 have HTX:=Lib.hid (F.T.fix.good.text i);have HPL:=Lib.hid (F.place i);have HL:=Lib.hid hL;have HW:=Lib.hid hW
 have HX:=Lib.hid (show pOne ts (f0+1) d i=(let t:=tkAt ts i
  if t.kind=18∨t.kind=19 then pOk (litP t.text) (skP ts i)
  else if t.kind=21 then pOk (newP 10 0 [] [newP 2 0 t.text []]) (skP ts i)
  else if t.kind=22 then pOk (newP 9 0 [] [newP 2 0 t.text []]) (skP ts i)
  else if t.kind=23 then pOk (newP 11 t.num [] [newP 2 0 [42] []]) (skP ts i)
  else if t.kind=6 then (if 30<d+1 then nestP ts i else (pWords ts f0 (d+1) (skP ts i) 0 []).go fun l j=>takeP ts j [7] fun e=>pOk (newP 3 0 [] l) e)
  else if t.kind=10 then (pList ts f0 d (skP ts i)).go fun l j=>takeP ts j [9] fun e=>pOk (newP 12 0 [] [l]) e
  else pOk (newP 2 0 t.text []) (skP ts i)) from by rw[pOne])
 have HNE:=Lib.hid hX.out;clear hX hL hW hit;dsimp only at HX;rw[hsk] at HX;obtain⟨Y,hY⟩:∃ Y,pOne ts (f0+1) d i=Y:=⟨_,rfl⟩;rw[hY] at HX HNE ⊢;clear hY;obtain⟨t,ht⟩:∃ t,tkAt ts i=t:=⟨_,rfl⟩;have HT:=Lib.hid ht;rw[ht] at HX hkd HTX HPL ⊢;clear ht;obtain⟨tk,tp,tn,tx,tg⟩:=t;dsimp only at HX hkd HTX HPL;go_enter Tryz.func141,Tryz.ntmps141
 go_wp2_with fail
 refine (znow_any F hS hi).mono ?_;rw[HT.out];rintro e w1 ⟨rfl,hb1⟩;unfold BTok.cells;dsimp only;have hsz1:=hb1.size;have h1:=hS.below (hb1.alloc hb1.size (.cells #[.int .i64 tk,.int .i64 tp,.int .i64 tn,.string (bs tx),.bool tg] 95));have hB1:=Blk.new w1 [.int .i64 tk,.int .i64 tp,.int .i64 tn,.string (bs tx),.bool tg] 95;have hK1:Kept (At b) w (w1.alloc (.cells #[.int .i64 tk,.int .i64 tp,.int .i64 tn,.string (bs tx),.bool tg] 95)):=Kept.ofBelow (hb1.alloc hb1.size _);obtain⟨tb,htb⟩:∃ tb,w1.heap.size=tb:=⟨_,rfl⟩;have htbb:tb≠b:=by omega
 have htb0:w.heap.size≤tb:=by omega
 go_wp2_with fail
 refine (znext_any F h1 hi).mono ?_;rw[hsk];rintro e w2 ⟨rfl,h2,hk2'⟩;have hB2:Blk w2 tb [.int .i64 tk,.int .i64 tp,.int .i64 tn,.string (bs tx),.bool tg]:=by rw[← htb];exact hB1.kept hk2' (by rw[htb];exact htbb)
 have hK2:=hK1.same hk2';clear h1 hB1 hK1 hk2' hS hb1 htb hsz1;have c3:=hB2.cell 3 rfl;go_wp2_with fail
 refine (z12node_any 2 0 tx [] _ h2.blt (KSl.nil _ _) (by simp) (by simp)).mono ?_
 rintro e w3 ⟨v3,rfl,hN3,hb3⟩;have hB3:=hB2.below hb3;have h3:=h2.below hb3;have hK3:=hK2.andBelow hb3;have HN3:=Lib.hid hN3;obtain⟨g3,cp3,rfl,-⟩:=hN3;clear c3 hB2 h2 hK2 hb3;have hT3:Tree (newP 2 0 tx []):=Tree.leaf _ _ _;obtain⟨vl,hvl⟩:∃ vl,(newP 2 0 tx []).length=vl:=⟨_,rfl⟩;have HVL:=Lib.hid hvl;rw[hvl] at HN3 ⊢;clear hvl;have c0:=hB3.cell 0 rfl;have c3:=hB3.cell 3 rfl;have hbl3:=h3.blt
 rcases hkd with rfl | rfl | hkd
 ·have HY:=Lib.hid (HX.out.trans (if_pos (.inl rfl)));clear HX;obtain rfl | rfl:how=0∨how=1:=by omega
  ·rw[show livB 0=false from rfl]
   go_wp2_with fail
   refine (r5Lit_any tx hbl3).mono ?_;rintro e w4 ⟨v4,rfl,hN4,hb4⟩;obtain⟨g4,cp4,rfl,-⟩:=id hN4;go_wp2_with fail
   go_ret;exact ZOut.mk rfl hN4 (Tree.leaf _ _ _) (h3.below hb4) (by omega) hi1 (hK3.andBelow hb4) (by rw[HY.out];exact⟨rfl,rfl,rfl⟩)
  ·rw[show livB 1=true from rfl]
   have hcl:=z12closed_any (bs tx) w3 (by rw[bs_size];have:=HTX.out;omega)
   rw[bs_list] at hcl;go_wp2_with fail
   refine hcl.mono ?_;rintro e w5 ⟨rfl,hb5⟩;have h3:=h3.below hb5;have hK3:=hK3.andBelow hb5;clear hcl;go_wp2_with fail
   refine (z12node_any 1 1 (closedP tx) [] _ h3.blt (KSl.nil _ _) (by simp) (by simp)).mono ?_
   rintro e w4 ⟨v4,rfl,hN4,hb4⟩;obtain⟨g4,cp4,rfl,-⟩:=id hN4;go_wp2_with fail
   go_ret;exact ZOut.mk rfl hN4 (Tree.leaf _ _ _) (h3.below hb4) (by omega) hi1 (hK3.andBelow hb4) (by rw[HY.out];exact⟨rfl,rfl,rfl⟩)
 ·have HY:=Lib.hid (HX.out.trans (if_pos (.inr rfl)));clear HX;obtain rfl | rfl:how=0∨how=1:=by omega
  ·rw[show livB 0=false from rfl]
   go_wp2_with fail
   refine (r5Lit_any tx hbl3).mono ?_;rintro e w4 ⟨v4,rfl,hN4,hb4⟩;obtain⟨g4,cp4,rfl,-⟩:=id hN4;go_wp2_with fail
   go_ret;exact ZOut.mk rfl hN4 (Tree.leaf _ _ _) (h3.below hb4) (by omega) hi1 (hK3.andBelow hb4) (by rw[HY.out];exact⟨rfl,rfl,rfl⟩)
  ·rw[show livB 1=true from rfl]
   have hcl:=r2Escape_any (bs tx) w3 (by rw[bs_size];have:=HTX.out;omega)
   rw[bs_list] at hcl;go_wp2_with fail
   refine hcl.mono ?_;rintro e w5 ⟨rfl,hb5⟩;have h3:=h3.below hb5;have hK3:=hK3.andBelow hb5;clear hcl;go_wp2_with fail
   refine (z12node_any 1 1 (escapeP tx) [] _ h3.blt (KSl.nil _ _) (by simp) (by simp)).mono ?_
   rintro e w4 ⟨v4,rfl,hN4,hb4⟩;obtain⟨g4,cp4,rfl,-⟩:=id hN4;go_wp2_with fail
   go_ret;exact ZOut.mk rfl hN4 (Tree.leaf _ _ _) (h3.below hb4) (by omega) hi1 (hK3.andBelow hb4) (by rw[HY.out];exact⟨rfl,rfl,rfl⟩)
 ·have hk18:tk≠18:=by omega
  have hk19:tk≠19:=by omega
  have HK18:=Lib.hid hk18;have HK19:=Lib.hid hk19;have HX2:=Lib.hid (HX.out.trans (if_neg (by omega)))
  clear HX hk18 hk19;go_upto_block 0 with fail
  go_cut [8] (fun s8 w9=>∃ v l i' f',s8=v∧NSl w9 b v l∧Tree l∧ZIn w9 b g cap ts i' f'∧i≤i'∧i'<ts.length∧Kept (At b) w w9∧l.length≤100000∧ZRel i none (zS d - 13) Y i' f' l)
  case first =>
   rcases hkd with rfl | rfl | rfl | rfl | rfl | rfl
   ·have HY:Hid (Y=some (.ok (newP 2 0 tx [],i+1))):=Lib.hid HX2.out;clear HX2;go_wp2_with fail
    go_meet
    case rel=>exact⟨_,newP 2 0 tx [],i+1,none,rfl,HN3.out,hT3,h3,by omega,hi1,hK3,by simp [newP],by rw[HY.out];exact⟨rfl,rfl,rfl⟩⟩
   ·have HY:Hid (Y=some (.ok (newP 10 0 [] [newP 2 0 tx []],i+1))):=Lib.hid HX2.out;clear HX2;go_wp2_with fail
    refine (z12node_any 10 0 [] [newP 2 0 tx []] _ (by simp;omega) (KSl.new1 hbl3 (.inl HN3.out)) (by simp [newP]) (by simp)).mono ?_
    rintro e w6 ⟨v6,rfl,hN6,hb6⟩;obtain⟨g6,cp6,rfl,-⟩:=id hN6;have hb36:=bNext ((Below.refl w3.heap.size w3).alloc (Nat.le_refl _) (.cells #[.slice (some ⟨g3,0,none⟩) vl cp3] 23)) hb6;go_wp2_with fail
    go_meet
    case rel=>exact⟨_,newP 10 0 [] [newP 2 0 tx []],i+1,none,rfl,hN6,Tree.one hT3,h3.below hb36,by omega,hi1,hK3.andBelow hb36,by simp [newP],by rw[HY.out];exact⟨rfl,rfl,rfl⟩⟩
   ·have HY:Hid (Y=some (.ok (newP 9 0 [] [newP 2 0 tx []],i+1))):=Lib.hid HX2.out;clear HX2;go_wp2_with fail
    refine (z12node_any 9 0 [] [newP 2 0 tx []] _ (by simp;omega) (KSl.new1 hbl3 (.inl HN3.out)) (by simp [newP]) (by simp)).mono ?_
    rintro e w6 ⟨v6,rfl,hN6,hb6⟩;obtain⟨g6,cp6,rfl,-⟩:=id hN6;have hb36:=bNext ((Below.refl w3.heap.size w3).alloc (Nat.le_refl _) (.cells #[.slice (some ⟨g3,0,none⟩) vl cp3] 23)) hb6;go_wp2_with fail
    go_meet
    case rel=>exact⟨_,newP 9 0 [] [newP 2 0 tx []],i+1,none,rfl,hN6,Tree.one hT3,h3.below hb36,by omega,hi1,hK3.andBelow hb36,by simp [newP],by rw[HY.out];exact⟨rfl,rfl,rfl⟩⟩
   ·have HY:Hid (Y=some (.ok (newP 11 tn [] [newP 2 0 [42] []],i+1))):=Lib.hid HX2.out;clear HX2;have c2:=hB3.cell 2 rfl
    have HN1:=Lib.hid (show Calls Tryz.prog 52 #[.int .i64 2,.int .i64 0,.string ⟨#[42]⟩,.slice none 0 0] w3.drew fun e w'=>∃ v',e = .returned v'∧NSl w' b v' (newP 2 0 [42] [])∧Below w3.heap.size w3 w' from by
     refine (z12node_any (w:=w3.drew) 2 0 [42] [] _ hbl3 (KSl.nil _ _) (by simp) (by simp)).mono ?_
     rintro e w' ⟨v',rfl,h1,h2⟩;exact⟨v',rfl,h1,((Below.refl _ w3).drew).trans h2⟩)
    have HN2:=Lib.hid (show ∀ (w9:World) (u:Value),b<w9.heap.size→NSl w9 b u (newP 2 0 [42] [])→Calls Tryz.prog 52 #[.int .i64 11,.int .i64 tn,.string ⟨#[]⟩,.slice (some ⟨w9.heap.size,0,none⟩) 1 1] (w9.alloc (.cells #[u] 23)) fun e w'=>∃ v',e = .returned v'∧NSl w' b v' (newP 11 tn [] [newP 2 0 [42] []])∧Below (w9.alloc (.cells #[u] 23)).heap.size (w9.alloc (.cells #[u] 23)) w' from fun w9 u h1 h2=>z12node_any 11 tn [] [newP 2 0 [42] []] _ (by simp;omega) (KSl.new1 (w:=w9) (u:=u) h1 (.inl h2)) (by simp [newP]) (by simp))
    obtain⟨num,hnum⟩:∃ num:Int,((tn:Nat):Int)=num:=⟨_,rfl⟩;have HNM:=Lib.hid hnum;rw[hnum] at c2 HN2;clear c3 c0 hnum;have hbl9:b<w3.heap.size:=hbl3;go_upto_region 24 with fail
    go_region_held3 (fun w'=>w'.cell? ⟨tb,2,none⟩=some (.int .i64 num)) (first | exact bSome hb5 c2 | exact bSome hb7 c2 | go_keep)
     (first
      | (go_at_call 52;(with_reducible refine HN1.out.mono ?_);rintro e w5 ⟨v5,rfl,hN5,hb5⟩;obtain⟨g5,c5,rfl,-⟩:=id hN5;have hlt5:b<w5.heap.size:=Nat.lt_of_lt_of_le hbl9 hb5.size)
      | (go_at_call 52;(with_reducible refine (HN2.out _ _ hlt5 hN5).mono ?_);rintro e w6 ⟨v6,rfl,hN6,hb6⟩;obtain⟨g6,cp6,rfl,-⟩:=id hN6;have hb7:=bNext hb5 (bNextW hb6)))
    all_goals (go_wp2_with fail)
    all_goals go_meet
    all_goals exact⟨_,newP 11 num [] [newP 2 0 [42] []],i+1,none,rfl,hN6,Tree.one (Tree.leaf _ _ _),h3.below hb7,by omega,hi1,hK3.andBelow hb7,by simp [newP],by rw[HY.out,HNM.out];exact⟨rfl,rfl,rfl⟩⟩
   ·have HY:Hid (Y=if 30<d+1 then nestP ts i else (pWords ts f0 (d+1) (i+1) 0 []).go fun l j=>takeP ts j [7] fun e=>pOk (newP 3 0 [] l) e):=Lib.hid HX2.out
    clear HX2;have hwr:IntKind.i64.wrap ((d:Int)+1)=(d:Int)+1:=by rw[IntKind.wrap_i64];omega
    by_cases h30:30<d+1
    ·have e30:decide ((30:Int)<(d:Int)+1)=true:=by rw[decide_eq_true_eq];omega
     have HY2:=Lib.hid (show Y=some (.error (102,tp)) from by
      rw[HY.out,if_pos h30];unfold nestP;rw[HT.out];rfl)
     have c1:=hB3.cell 1 rfl;clear HY h30;go_wp2_with fail
     refine (zfail_any h3 102 tp _ _ rfl rfl (by omega) (by omega) HPL.out).mono ?_
     rintro e w5 ⟨rfl,h5,hK5⟩;have h5:ZIn w5 b g cap ts (i+1) (some (102,tp)):=h5;have hK35:=hK3.same hK5;clear h3 hK3 hK5 c0 c1 c3 hB3 HN3;go_wp2_with fail
     go_loopg [10] 0 (fun m s10 wr=>m=0∧s10 = .slice none 0 0∧wr=w5)
     case atStart=>exact⟨rfl,rfl,rfl⟩
     case round =>
      obtain⟨rfl,rfl,rfl⟩:=hrel;rename World=>w5
      go_wp2_with fail
      refine (zitem_any F h5 hi1).mono ?_;rintro e w6 ⟨rfl,hb6⟩;have h6:=h5.below hb6;go_wp2_with fail
      refine (zwant_any F h6 hi1 7 _ rfl).mono ?_;rintro e w7 ⟨rfl,h7,hK7⟩;go_wp2_with fail
      refine (z12node_any 3 0 [] [] _ h7.blt (KSl.nil _ _) (by simp) (by simp)).mono ?_
      rintro e w8 ⟨v8,rfl,hN8,hb8⟩;obtain⟨g8,cp8,rfl,-⟩:=id hN8;go_wp2_with fail
      go_meet
      case rel=>exact⟨_,newP 3 0 [] [],_,_,rfl,hN8,Tree.leaf _ _ _,h7.below hb8,Nat.le_succ i,hi1,((hK35.andBelow hb6).same hK7).andBelow hb8,by simp [newP],by rw[HY2.out];exact⟨rfl,by simp [newP];unfold zS;omega,by simp [newP,ndAt]⟩⟩
    ·have e30:decide ((30:Int)<(d:Int)+1)=false:=by rw[decide_eq_false_iff_not];omega
     have HY2:=Lib.hid (HY.out.trans (if_neg h30));have hd1:d+1≤30:=by omega
     obtain⟨X,hX⟩:∃ X,pWords ts f0 (d+1) (i+1) 0 []=X:=⟨_,rfl⟩;have HXE:=Lib.hid hX;have HXN:=Lib.hid (show X≠none from fun e=>HNE.out (by rw[HY2.out,hX,e];rfl))
     rw[hX] at HY2;clear HY h30 hX c0 c3 hB3 HN3;go_wp2_with fail
     go_loopg [10] (ts.length - (i+1)+1) (fun m s10 wr=>∃ (k:Nat) (f1:Option (Nat×Nat)) (L:List Prog),m=(if f1=none then ts.length - k+1 else 0)∧KOwn wr w.heap.size b s10 L∧ZIn wr b g cap ts k f1∧Kept (At b) w wr∧Hid (WordsAt ts f0 (d+1) (i+1) 0 X (zS (d+1) - 11) k f1 L))
     case atStart=>exact⟨i+1,none,[],rfl,KOwn.nil _ _ _,h3,hK3,Lib.hid (by rw[← HXE.out];exact WordsAt.start hi1)⟩
     case round =>
      clear h3 hK3;obtain⟨k,f1,L,rfl,hO,h4,hK4,HA⟩:=hrel;have hlt4:=HA.out.lt;have hle4:=HA.out.le;have hnum4:L.length≤1001:=by have h1:=HA.out.num;have:=F.few;split at h1 <;> omega
      have hLt:=Lib.hid HA.out.trees;obtain⟨ra,rc,rfl⟩:=hO.form;go_wp2_with fail
      refine (zitem_any F h4 hlt4).mono ?_;rintro e w5 ⟨rfl,hb5⟩;have h5:=h4.below hb5;have hO5:=hO.below hbl hb5;have hK5:=hK4.andBelow hb5;clear h4 hO hK4 hb5
      by_cases hit:(f1.isNone&&itemP ts k)=true
      ·rw[hit];obtain⟨rfl,fk,hfk,hne,hstep⟩:=WordsAt.more F HA.out HXN.out hit;have HST:=Lib.hid hstep;clear HA hit hstep;go_wp2_with fail
       refine (HW.out fk hfk w5 k (d+1) _ none 0 (by omega) (fun _=>⟨by omega,hd1⟩) hlt4 h5 (Lib.hid fun _=>hne)).mono ?_
       rintro e w9 ⟨v9,l,k',f',rfl,hN9,hT9,h9,hle9,hlt9,hK9,hR9⟩;obtain⟨HA9,hmove⟩:=HST.out k' f' l hT9 hle9 hlt9 hR9;have HA9:=Lib.hid HA9;have HN:=Lib.hid hN9;obtain⟨g9,cp9,rfl,-⟩:=hN9;have hK59:=hK5.same hK9;have HO:=Lib.hid (hO5.kept hbl hK9);have hsz1:=hK59.size;clear h5 hO5 hK5 hK9 HST hR9 hne;obtain⟨us,u1,u2,u3⟩:=HO.out;have U1:=Lib.hid u1;have U2:=Lib.hid u2;have U3:=Lib.hid u3;have hOA:∀ o,(w9.alloc o).ownsRow w.heap.size 23 1 (.slice ra L.length rc) L.length us:=fun o=>ownsRow_kept U2.out (Kept.ofBelow (S:=Nowhere) ((Below.refl _ w9).alloc (Nat.le_refl _) o)) (fun _ _ _ e=>e)
       clear u1 u2 u3;go_wp2_with (at_builtin;refine wpList_append_own _ rfl _ _ 99 rfl w.heap.size 23 k0 _ 1 24 Tryz.underlying99 hk0 hk1 hk2 hk3 rfl (by decide) _ L.length _ rfl (hOA _) ⟨w9.heap.size,0,none⟩ 1 1 [.slice (some ⟨g9,0,none⟩) (l).length cp9] rfl rfl ?c1 ?c2 ?c3 ?c4 ?c5 ?_)
       case c1=>exact cells_new (by simp)
       case c2=>intro u9 hu9;simp at hu9;subst hu9;rfl
       case c3=>unfold maxLen;omega
       case c4=>omega
       case c5=>simp;omega
       intro v6 w6 hown' hgrow _;have hS6:=(h9).grown hgrow (row_tag U2.out (by decide)) hbl hgl
       obtain⟨hO6,hb6⟩:=KOwn.grown hsz1 U1.out U2.out U3.out HN.out hown' hgrow;clear hOA hown' hgrow U1 U2 U3;have hK6:=hK59.belowB hb6 (Nat.le_refl _);go_wp2_with fail
       go_roundg (if f'=none then ts.length - k'+1 else 0)
       case measure =>
        by_cases hf':f'=none
        ·rw[if_pos hf'];have:=hmove hf'
         omega
        ·rw[if_neg hf'];omega
       case rel=>exact⟨k',f',L++[l],rfl,hO6,hS6,hK6,HA9⟩
      ·have hit:(f1.isNone&&itemP ts k)=false:=by simpa using hit
       have hdone:=HA.out.done HXN.out hit;have HR:=Lib.hid (words_rel F hd1 hi rfl HA.out hdone);rw[← HY2.out] at HR;have HSZ:=Lib.hid HA.out.size;have hw7:=wantI_le F hlt4 f1 7;rw[hit];clear hdone hit HA;generalize hll:L.length=ll at *;have HLL:=Lib.hid hll;clear hll;go_wp2_with fail
       refine (zwant_any F h5 hlt4 7 _ rfl).mono ?_;rintro e w6 ⟨rfl,h6,hK6⟩;have hK56:=hK5.same hK6;have HKS:=Lib.hid ((hO5.kept hbl hK6).ksl hbl)
       have HFL:=Lib.hid (show L.flatten.length≤90000 from by
        have h1:=HSZ.out;have:=F.few
        split at h1
        ·omega
        ·unfold zS at h1;omega)
       clear h5 hK5 hK6 hO5;go_wp2_with fail
       refine (z12node_any 3 0 [] L _ h6.blt HKS.out (by have:=HFL.out;omega) (by rw[HLL.out];omega)).mono ?_
       rintro e w8 ⟨v8,rfl,hN8,hb8⟩;obtain⟨g8,cp8,rfl,-⟩:=id hN8;go_wp2_with fail
       go_meet
       case rel=>exact⟨_,newP 3 0 [] L,_,_,rfl,hN8,.node _ _ _ _ hLt.out,h6.below hb8,by omega,hw7.2,hK56.andBelow hb8,by rw[newP,List.length_cons];have:=HFL.out;omega,HR.out⟩
   ·have HY:Hid (Y=(pList ts f0 d (i+1)).go fun l j=>takeP ts j [9] fun e=>pOk (newP 12 0 [] [l]) e):=Lib.hid HX2.out
    clear HX2;have hwr:IntKind.i64.wrap ((d:Int)+1)=(d:Int)+1:=by rw[IntKind.wrap_i64];omega
    have HNL:=Lib.hid (show pList ts f0 d (i+1)≠none from fun e=>HNE.out (by rw[HY.out,e];rfl))
    go_wp2_with fail
    refine (HL.out w3 (i+1) d _ none (fun _=>⟨rfl,hd⟩) hi1 h3 (Lib.hid fun _=>HNL.out)).mono ?_
    rintro e w5 ⟨v5,l,i1,f1,rfl,hN5,hT5,h5,hle5,hlt5,hK5,hR5⟩;have HR5:=Lib.hid (sub_rel F hd hi rfl hi1 hle5 hlt5 hR5);rw[← HY.out] at HR5
    have HS5:=Lib.hid (show l.length≤90000 from by
     have hfew:=F.few
     cases hq:pList ts f0 d (i+1) with
     | none=>exact absurd hq HNL.out
     | some r =>
      rw[hq] at hR5
      cases r with
      | error x =>
       have h9:=hR5.2;dsimp only at h9;unfold zS at h9;omega
      | ok q =>
       obtain⟨a,j⟩:=q;obtain⟨-,e1,e2⟩:=hR5;have hp:=((postAll F.T.fix.good f0).list d (i+1) hi1).1 a j hq;rw[e2];omega)
    obtain⟨g5,cp5,rfl,-⟩:=id hN5;have HN5:=Lib.hid hN5;have hw9:=wantI_le F hlt5 f1 9;have hK35:=hK3.same hK5;clear hN5 hR5 h3 hK3 hK5;obtain⟨ll,hll⟩:∃ ll,l.length=ll:=⟨_,rfl⟩;have HLL:=Lib.hid hll;rw[hll] at HN5 HS5 ⊢;clear hll;go_wp2_with fail
    refine (zwant_any F h5 hlt5 9 _ rfl).mono ?_;rintro e w6 ⟨rfl,h6,hK6⟩;have HN6:=Lib.hid (HN5.out.kept hK6);have hK36:=hK35.same hK6;clear h5 hK35 hK6 HN5;have hll9:=HS5.out;have hno:(newP 12 0 [] [l]).length=ll+1:=by simp [newP];exact HLL.out
    go_wp2_with fail
    refine (z12node_any 12 0 [] [l] _ (by have:=h6.blt;simp;omega) (KSl.new1 h6.blt (.inl HN6.out)) (by simp;have:=HLL.out;omega) (by simp)).mono ?_
    rintro e w7 ⟨v7,rfl,hN7,hb7⟩;obtain⟨g7,cp7,rfl,-⟩:=id hN7;have hb67:=bNext ((Below.refl w6.heap.size w6).alloc (Nat.le_refl _) (.cells #[.slice (some ⟨g5,0,none⟩) ll cp5] 23)) hb7;have HNO:=Lib.hid hno;clear hno;go_wp2_with fail
    go_meet
    case rel=>exact⟨_,newP 12 0 [] [l],_,_,rfl,hN7,Tree.one hT5,h6.below hb67,by omega,hw9.2,hK36.andBelow hb67,by rw[HNO.out];omega,HR5.out⟩
  case rest =>
   rename World=>w4
   obtain⟨v,l,i',f',rfl,hN,hT,h4,hle,hlt,hK4,hln,hR⟩:=hcut;obtain⟨gv,cv,rfl,-⟩:=id hN;have HN4:=Lib.hid hN;have HR4:=Lib.hid hR;clear hN hR;obtain rfl | rfl:how=0∨how=1:=by omega
   ·rw[show livB 0=false from rfl]
    generalize l.length=ll at *;go_wp2_with fail
    go_ret;exact ZOut.mk rfl HN4.out hT h4 hle hlt hK4 ((one_plain HR4.out).mono (by unfold zS;omega))
   ·rw[show livB 1=true from rfl]
    have HLV:=Lib.hid (one_live (t:=(⟨tk,tp,tn,tx,tg⟩:BTok)) HR4.out HK18.out HK19.out);have HC:=Lib.hid (z12node_any 8 0 [] [l] _ (by have:=h4.blt;simp;omega) (KSl.new1 h4.blt (.inl HN4.out)) (by simp;omega) (by simp))
    generalize l.length=ll at *;go_wp2_with fail
    refine HC.out.mono ?_;rintro e w7 ⟨v7,rfl,hN7,hb7⟩;obtain⟨g7,cp7,rfl,-⟩:=id hN7;have hb67:=bNext ((Below.refl w4.heap.size w4).alloc (Nat.le_refl _) (.cells #[.slice (some ⟨gv,0,none⟩) ll cv] 23)) hb7;go_wp2_with fail
    go_ret;exact ZOut.mk rfl hN7 (Tree.one hT) (h4.below hb67) hle hlt (hK4.andBelow hb67) (HLV.out.mono (by unfold zS;omega))
end
end Go.Proofs.YtbplbehhlbkklaaGreatDoor
