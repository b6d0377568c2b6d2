/- The document's parser of dialect B: a word. -/
import Derived.Test.YtbplbehhlbkklaaGreatDoorGZWordP
import Derived.Test.YtbplbehhlbkklaaGreatDoorGZC
namespace Go.Proofs.YtbplbehhlbkklaaGreatDoor
open Go Go.RowKit
theorem ztok_f4 (a b c d e:Value)(w:World):(Instr.field 95 (.agg #[a,b,c,d,e]) 4).run Tryz.prog w = .ok e w:=by kernel_rfl
theorem tree_step {O:List Prog}{x:Prog}(hO:∀ y∈O,Tree y)(hx:Tree x):∀ y∈joinStep O x,Tree y:=by
 unfold joinStep;split
 ·split
  ·intro y hy
   rcases List.mem_append.1 hy with hy | hy
   ·exact hO y ((List.dropLast_sublist O).subset hy)
   ·rw[List.mem_singleton] at hy;subst hy;exact Tree.leaf _ _ _
  ·exact snoc_all hO hx
 ·exact snoc_all hO hx
theorem tree_fold:∀ (L O:List Prog),(∀ y∈O,Tree y)→(∀ y∈L,Tree y)→∀ y∈L.foldl joinStep O,Tree y
 | [],O,hO,_=>hO
 | x :: L,O,hO,hL=>by
  rw[List.foldl_cons];exact tree_fold L _ (tree_step hO (hL x (by simp))) fun y hy=>hL y (by simp [hy])
theorem tree_join {L:List Prog}(hL:∀ y∈L,Tree y):Tree (joinP L):=by
 have h:=tree_fold L [] (by simp) hL
 obtain⟨O,hOO⟩:∃ O,L.foldl joinStep []=O:=⟨_,rfl⟩;rw[hOO] at h
 by_cases h1:O.length=1
 ·obtain⟨y,rfl⟩:∃ y,O=[y]:=List.length_eq_one_iff.1 h1;rw[joinP_one hOO];exact h y (by simp)
 ·rw[joinP_many hOO h1];exact .node _ _ _ _ h
theorem tree_word {L:List Prog}(hL:∀ y∈L,Tree y)(t:BTok)(how:Nat):Tree (wordOut t how L):=by
 unfold wordOut;split
 ·exact Tree.one (Tree.leaf _ _ _)
 ·exact tree_join hL
theorem join_small (L:List Prog):(joinP L).length≤L.flatten.length+1:=by
 have h:=(join_fold L []).1;simp only[List.flatten_nil,List.length_nil,Nat.zero_add] at h;obtain⟨O,hOO⟩:∃ O,L.foldl joinStep []=O:=⟨_,rfl⟩;rw[hOO] at h
 by_cases h1:O.length=1
 ·obtain⟨y,rfl⟩:∃ y,O=[y]:=List.length_eq_one_iff.1 h1;rw[joinP_one hOO];simp only[List.flatten_cons,List.flatten_nil,List.append_nil] at h;omega
 ·rw[joinP_many hOO h1,newP,List.length_cons];omega
theorem word_small (L:List Prog)(t:BTok)(how:Nat)(hp:0<L.length)(hT:∀ y∈L,Tree y):(wordOut t how L).length≤L.flatten.length+1:=by
 unfold wordOut;split
 ·rename_i hc
  obtain⟨y,rfl⟩:∃ y,L=[y]:=List.length_eq_one_iff.1 hc.2.1;have:=(hT y (by simp)).pos
  simp [newP]
  omega
 ·exact join_small L
theorem zword_single (t:BTok)(how:Nat)(x:Prog):wordOut t how [x]=if how=0∧t.kind=18∧liveP t.text=true then newP 6 0 [] [newP 1 1 (closedP t.text) []] else x:=by
 unfold wordOut
 by_cases h:how=0∧t.kind=18∧liveP t.text=true
 ·rw[if_pos h,if_pos ⟨h.1,rfl,h.2⟩]
 ·rw[if_neg h,if_neg (fun h2=>h ⟨h2.1,h2.2.2⟩)]
  exact joinP_one rfl
theorem word_rel {ts:List BTok}{f0 d i how k:Nat}{f1:Option (Nat×Nat)}{L:List Prog}{X:PRes (List Prog)}{s:Nat}{r:Bool}(hs:s=zS d - 12)(h:WordEnd ts d i how X s k f1 L)(hX:pWordR ts f0 d i how []=X)(hr:f1=none→r=tooLong (wordOut (tkAt ts i) how L))(hd:d≤30) :
  ZRelW i none (zS d - 11) (pWord ts (f0+1) d i how) k (if r=true then f1.or (some (101,(tkAt ts i).place)) else f1) (wordOut (tkAt ts i) how L):=by
 have hsm:=word_small L (tkAt ts i) how h.pos h.trees;have hsz:=h.size;have hres:=h.res;have hpos:=h.pos;rw[pWord,hX]
 cases f1 with
 | some x =>
  rw[if_neg (by simp)] at hsz
  rw[show X=some (.error x) from hres]
  refine ⟨by split <;> rfl,?_⟩
  subst hs;unfold zS at hsz ⊢;omega
 | none =>
  rw[if_pos rfl] at hsz;rw[show X=some (.ok (L,k)) from hres]
  show ZRelW i none _ (if tooLong (wordOut (tkAt ts i) how L)=true then pErr 101 (tkAt ts i).place else pOk (wordOut (tkAt ts i) how L) k) k _ _
  rw[hr rfl];split
  ·exact⟨rfl,by omega⟩
  ·exact⟨rfl,rfl,rfl⟩
section
variable {b g cap:Nat} {ts:List BTok}
set_option maxHeartbeats 16000000
set_option maxRecDepth 100000
theorem zword_walk (F:ZFix cap ts)(f0:Nat)(hO:∀ f',f'<f0→ZDoesO b g cap ts f'):ZDoesW b g cap ts (f0+1):=by
 intro w i d dz f how hhow hdz hi hS hX;obtain⟨k0,hk0,hk1,hk2,hk3⟩:=info_parts infoNodes;have hbl0:=hS.blt;have hf4:=ztok_f4;have HOO:=Lib.hid hO;clear hO
 by_cases hit:(f.isNone&&itemP ts i)=true
 ·obtain⟨rfl,hit2⟩:f=none∧itemP ts i=true:=by
   cases f with
   | none=>exact⟨rfl,by simpa using hit⟩
   | some x=>simp at hit
  obtain⟨rfl,hd⟩:=hdz rfl;obtain⟨X,hXE⟩:∃ X,pWordR ts f0 d i how []=X:=⟨_,rfl⟩;have HXE:=Lib.hid hXE;have HXN:=Lib.hid (show X≠none from fun e=>hX.out rfl (by rw[pWord,hXE,e];rfl))
  have HA0:=Lib.hid (show WordAt ts f0 d i how X i [] from ⟨Nat.le_refl _,hi,hit2,by simp,by simp,(fun _ h=>(nomatch h)),(fun _ h=>(nomatch h)),f0,Nat.le_refl _,hXE⟩)
  have HTX:=Lib.hid (F.T.fix.good.text i);have HPL:=Lib.hid (F.place i);obtain⟨t,ht⟩:∃ t,tkAt ts i=t:=⟨_,rfl⟩;have HT:=Lib.hid ht;rw[ht] at HTX HPL;clear hX hdz hXE hit2 ht;go_enter Tryz.func120,Tryz.ntmps120
  go_wp2_with fail
  refine (zitem_any F hS hi).mono ?_;rintro e w1 ⟨rfl,hb1⟩;rw[hit];have h1:=hS.below hb1;clear hit hS;go_wp2_with fail
  refine (znow_any F h1 hi).mono ?_;rw[HT.out];rintro e w1' ⟨rfl,hb1'⟩;unfold BTok.cells;have hb01:=bNext hb1 hb1';have h1':=h1.below hb1';obtain⟨w2,hw2⟩:∃ w2,w1'.alloc (.cells #[.int .i64 t.kind,.int .i64 t.place,.int .i64 t.num,.string (bs t.text),.bool t.glue] 95)=w2:=⟨_,rfl⟩;have h2:ZIn w2 b g cap ts i none:=by rw[← hw2];exact h1'.below ((Below.refl _ _).alloc (Nat.le_refl _) _)
  have hB2:Blk w2 w1'.heap.size [.int .i64 t.kind,.int .i64 t.place,.int .i64 t.num,.string (bs t.text),.bool t.glue]:=by rw[← hw2];exact Blk.new w1' _ _
  have hK2:Kept (At b) w w2:=by rw[← hw2];exact Kept.ofBelow (hb01.alloc hb01.size _)
  have htb0:=hb01.size;obtain⟨tb,htb⟩:∃ tb,w1'.heap.size=tb:=⟨_,rfl⟩;rw[htb] at hB2 htb0;have htbb:tb≠b:=by omega
  have hbl:b<w2.heap.size:=h2.blt;have hgl:g<w2.heap.size:=h2.glt;have htl:=hB2.lt;go_upto_block 0 with fail
  clear hb1 hb1' hb01 h1 h1' hw2 htb;go_cut [7] (fun s7 w9=>∃ k f1 L,KOwn w9 w2.heap.size b s7 L∧ZIn w9 b g cap ts k f1∧Kept (At b) w2 w9∧Blk w9 tb [.int .i64 t.kind,.int .i64 t.place,.int .i64 t.num,.string (bs t.text),.bool t.glue]∧Hid (WordEnd ts d i how X (zS d - 12) k f1 L))
  case first =>
   go_wp2_with fail
   go_loopg [7] (ts.length - i) (fun m s7 wr=>∃ k L,m=ts.length - k∧KOwn wr w2.heap.size b s7 L∧ZIn wr b g cap ts k none∧Kept (At b) w2 wr∧Blk wr tb [.int .i64 t.kind,.int .i64 t.place,.int .i64 t.num,.string (bs t.text),.bool t.glue]∧Hid (WordAt ts f0 d i how X k L))
   case atStart=>exact⟨i,[],rfl,KOwn.nil _ _ _,h2,Kept.refl _ _,hB2,HA0⟩
   case round =>
    clear h2 hB2 HA0;obtain⟨k,L,rfl,hO,h3,hK3,hB3,HA⟩:=hrel;obtain⟨fk,hfk,hne,hstep⟩:=HA.out.step F hhow HXN.out;have HST:=Lib.hid hstep;have hlt3:=HA.out.lt;have hle3:=HA.out.le;have hit3:=HA.out.item;have hnum3:L.length≤1001:=by have h1:=HA.out.num;have:=F.few;omega
    have HC:=Lib.hid (HOO.out fk hfk wr k d how hhow hd hlt3 hit3 h3 (Lib.hid hne));obtain⟨ra,rc,rfl⟩:=hO.form;clear hstep HA hit3 hne h3;go_wp2_with fail
    refine HC.out.mono ?_;rintro e w9 ⟨v9,l,k',f',rfl,hN9,hT9,h9,hle9,hlt9,hK9,hR9⟩;obtain⟨hbad,hgood⟩:=HST.out k' f' l hT9 hle9 hlt9 hR9;have HBAD:=Lib.hid hbad;have HGOOD:=Lib.hid hgood;have HN:=Lib.hid hN9;obtain⟨g9,cp9,rfl,-⟩:=hN9;have hK39:=hK3.same hK9;have hB9:=hB3.kept hK9 htbb;have HO:=Lib.hid (hO.kept hbl hK9);have hsz1:=hK39.size;clear hO hK3 hK9 HST hR9 hB3 hbad hgood HC;obtain⟨us,u1,u2,u3⟩:=HO.out;have U1:=Lib.hid u1;have U2:=Lib.hid u2;have U3:=Lib.hid u3;have hOA:∀ o,(w9.alloc o).ownsRow w2.heap.size 23 1 (.slice ra L.length rc) L.length us:=fun o=>ownsRow_kept U2.out (Kept.ofBelow (S:=Nowhere) ((Below.refl _ w9).alloc (Nat.le_refl _) o)) (fun _ _ _ e=>e)
    clear u1 u2 u3;go_wp2_with (at_builtin;refine wpList_append_own _ rfl _ _ 99 rfl w2.heap.size 23 k0 _ 1 24 Tryz.underlying99 hk0 hk1 hk2 hk3 rfl (by decide) _ L.length _ rfl (hOA _) ⟨w9.heap.size,0,none⟩ 1 1 [.slice (some ⟨g9,0,none⟩) (l).length cp9] rfl rfl ?c1 ?c2 ?c3 ?c4 ?c5 ?_)
    case c1=>exact cells_new (by simp)
    case c2=>intro u9 hu9;simp at hu9;subst hu9;rfl
    case c3=>unfold maxLen;omega
    case c4=>omega
    case c5=>simp;omega
    intro v6 w6 hown' hgrow _;have hS6:=(h9).grown hgrow (row_tag U2.out (by decide)) hbl hgl
    obtain⟨hO6,hb6⟩:=KOwn.grown hsz1 U1.out U2.out U3.out HN.out hown' hgrow;clear hOA hown' hgrow U1 U2 U3;have hK6:=hK39.belowB hb6 (Nat.le_refl _);have hB6:=hB9.of_heap (hb6.block tb htl);obtain⟨M,hM⟩:∃ M,L++[l]=M:=⟨_,rfl⟩;rw[hM] at hO6 HBAD HGOOD;obtain⟨ma,mc,rfl⟩:=hO6.form;clear hM hb6 hK39 hB9 HO hsz1 h9;go_wp2_with fail
    refine (zkind_any F hS6 hlt9 15 _ rfl).mono ?_;rintro e w7 ⟨rfl,hb7⟩;have h7:=hS6.below hb7;have hO7:=hO6.below hbl hb7;have hK7:=hK6.andBelow hb7;have hB7:=hB6.below hb7;clear hS6 hO6 hK6 hB6 hb7
    cases f' with
    | some x =>
     have HE:=Lib.hid (HBAD.out x rfl);go_wp2_with fail
     refine (zitem_any F h7 hlt9).mono ?_;rintro e w8 ⟨rfl,hb8⟩;have h8:=h7.below hb8;have hO8:=hO7.below hbl hb8;have hK8:=hK7.andBelow hb8;have hB8:=hB7.below hb8;go_wp2_with fail
     go_meet
     case rel=>exact⟨k',_,M,hO8,h8,hK8,hB8,HE⟩
    | none =>
     obtain⟨hkk,hcar,hno⟩:=HGOOD.out rfl
     cases hx:isK ts k' [15] with
     | true =>
      obtain⟨q1,q2⟩:=hcar hx;have Q1:=Lib.hid q1;have Q2:=Lib.hid q2;have hj:=skP_le (ts:=ts) hlt9;have hjk:k'≤skP ts k':=by unfold skP;omega
      obtain⟨jj,hjj⟩:∃ jj,skP ts k'=jj:=⟨_,rfl⟩;have HJJ:=Lib.hid hjj;rw[hjj] at Q1 Q2 hj hjk;have hsk:=(skip_of F.T.fix.good hlt9 (by decide) hx).1
      clear hx hcar hno q1 q2 HBAD HGOOD hjj;go_wp2_with fail
      refine (znext_any F h7 hlt9).mono ?_;rw[HJJ.out];rintro e w8 ⟨rfl,h8,hK8'⟩;have hK8:=hK7.same hK8';have hO8:=hO7.kept hbl hK8';have hB8:=hB7.kept hK8' htbb;clear h7 hO7 hK7 hB7 hK8';go_wp2_with fail
      refine (zitem_any F h8 hj.2).mono ?_;rintro e w5 ⟨rfl,hb5⟩;have h5:=h8.below hb5;have hO5:=hO8.below hbl hb5;have hK5:=hK8.andBelow hb5;have hB5:=hB8.below hb5;clear h8 hO8 hK8 hB8 hb5
      cases hy:itemP ts jj with
      | true =>
       have HW:=Lib.hid (Q2.out hy);clear hy;go_wp2_with fail
       go_roundg (ts.length - jj)
       case measure=>omega
       case rel=>exact⟨jj,M,rfl,hO5,h5,hK5,hB5,HW⟩
      | false =>
       have HE:=Lib.hid (show ZRelW i none (zS d - 11) (pWord ts (f0+1) d i how) jj (some (formF ts jj)) (newP 20 0 [] []) from by
        rw[pWord,HXE.out,Q1.out hy];exact⟨rfl,by simp [newP];unfold zS;omega⟩)
       clear hy;go_wp2_with fail
       refine (zwrong_any F h5 hj.2).mono ?_;rintro e w4 ⟨rfl,h4,hK4⟩;go_wp2_with fail
       refine (z12nop_any h4.blt).mono ?_;rintro e w3 ⟨v3,rfl,hN3,hb3⟩;obtain⟨g3,c3,rfl,-⟩:=id hN3;go_wp2_with fail
       go_ret;exact ZOutW.mk rfl hN3 (Tree.leaf _ _ _) (h4.below hb3) (by omega) hj.2 (((hK2.same hK5).same hK4).andBelow hb3) HE.out
     | false =>
      obtain⟨q1,q2⟩:=hno hx;have Q1:=Lib.hid q1;have Q2:=Lib.hid q2;clear hx hcar hno q1 q2 HBAD HGOOD;go_wp2_with fail
      refine (zitem_any F h7 hlt9).mono ?_;rintro e w5 ⟨rfl,hb5⟩;have h5:=h7.below hb5;have hO5:=hO7.below hbl hb5;have hK5:=hK7.andBelow hb5;have hB5:=hB7.below hb5;clear h7 hO7 hK7 hB7 hb5
      cases hy:itemP ts k' with
      | false =>
       have HE:=Lib.hid (Q1.out (.inl hy));clear hy;go_wp2_with fail
       go_meet
       case rel=>exact⟨k',none,M,hO5,h5,hK5,hB5,HE⟩
      | true =>
       have HY:=Lib.hid hy;clear hy;go_wp2_with fail
       refine (znow_any F h5 hlt9).mono ?_;rintro e w6 ⟨rfl,hb6⟩;have h6:=h5.below hb6;have hO6:=hO5.below hbl hb6;have hK6:=hK5.andBelow hb6;have hB6:=hB5.below hb6;clear h5 hO5 hK5 hB5 hb6;unfold BTok.cells
       cases hg:(tkAt ts k').glue with
       | false =>
        have HE:=Lib.hid (Q1.out (.inr hg));clear hg;go_wp2_with fail
        go_meet
        case rel=>exact⟨k',none,M,hO6,h6,hK6,hB6,HE⟩
       | true =>
        have HW:=Lib.hid (Q2.out HY.out hg);clear hg;go_wp2_with fail
        go_roundg (ts.length - k')
        case measure=>omega
        case rel=>exact⟨k',M,rfl,hO6,h6,hK6,hB6,HW⟩
  case rest =>
   rename World=>w9
   obtain⟨k,f1,L,hO,h9,hK9,hB9,HE⟩:=hcut;have hpos:=HE.out.pos
   have hnum:L.length≤1001:=by
    have h1:=HE.out.num;have h2:=HE.out.lt;have:=F.few
    split at h1 <;> omega
   have HNE:=Lib.hid (fun l hl=>(HE.out.trees l hl).pos)
   have HKS:=Lib.hid (hO.ksl hbl);obtain⟨og,oc,u,rfl,hoc,hu,hN⟩:=HKS.out.first hpos HNE.out;obtain⟨gu,cu,rfl,-⟩:=id hN;have HN:=Lib.hid hN;have hbl9:=h9.blt;have hK29:=hK2.same hK9
   have HFL:=Lib.hid (show L.flatten.length≤90000 from by
    have h1:=HE.out.size;have h2:=HE.out.lt;have:=F.few
    unfold zS at h1;split at h1 <;> omega)
   clear hO hN hK2 hK9;generalize hhl:(L.headD []).length=hl at *;have HHL:=Lib.hid hhl;clear hhl;go_upto_region 14 with fail
   go_cut [64] (fun s64 w8=>∃ c:Bool,s64 = .bool c∧Below w9.heap.size w9 w8∧Hid (c=true ↔ L.length=1∧how=0∧t.kind=18∧liveP t.text=true))
   case first =>
    by_cases h1:L.length=1
    ·have e1:((L.length:Int)==1)=true:=by rw[beq_iff_eq];omega
     have H1:=Lib.hid h1;have c0:=hB9.cell 0 rfl;have c3:=hB9.cell 3 rfl;clear h1;generalize L.length=ll at *;obtain rfl | rfl:how=0∨how=1:=by omega
     ·rw[show livB 0=false from rfl]
      by_cases k18:t.kind=18
      ·have e18:((t.kind:Int)==18)=true:=by rw[beq_iff_eq];omega
       have HLV:=Lib.hid (r2Live_any (bs t.text) w9 (by rw[bs_size];have:=HTX.out;omega))
       rw[bs_list] at HLV;have K18:=Lib.hid k18;clear k18;go_wp2_with fail
       refine HLV.out.mono ?_;rintro e w8 ⟨rfl,hb8⟩;go_wp2_with fail
       go_meet
       case rel=>exact⟨_,rfl,hb8,Lib.hid ⟨fun e=>⟨H1.out,by trivial,K18.out,e⟩,fun e=>e.2.2.2⟩⟩
      ·have e18:((t.kind:Int)==18)=false:=by rw[beq_eq_false_iff_ne];omega
       have K18:=Lib.hid k18;clear k18;go_wp2_with fail
       go_meet
       case rel=>exact⟨_,rfl,Below.refl _ _,Lib.hid ⟨fun e=>(nomatch e),fun e=>absurd e.2.2.1 K18.out⟩⟩
     ·rw[show livB 1=true from rfl]
      go_wp2_with fail
      go_meet
      case rel=>exact⟨_,rfl,Below.refl _ _,Lib.hid ⟨fun e=>(nomatch e),fun e=>absurd e.2.1 (by decide)⟩⟩
    ·have e1:((L.length:Int)==1)=false:=by rw[beq_eq_false_iff_ne];omega
     have H1:=Lib.hid h1;clear h1;generalize L.length=ll at *;go_wp2_with fail
     go_meet
     case rel=>exact⟨_,rfl,Below.refl _ _,Lib.hid ⟨fun e=>(nomatch e),fun e=>absurd e.1 H1.out⟩⟩
   case rest =>
   rename World=>wq
   obtain⟨c,rfl,hbq,HC64⟩:=hcut;go_upto_if 64 with fail
   go_cut [9] (fun s9 w8=>∃ P,NSl w8 b s9 P∧Tree P∧Below w9.heap.size w9 w8∧Hid (L.length=1→P=wordOut t how L))
   case first =>
    cases c with
    | true =>
     obtain⟨h1,rfl,h3,h4⟩:=HC64.out.1 rfl;have HW1:=Lib.hid (show wordOut t 0 L=newP 6 0 [] [newP 1 1 (closedP t.text) []] from by unfold wordOut;rw[if_pos ⟨rfl,h1,h3,h4⟩])
     have hcl:=z12closed_any (bs t.text) wq (by rw[bs_size];have:=HTX.out;omega)
     rw[bs_list] at hcl;have HCL:=Lib.hid hcl;have c3:=(hB9.below hbq).cell 3 rfl;have hblq:b<wq.heap.size:=Nat.lt_of_lt_of_le hbl9 hbq.size;clear h1 h3 h4 hcl;go_wp2_with fail
     refine HCL.out.mono ?_;rintro e w7 ⟨rfl,hb7⟩;have hbl7:b<w7.heap.size:=Nat.lt_of_lt_of_le hblq hb7.size;go_wp2_with fail
     refine (z12node_any 1 1 (closedP t.text) [] _ hbl7 (KSl.nil _ _) (by simp) (by simp)).mono ?_
     rintro e w6 ⟨v6,rfl,hN6,hb6⟩;have hbl6:b<w6.heap.size:=Nat.lt_of_lt_of_le hbl7 hb6.size;have HN6:=Lib.hid hN6;obtain⟨g6,cp6,rfl,-⟩:=hN6;go_wp2_with fail
     refine (z12node_any 6 0 [] [newP 1 1 (closedP t.text) []] _ (by simp;omega) (KSl.new1 hbl6 (.inl HN6.out)) (by simp [newP]) (by simp)).mono ?_
     rintro e w5 ⟨v5,rfl,hN5,hb5⟩;obtain⟨g5,cp5,rfl,-⟩:=id hN5;have hb95:Below w9.heap.size w9 w5:=bNext (bNext (bNext hbq hb7) hb6) (bNextW hb5);go_wp2_with fail
     go_meet
     case rel=>exact⟨_,hN5,Tree.one (Tree.leaf _ _ _),hb95,Lib.hid fun _=>HW1.out.symm⟩
    | false =>
     have HH:=Lib.hid (show Tree (L.headD [])∧(L.length=1→L.headD []=wordOut t how L) from by
      have hc:=HC64.out.2;have htr:=HE.out.trees
      cases L with
      | nil=>simp at hpos
      | cons x L =>
       refine ⟨htr x (by simp),fun h1=>?_⟩
       obtain rfl:L=[]:=List.length_eq_zero_iff.1 (by simpa using h1)
       rw[zword_single,if_neg (fun h=>(nomatch (hc ⟨rfl,h⟩)))]
       rfl)
     go_wp2_with fail
     go_meet
     case rel=>exact⟨_,HN.out.below hbq,HH.out.1,hbq,Lib.hid HH.out.2⟩
   case rest =>
    rename World=>w8
    obtain⟨P,hN8,hT8,hb8,HP8⟩:=hcut;have HKS8:=Lib.hid (HKS.out.below hb8);have hbl8:b<w8.heap.size:=Nat.lt_of_lt_of_le hbl9 hb8.size;obtain⟨g8,cp8,rfl,-⟩:=id hN8;have HN8:=Lib.hid hN8;have HTW:=Lib.hid (tree_word HE.out.trees t how);clear hN8 HKS HN HHL;go_upto_region 16 with fail
    go_cut [73] (fun s73 wv=>∃ c:Bool,s73 = .bool c∧w8=wv∧Hid (c=decide (1<L.length)))
    case first =>
     have HD:=Lib.hid (show decide ((1:Int)<(L.length:Int))=decide (1<L.length) from by rw[Bool.eq_iff_iff,decide_eq_true_eq,decide_eq_true_eq];omega)
     obtain⟨cq,hcq⟩:∃ cq,decide ((1:Int)<(L.length:Int))=cq:=⟨_,rfl⟩;have HCQ:=Lib.hid hcq;generalize L.length=ll at *;go_wp2_with fail
     go_meet
     case rel=>exact⟨cq,by first | rfl | rw[HCQ.out],rfl,Lib.hid (by rw[← HCQ.out];exact HD.out)⟩
    case rest =>
    obtain⟨c2,rfl,rfl,HC73⟩:=hcut;go_upto_if 73 with fail
    go_cut [9] (fun s9 w7=>NSl w7 b s9 (wordOut t how L)∧Below w8.heap.size w8 w7)
    case first =>
     cases c2 with
     | false =>
      have HP:=Lib.hid (HP8.out (by
       have h2:L.length≤1:=by simpa using HC73.out.symm
       omega))
      have HN7:=Lib.hid (show NSl w8 b (.slice (some ⟨g8,0,none⟩) P.length cp8) (wordOut t how L) from by rw[← HP.out];exact HN8.out)
      clear HP8 HP;generalize L.length=ll at *;generalize P.length=pl at *;go_wp2_with fail
      go_meet
      case rel=>exact⟨HN7.out,Below.refl _ _⟩
     | true =>
      have h1:1<L.length:=by simpa using HC73.out.symm
      have HWO:=Lib.hid (show wordOut t how L=joinP L from by unfold wordOut;rw[if_neg (fun h=>by have:=h.2.1;omega)])
      have HNM:=Lib.hid (show L.length≤1000 from by
       have h2:=HE.out.num;have h3:=HE.out.lt;have:=F.few
       split at h2 <;> omega)
      have HC:=Lib.hid (r10Together_any how L b _ w8 hbl8 hpos HNM.out (by have:=HFL.out;omega) HE.out.lits HKS8.out)
      clear h1 HP8 HC73;generalize L.length=ll at *;generalize P.length=pl at *;obtain rfl | rfl:how=0∨how=1:=by omega
      ·rw[show livB 0=false from rfl]
       go_wp2_with fail
       refine HC.out.mono ?_;rintro e w7 ⟨v7,rfl,hN7,hb7⟩;obtain⟨g7,cp7,rfl,-⟩:=id hN7;go_wp2_with fail
       go_meet
       case rel=>exact⟨by rw[HWO.out];exact hN7,hb7⟩
      ·rw[show livB 1=true from rfl]
       go_wp2_with fail
       refine HC.out.mono ?_;rintro e w7 ⟨v7,rfl,hN7,hb7⟩;obtain⟨g7,cp7,rfl,-⟩:=id hN7;go_wp2_with fail
       go_meet
       case rel=>exact⟨by rw[HWO.out];exact hN7,hb7⟩
    case rest =>
     rename World=>w7
     obtain⟨hN7,hb7⟩:=hcut;obtain⟨g7,cp7,rfl,-⟩:=id hN7;have HN7:=Lib.hid hN7;have hb97:=bNext hb8 hb7;have h7:=h9.below hb97;have hK7:=hK29.andBelow hb97;have c1:=(hB9.below hb97).cell 1 rfl
     obtain⟨r,hr1,hr2⟩:∃ r,LongZ (wordOut t how L) r∧(f1=none→r=tooLong (wordOut t how L)):=by
      cases f1 with
      | none=>exact⟨_,word_long fun y hy=>(HE.out.good rfl y hy).join (HE.out.trees y hy),fun _=>rfl⟩
      | some x =>
       obtain⟨r,hr⟩:=LongZ.tree HTW.out;exact⟨r,hr,fun e=>(nomatch e)⟩
     have HWR:=Lib.hid (word_rel (r:=r) rfl HE.out HXE.out (fun e=>by rw[HT.out];exact hr2 e) hd)
     rw[HT.out] at HWR;have HLE:=Lib.hid HE.out.le;have HLT:=Lib.hid HE.out.lt;have HC:=Lib.hid (r10TooLong_any hr1 w7 _ HN7.out.lo (by have h1:=word_small L t how hpos HE.out.trees;have:=HFL.out;omega))
     clear hN7 hr1 hr2 hb8 hb7 h9 hK29 hB9 HKS8 HN8 HP8 HE;generalize (wordOut t how L).length=wl at *;go_wp2_with fail
     refine HC.out.mono ?_;rintro e w6 ⟨rfl,hb6⟩;have h6:=h7.below hb6;have c1:=bSome hb6 c1;have hK6:=hK7.andBelow hb6;have HN6:=Lib.hid (HN7.out.below hb6)
     cases r with
     | false =>
      go_wp2_with fail
      go_ret;exact ZOutW.mk rfl HN6.out HTW.out h6 HLE.out HLT.out hK6 HWR.out
     | true =>
      go_wp2_with fail
      refine (zfail_any h6 101 t.place _ _ rfl rfl (by omega) (by omega) HPL.out).mono ?_
      rintro e w5 ⟨rfl,h5,hK5⟩;go_wp2_with fail
      go_ret;exact ZOutW.mk rfl (HN6.out.kept hK5) HTW.out h5 HLE.out HLT.out (hK6.same hK5) HWR.out
 ·have hit:(f.isNone&&itemP ts i)=false:=by simpa using hit
  have HR:=Lib.hid (show ZRelW i f (zS d - 11) (pWord ts (f0+1) d i how) i (f.or (some (formF ts i))) (newP 20 0 [] []) from by
   cases f with
   | some x=>exact⟨rfl,by simp [newP]⟩
   | none =>
    have hd:=(hdz rfl).2;have hne:=hX.out rfl;rw[pWord] at hne ⊢
    cases f0 with
    | zero=>rw[pWordR] at hne;exact absurd rfl hne
    | succ f0 =>
     rw[pWordR,if_pos (by simpa using hit)]
     exact⟨rfl,by simp [newP];unfold zS;omega⟩)
  clear hX hdz;go_enter Tryz.func120,Tryz.ntmps120
  go_wp2_with fail
  refine (zitem_any F hS hi).mono ?_;rintro e w1 ⟨rfl,hb1⟩;rw[hit];have h1:=hS.below hb1;clear hit hS;go_wp2_with fail
  refine (zwrong_any F h1 hi).mono ?_;rintro e w2 ⟨rfl,h2,hK2⟩;go_wp2_with fail
  refine (z12nop_any h2.blt).mono ?_;rintro e w3 ⟨v3,rfl,hN3,hb3⟩;obtain⟨g3,c3,rfl,-⟩:=id hN3;go_wp2_with fail
  go_ret;exact ZOutW.mk rfl hN3 (Tree.leaf _ _ _) (h2.below hb3) (Nat.le_refl _) hi (((Kept.ofBelow hb1).same hK2).andBelow hb3) HR.out
end
end Go.Proofs.YtbplbehhlbkklaaGreatDoor
