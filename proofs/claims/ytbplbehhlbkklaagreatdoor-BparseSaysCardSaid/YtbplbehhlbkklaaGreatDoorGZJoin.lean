/- The document's parsers: trees joined (patoisref10.Together). -/
import Derived.Test.YtbplbehhlbkklaaGreatDoorGZM
import Derived.Test.YtbplbehhlbkklaaGreatDoorGZD
namespace Go.Proofs.YtbplbehhlbkklaaGreatDoor
set_option maxHeartbeats 8000000
set_option maxRecDepth 100000
open Go Go.RowKit
def LitsZ (n:Nat) (M:Nat) (L:List Prog):Prop:=∀ x∈L,0<x.length∧((ndAt x 0).kind=1→∃ s:List UInt8,x=newP 1 n s []∧s.length≤M)
theorem LitsZ.mono {n M M':Nat}{L:List Prog}(h:LitsZ n M L)(hM:M≤M'):LitsZ n M' L:=fun x hx=>⟨(h x hx).1,fun e=>by
 obtain⟨s,h1,h2⟩:=(h x hx).2 e;exact⟨s,h1,by omega⟩⟩
theorem LitsZ.lit {n M:Nat}{L:List Prog}(_h:LitsZ n M L){x:Prog}(hx:x∈L)(hk:(ndAt x 0).kind≠1):isLit x=false:=by
 cases hl:isLit x with
 | false=>rfl
 | true =>
  obtain⟨z,rfl,hz⟩:=isLit_one hl;exact absurd hz hk
theorem litsZ_step {n M:Nat}{O:List Prog}{x:Prog}{k:Nat}(hO:LitsZ n (M * k) O)(hx:LitsZ n M [x]):LitsZ n (M * (k+1)) (joinStep O x):=by
 have hM:M * k≤M * (k+1):=by rw[Nat.mul_succ];omega
 have hM1:M≤M * (k+1):=by rw[Nat.mul_succ];omega
 have happ:LitsZ n (M * (k+1)) (O++[x]):=fun y hy=>by
  rcases List.mem_append.1 hy with hy | hy
  ·exact hO.mono hM y hy
  ·exact hx.mono hM1 y hy
 have hxx:=hx x (by simp)
 by_cases h1:(ndAt x 0).kind=1
 ·obtain⟨s,rfl,hs⟩:=hxx.2 h1
  rcases List.eq_nil_or_concat O with rfl | ⟨Q,y,rfl⟩
  ·exact happ
  ·rw[List.concat_eq_append] at *;have hyy:=hO y (by simp)
   by_cases h2:(ndAt y 0).kind=1
   ·obtain⟨t,rfl,ht⟩:=hyy.2 h2;have e:joinStep (Q++[newP 1 n t []]) (newP 1 n s [])=Q++[newP 1 n (t++s) []]:=joinStep_both Q _ _ rfl rfl;rw[e];intro z hz
    rcases List.mem_append.1 hz with hz | hz
    ·exact hO.mono hM z (by simp [hz])
    ·rw[List.mem_singleton] at hz;subst hz;exact⟨newP_pos _ _ _ _,fun _=>⟨t++s,rfl,by rw[List.length_append,Nat.mul_succ];omega⟩⟩
   ·rw[joinStep_last Q y _ (hO.lit (by simp) h2)]
    exact happ
 ·rw[joinStep_no O x (hx.lit (by simp) h1)]
  exact happ
theorem litsZ_fold {n M:Nat}{L:List Prog}(h:LitsZ n M L):∀ k,k≤L.length→LitsZ n (M * k) ((L.take k).foldl joinStep [])
 | 0,_=>fun x hx=>by simp at hx
 | k+1,hk=>by
  have hkl:k<L.length:=by omega
  rw[fold_take L k L[k] (List.getElem?_eq_getElem hkl)]
  exact litsZ_step (litsZ_fold h k (by omega)) fun x hx=>by
   rw[List.mem_singleton] at hx;subst hx;exact h _ (List.getElem_mem hkl)
theorem r10Together_any (n:Nat)(L:List Prog)(b:Nat)(v:Value)(w:World)(hbl:b<w.heap.size)(hpos:0<L.length)(hnum:L.length≤1000)(hsz:L.flatten.length≤100000)(hT:LitsZ n 30000000 L)(h:KSl w b v L) :
  Calls Tryz.prog 144 #[v,.int .i64 n,.bool true] w fun e w'=>∃ v',e = .returned v'∧NSl w' b v' (joinP L)∧Below w.heap.size w w':=by
 obtain⟨k0,hk0,hk1,hk2,hk3⟩:=info_parts infoNodes;obtain⟨ao,cap,rfl,hc1,hc2,hc3⟩:=h;obtain⟨g,rfl,hg1,hg2,hg3⟩:=hc3 hpos;obtain⟨N,hN⟩:∃ N,L.length=N:=⟨_,rfl⟩;have HN:=Lib.hid hN;have HT:=Lib.hid hT;rw[hN] at hc1 hnum hpos ⊢;clear hN hc3 hT;go_enter Tryz.func144,Tryz.ntmps144
 go_upto_block 0 with fail
 go_cut [7] (fun s7 w9=>KOwn w9 w.heap.size b s7 (L.foldl joinStep [])∧Below w.heap.size w w9)
 case first =>
  go_wp2_with fail
  go_loopg [7,8,9] N (fun m o c la wr=>∃ k:Nat,m=N - k∧k≤N∧c = .int .i64 k∧KOwn wr w.heap.size b o ((L.take k).foldl joinStep [])∧Below w.heap.size w wr)
  case atStart=>exact⟨0,rfl,Nat.zero_le _,rfl,KOwn.nil _ _ _,Below.refl _ _⟩
  case round =>
   obtain⟨k,rfl,hk,rfl,hO,hb⟩:=hrel;obtain⟨O,hOO⟩:∃ O,(L.take k).foldl joinStep []=O:=⟨_,rfl⟩;have hfold:=join_fold (L.take k) [];rw[hOO] at hO hfold;simp only[List.flatten_nil,List.length_nil,txP_nil,Nat.zero_add,List.length_take] at hfold;have hOl:O.length≤k:=by omega
   by_cases hlt:k<N
   ·obtain⟨x,hx⟩:∃ x,L[k]?=some x:=⟨_,List.getElem?_eq_getElem (by have:=HN.out;omega)⟩
    have HS:=Lib.hid (show (L.take (k+1)).foldl joinStep []=joinStep O x by rw[fold_take L k x hx,hOO])
    have HLO:=Lib.hid (show LitsZ n (30000000 * k) O from by rw[← hOO];exact litsZ_fold HT.out k (by have:=HN.out;omega))
    have hxm:=List.mem_of_getElem? hx;obtain⟨hxp,hxl⟩:=HT.out x hxm;have HXL:=Lib.hid hxl;have HXN:=Lib.hid (fun e=>HT.out.lit hxm e)
    obtain⟨u,hu,hul⟩:=hg3 k x hx;replace hu:=bSome hb hu
    have hx0:NSl wr b u x:=by
     rcases hul.below hb with h | ⟨_,rfl⟩
     ·exact h
     ·simp at hxp
    obtain⟨oa,oc,rfl⟩:=hO.form;have HX0:=Lib.hid hx0;obtain⟨gx,cx,rfl,hcx1,hcx2,-,-,hxr⟩:=hx0;have x0:=hxr 0 (.int .i64 (ndAt x 0).kind) (by cases x with | nil=>simp at hxp | cons a l=>rfl)
    have HXR:=Lib.hid hxr;obtain⟨xl,hxl9⟩:∃ xl,x.length=xl:=⟨_,rfl⟩;have HXLN:=Lib.hid hxl9;rw[hxl9] at hxp hcx1 hu HX0;clear hul hOO hxl hx hxm hxr hxl9;have hw1:IntKind.i64.wrap ((O.length:Int) - 1)=(O.length:Int) - 1:=by rw[IntKind.wrap_i64];omega
    by_cases h1:(ndAt x 0).kind=1
    ·obtain⟨s,rfl,hs⟩:=HXL.out h1;rw[h1] at x0
     rcases List.eq_nil_or_concat O with rfl | ⟨Q,y,rfl⟩
     ·have HJ:=Lib.hid (show joinStep [] (newP 1 n s [])=[]++[newP 1 n s []] from rfl)
      simp only[List.length_nil] at hO hw1 ⊢;have hw0:decide ((0:Int)≤((0:Nat):Int) - 1)=false:=by decide
      obtain⟨us,u1,u2,u3⟩:=hO;have U1:=Lib.hid u1;have U2:=Lib.hid u2;have U3:=Lib.hid u3;have hsz1:=hb.size;have hOA:∀ o,(wr.alloc o).ownsRow w.heap.size 23 1 _ (0) us:=fun o=>ownsRow_kept (by first | exact U2.out | (have h:=U2.out;rw[HM.out] at h;exact h)) (Kept.ofBelow (S:=Nowhere) ((Below.refl _ wr).alloc (Nat.le_refl _) o)) (fun _ _ _ e=>e)
      clear u1 u2 u3;go_wp2_with (at_builtin;refine wpList_append_own _ rfl _ _ 99 rfl w.heap.size 23 k0 _ 1 24 Tryz.underlying99 hk0 hk1 hk2 hk3 rfl (by decide) _ (0) _ rfl (hOA _) ⟨wr.heap.size,0,none⟩ 1 1 [.slice (some ⟨gx,0,none⟩) xl cx] rfl rfl ?c1 ?c2 ?c3 ?c4 ?c5 ?_)
      case c1=>exact cells_new (by simp)
      case c2=>intro u9 hu9;simp at hu9;subst hu9;rfl
      case c3=>unfold maxLen;omega
      case c4=>omega
      case c5=>simp;omega
      intro v6 w6 hown' hgrow _;obtain⟨hO6,hb6⟩:=KOwn.grown hsz1 U1.out U2.out U3.out HX0.out (by first | exact hown' | (rw[HM.out];exact hown')) hgrow
      have hO7:KOwn w6 w.heap.size b v6 ((L.take (k+1)).foldl joinStep []):=by rw[HS.out,HJ.out];exact hO6
      have hb7:=hb.trans hb6;clear hO6 hOA hown' hgrow;go_wp2_with fail
      go_roundg (N - (k+1))
      case measure=>omega
      case rel=>exact⟨k+1,rfl,by omega,by go_num,hO7,hb7⟩
     ·rw[List.concat_eq_append] at *;obtain⟨og,uy,rfl,hol,hoc,hog,huy,hy,hfr⟩:=hO.last;obtain⟨hyp,hyl⟩:=HLO.out y (by simp)
      have HYL:=Lib.hid hyl;have HYN:=Lib.hid (fun e=>HLO.out.lit (x:=y) (by simp) e)
      obtain⟨n2,hn2⟩:∃ n2,Q.length=n2:=⟨_,rfl⟩;obtain⟨m1,hm1⟩:∃ m1,(Q++[y]).length=m1:=⟨_,rfl⟩;have HM:=Lib.hid hm1;have HN2:=Lib.hid hn2;have hw2:IntKind.i64.wrap ((m1:Int) - 1)=(n2:Int):=by rw[← hm1,hw1,← hn2];simp
      rw[hm1] at hO hol hoc hOl ⊢;rw[hn2] at hol huy hfr;have hlt2:(n2:Int)<(m1:Int):=by omega
      have hge2:decide ((0:Int)≤(n2:Int))=true:=by rw[decide_eq_true_eq];omega
      clear hm1 hn2 hw1 hyl;subst hol;have HY:=Lib.hid hy;obtain⟨gy,cy,rfl,hcy1,-,-,-,hyr⟩:=hy;have y0:=hyr 0 (.int .i64 (ndAt y 0).kind) (by cases y with | nil=>simp at hyp | cons a l=>rfl)
      have HYR:=Lib.hid hyr;obtain⟨yl,hyl9⟩:∃ yl,y.length=yl:=⟨_,rfl⟩;have HYLN:=Lib.hid hyl9;rw[hyl9] at hyp hcy1 huy HY;clear hyr hyl9;have i1:(n2:Int)<(n2:Int)+1:=by omega
      have i2:decide ((n2:Int)<(n2:Int)+1)=true:=by rw[decide_eq_true_eq];omega
      have i3:n2<n2+1:=by omega
      by_cases h2:(ndAt y 0).kind=1
      ·obtain⟨t,rfl,ht⟩:=HYL.out h2;rw[h2] at y0;have HJ:=Lib.hid (show joinStep (Q++[newP 1 n t []]) (newP 1 n s [])=Q++[newP 1 n (t++s) []] from joinStep_both Q _ _ rfl rfl)
       have x4:=HXR.out 4 (.string (bs s)) rfl;have y4:=HYR.out 4 (.string (bs t)) rfl;have hcat:bs t++bs s=bs (t++s):=bs_app _ _;have hz1:(bs t).size≤30000000000:=by rw[bs_size];omega
       have hz2:(bs s).size≤30000000:=by rw[bs_size];omega
       have hz3:¬ ((bs t).size+(bs s).size > 9223372036854775807):=by omega
       have HNW:=Lib.hid (show ∀ w9:World,b<w9.heap.size→Calls Tryz.prog 161 #[.int .i64 1,.int .i64 n,.string (bs t++bs s),.slice none 0 0] w9 fun e w'=>∃ v',e = .returned v'∧NSl w' b v' (newP 1 n (t++s) [])∧Below w9.heap.size w9 w' from fun w9 h9=>by
        rw[hcat];exact r10node_any 1 n (t++s) [] _ h9 (KSl.nil _ _) (by simp) (by simp))
       have hbr:b<wr.heap.size:=Nat.lt_of_lt_of_le hbl hb.size;have hogl:og<wr.heap.size:=block_lt_of_cell huy;generalize bs t=bt at *;generalize bs s=bx at *;clear hcat h1 h2;go_upto_region 7 with fail
       go_region_with (go_at_call 161;go_loud (refine (HNW.out _ (by first | exact hbr | (simp;exact hbr))).mono ?_;rintro e w9 ⟨v9,rfl,hN9,hb9⟩;obtain⟨g9,c9,rfl,-⟩:=id hN9;have hu':=bSome hb9 hu;have x4':=bSome hb9 x4;have y4':=bSome hb9 y4;have huy':=bSome hb9 huy;have hfr':=(World.frozen?_of_block (hb9.block og hogl)).trans hfr;have hbq:Below wr.heap.size wr w9:=(by first | exact hb9 | exact ((Below.refl _ wr).drew).trans hb9)))
       all_goals (have hO8:=KOwn.setLast (hO.below hbl hbq) hN9)
       all_goals (rw[HN2.out] at hO8)
       all_goals (have hb8:=(hb.trans (hbq.mono hb.size)).setCell (p:=⟨og,n2,none⟩) hog (.slice (some ⟨g9,0,none⟩) (newP 1 n (t++s) []).length c9))
       all_goals (have hO7:KOwn (w9.setCell ⟨og,n2,none⟩ (.slice (some ⟨g9,0,none⟩) (newP 1 n (t++s) []).length c9)) w.heap.size b (.slice (some ⟨og,0,none⟩) (n2+1) oc) ((L.take (k+1)).foldl joinStep []):=by rw[HS.out,HJ.out];exact hO8)
       all_goals (clear hO hO8 hN9 hb9 hbq HNW)
       all_goals (go_wp2_with fail)
       all_goals (go_roundg (N - (k+1)))
       all_goals (first | omega | exact⟨k+1,rfl,by omega,by go_num,hO7,hb8⟩)
      ·have e2:((ndAt y 0).kind==1)=false:=by rw[beq_eq_false_iff_ne];exact h2
       have HJ:=Lib.hid (joinStep_last Q y (newP 1 n s []) (HYN.out h2));clear h1 h2;generalize (ndAt y 0).kind=yk at *;obtain⟨us,u1,u2,u3⟩:=hO;have U1:=Lib.hid u1;have U2:=Lib.hid u2;have U3:=Lib.hid u3;have hsz1:=hb.size;have hOA:∀ o,(wr.alloc o).ownsRow w.heap.size 23 1 _ (n2+1) us:=fun o=>ownsRow_kept (by first | exact U2.out | (have h:=U2.out;rw[HM.out] at h;exact h)) (Kept.ofBelow (S:=Nowhere) ((Below.refl _ wr).alloc (Nat.le_refl _) o)) (fun _ _ _ e=>e)
       clear u1 u2 u3;go_wp2_with (at_builtin;refine wpList_append_own _ rfl _ _ 99 rfl w.heap.size 23 k0 _ 1 24 Tryz.underlying99 hk0 hk1 hk2 hk3 rfl (by decide) _ (n2+1) _ rfl (hOA _) ⟨wr.heap.size,0,none⟩ 1 1 [.slice (some ⟨gx,0,none⟩) xl cx] rfl rfl ?c1 ?c2 ?c3 ?c4 ?c5 ?_)
       case c1=>exact cells_new (by simp)
       case c2=>intro u9 hu9;simp at hu9;subst hu9;rfl
       case c3=>unfold maxLen;omega
       case c4=>omega
       case c5=>simp;omega
       intro v6 w6 hown' hgrow _;obtain⟨hO6,hb6⟩:=KOwn.grown hsz1 U1.out U2.out U3.out HX0.out (by first | exact hown' | (rw[HM.out];exact hown')) hgrow
       have hO7:KOwn w6 w.heap.size b v6 ((L.take (k+1)).foldl joinStep []):=by rw[HS.out,HJ.out];exact hO6
       have hb7:=hb.trans hb6;clear hO6 hOA hown' hgrow;go_wp2_with fail
       go_roundg (N - (k+1))
       case measure=>omega
       case rel=>exact⟨k+1,rfl,by omega,by go_num,hO7,hb7⟩
    ·have e1:((ndAt x 0).kind==1)=false:=by rw[beq_eq_false_iff_ne];exact h1
     have HJ:=Lib.hid (joinStep_no O x (HXN.out h1));clear h1;generalize (ndAt x 0).kind=xk at *;obtain⟨us,u1,u2,u3⟩:=hO;have U1:=Lib.hid u1;have U2:=Lib.hid u2;have U3:=Lib.hid u3;have hsz1:=hb.size;have hOA:∀ o,(wr.alloc o).ownsRow w.heap.size 23 1 _ (O.length) us:=fun o=>ownsRow_kept (by first | exact U2.out | (have h:=U2.out;rw[HM.out] at h;exact h)) (Kept.ofBelow (S:=Nowhere) ((Below.refl _ wr).alloc (Nat.le_refl _) o)) (fun _ _ _ e=>e)
     clear u1 u2 u3;go_wp2_with (at_builtin;refine wpList_append_own _ rfl _ _ 99 rfl w.heap.size 23 k0 _ 1 24 Tryz.underlying99 hk0 hk1 hk2 hk3 rfl (by decide) _ (O.length) _ rfl (hOA _) ⟨wr.heap.size,0,none⟩ 1 1 [.slice (some ⟨gx,0,none⟩) xl cx] rfl rfl ?c1 ?c2 ?c3 ?c4 ?c5 ?_)
     case c1=>exact cells_new (by simp)
     case c2=>intro u9 hu9;simp at hu9;subst hu9;rfl
     case c3=>unfold maxLen;omega
     case c4=>omega
     case c5=>simp;omega
     intro v6 w6 hown' hgrow _;obtain⟨hO6,hb6⟩:=KOwn.grown hsz1 U1.out U2.out U3.out HX0.out (by first | exact hown' | (rw[HM.out];exact hown')) hgrow
     have hO7:KOwn w6 w.heap.size b v6 ((L.take (k+1)).foldl joinStep []):=by rw[HS.out,HJ.out];exact hO6
     have hb7:=hb.trans hb6;clear hO6 hOA hown' hgrow;go_wp2_with fail
     go_roundg (N - (k+1))
     case measure=>omega
     case rel=>exact⟨k+1,rfl,by omega,by go_num,hO7,hb7⟩
   ·obtain rfl:k=N:=by omega
    have hT:L.take k=L:=List.take_of_length_le (by have:=HN.out;omega)
    rw[hT] at hOO;rw[← hOO] at hO;generalize O.length=ol at *;go_wp2_with fail
    go_meet
    case rel=>exact⟨hO,hb⟩
 case rest =>
  rename World=>w1
  obtain⟨hO,hb1⟩:=hcut;have hlen:=(join_fold L []);simp only[List.flatten_nil,List.length_nil,txP_nil,Nat.zero_add] at hlen;obtain⟨O,hOO⟩:∃ O,L.foldl joinStep []=O:=⟨_,rfl⟩;rw[hOO] at hO hlen;have HOO:=Lib.hid hOO
  have HNE:=Lib.hid (show ∀ y∈O,0<y.length from fun y hy=>by
   have h:=litsZ_fold HT.out L.length (Nat.le_refl _);rw[List.take_length,hOO] at h;exact (h y hy).1)
  have HPO:=Lib.hid (show 0<O.length from by
   rcases List.eq_nil_or_concat L with e | ⟨Q,y,e⟩
   ·have h:=HN.out;rw[e] at h;simp at h
    omega
   ·rw[← hOO,e,List.concat_eq_append,List.foldl_append];exact joinStep_pos _ _)
  have hb1':=hb1.size;have hbl1:b<w1.heap.size:=by omega
  have HK:=Lib.hid (hO.ksl hbl);obtain⟨M,hM⟩:∃ M,O.length=M:=⟨_,rfl⟩;have HM:=Lib.hid hM;obtain⟨oa,oc,rfl⟩:=hO.form;rw[hM] at HK ⊢;have hM1:M≤1000:=by have:=HN.out;omega
  clear hO hOO hM;go_upto_block 2 with fail
  go_cut [10] (fun s10 w9=>KOwn w9 w1.heap.size b s10 O∧Below w1.heap.size w1 w9)
  case first =>
   go_wp2_with fail
   go_loopg [10,11] M (fun m o c wr=>∃ k:Nat,m=M - k∧k≤M∧c = .int .i64 k∧KOwn wr w1.heap.size b o (O.take k)∧Below w1.heap.size w1 wr)
   case atStart=>exact⟨0,rfl,Nat.zero_le _,rfl,KOwn.nil _ _ _,Below.refl _ _⟩
   case round =>
    obtain⟨k,rfl,hk,rfl,hR,hb⟩:=hrel;have hRl:(O.take k).length=k:=by rw[List.length_take,HM.out];omega
    by_cases hlt:k<M
    ·obtain⟨x,hx⟩:∃ x,O[k]?=some x:=⟨_,List.getElem?_eq_getElem (by have:=HM.out;omega)⟩
     have HTK:=Lib.hid (show O.take (k+1)=O.take k++[x] from by
      obtain⟨hk,e⟩:=List.getElem?_eq_some_iff.1 hx;rw[List.take_succ_eq_append_getElem hk,e])
     obtain⟨ao',cap',e9,q1,q2,q3⟩:=HK.out;injection e9 with e91 e92 e93
     subst e91 e93;clear e92;obtain⟨og,rfl,q4,q5,q6⟩:=q3 (by have:=HM.out;omega)
     obtain⟨u,hu,hul⟩:=q6 k x hx;replace hu:=bSome hb hu
     have hx0:NSl wr b u x:=by
      rcases hul.below hb with h | ⟨_,rfl⟩
      ·exact h
      ·exact absurd (HNE.out _ (List.mem_of_getElem? hx)) (by simp)
     obtain⟨ra,rc,rfl⟩:=hR.form;have HX0:=Lib.hid hx0;obtain⟨gx,cx,rfl,-⟩:=hx0;obtain⟨xl,hxl9⟩:∃ xl,x.length=xl:=⟨_,rfl⟩;rw[hxl9] at hu HX0;have HRL:=Lib.hid hRl;obtain⟨us,u1,u2,u3⟩:=hR;have U1:=Lib.hid u1;have U2:=Lib.hid u2;have U3:=Lib.hid u3;have hsz1:=hb.size;have hOA:∀ o,(wr.alloc o).ownsRow w1.heap.size 23 1 (.slice ra (O.take k).length rc) k us:=fun o=>ownsRow_kept (by have h:=U2.out;rw[HRL.out] at h ⊢;exact h) (Kept.ofBelow (S:=Nowhere) ((Below.refl _ wr).alloc (Nat.le_refl _) o)) (fun _ _ _ e=>e)
     rw[hRl] at hOA ⊢;clear u1 u2 u3 q6 q3 hul hx hxl9 hRl;go_wp2_with (at_builtin;refine wpList_append_own _ rfl _ _ 99 rfl w1.heap.size 23 k0 _ 1 24 Tryz.underlying99 hk0 hk1 hk2 hk3 rfl (by decide) _ k _ rfl (hOA _) ⟨wr.heap.size,0,none⟩ 1 1 [.slice (some ⟨gx,0,none⟩) xl cx] rfl rfl ?c1 ?c2 ?c3 ?c4 ?c5 ?_)
     case c1=>exact cells_new (by simp)
     case c2=>intro u9 hu9;simp at hu9;subst hu9;rfl
     case c3=>unfold maxLen;omega
     case c4=>omega
     case c5=>simp;omega
     intro v6 w6 hown' hgrow _;obtain⟨hO6,hb6⟩:=KOwn.grown hsz1 U1.out U2.out U3.out HX0.out (by rw[HRL.out];exact hown') (by rw[HRL.out];exact hgrow)
     have hO7:KOwn w6 w1.heap.size b v6 (O.take (k+1)):=by rw[HTK.out];exact hO6
     have hb7:=hb.trans hb6;clear hO6 hOA hown' hgrow;go_wp2_with fail
     go_roundg (M - (k+1))
     case measure=>omega
     case rel=>exact⟨k+1,rfl,by omega,by go_num,hO7,hb7⟩
    ·obtain rfl:k=M:=by omega
     rw[List.take_of_length_le (by have:=HM.out;omega)] at hR
     go_wp2_with fail
     go_meet
     case rel=>exact⟨hR,hb⟩
  case rest =>
   rename World=>w2
   obtain⟨hR,hb2⟩:=hcut;have hb12:=hb1.trans (hb2.mono hb1');have hKS:=hR.ksl hbl1;have hbl2:b<w2.heap.size:=Nat.lt_of_lt_of_le hbl1 hb2.size;obtain⟨ra,rc,rfl⟩:=hR.form;have hM0:((O.length:Int)==0)=false:=by rw[beq_eq_false_iff_ne];have:=HM.out;have:=HPO.out;omega
   by_cases h1:O.length=1
   ·obtain⟨y,rfl⟩:∃ y,O=[y]:=List.length_eq_one_iff.1 h1;have HJ:=Lib.hid (joinP_one HOO.out);obtain⟨og,cap',uy,e9,hoc,huy,hy⟩:=hKS.one (HNE.out y (by simp))
    injection e9 with e91 e92 e93
    subst e91 e93;clear e92;simp only[List.length_cons,List.length_nil,Nat.zero_add] at huy ⊢;have HY:=Lib.hid hy;obtain⟨gy,cy,rfl,-⟩:=hy;clear hKS hR;go_wp2_with fail
    go_ret;exact⟨_,rfl,by rw[HJ.out];exact HY.out,hb12⟩
   ·have HJ:=Lib.hid (joinP_many HOO.out h1);have k1:((O.length:Int)==1)=false:=by rw[beq_eq_false_iff_ne];omega
    have HC:=Lib.hid (r10node_any 4 0 [] O _ hbl2 hKS (by omega) (by have:=HM.out;omega))
    generalize O.length=ol at *;clear hKS hR;go_wp2_with fail
    refine HC.out.mono ?_;rintro e w3 ⟨v3,rfl,hN3,hb3⟩;obtain⟨g3,c3,rfl,-⟩:=id hN3;go_wp2_with fail
    go_ret;exact⟨_,rfl,by rw[HJ.out];exact hN3,bNext hb12 hb3⟩
end Go.Proofs.YtbplbehhlbkklaaGreatDoor
