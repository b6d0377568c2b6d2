/- aparse.made: a command of settings and words. -/
import Derived.Test.YtbpjobmpacjgcaaGreatDoorGZD
namespace Go.Proofs.YtbpjobmpacjgcaaGreatDoor
set_option maxHeartbeats 8000000
set_option maxRecDepth 100000
open Go Go.RowKit Go.Shelf
theorem IB (S:List (List UInt8×aA))(b:Nat)(v1 v2 v3:Value)(w:World)(hb:b<w.heap.size)(h1:SSl w v1 (S.map (·.1)))(h2:KSl w b v2 (S.map (·.2)))(h3:KSl w b v3 [])(hS:∀ x∈S,0<x.2.length)(hsl:cQ S≤1000000)(hn:S.length≤25000) :
  Calls Tryz.prog 225 #[v1,v2,v3] w fun e w'=>∃ v',e = .returned v'∧NSl w' b v' (dT S [])∧Below w.heap.size w w':=by
 obtain⟨k0,hk0,hk1,hk2,hk3⟩:=info_parts jB;obtain⟨ao1,n,c1,rfl⟩:∃ a n c,v1 = .slice a n c:=by obtain⟨a,c,rfl,_⟩:=h1;exact⟨_,_,_,rfl⟩
 obtain⟨ao2,n2,c2,rfl⟩:∃ a n c,v2 = .slice a n c:=by obtain⟨a,c,rfl,_⟩:=h2;exact⟨_,_,_,rfl⟩
 obtain⟨ao3,c3,rfl,-⟩:=h3;obtain⟨e1,d1,-,f1⟩:=h1.facts;obtain⟨e2,d2,f2⟩:=h2.facts (fun l hl=>by obtain⟨x,hx,rfl⟩:=List.mem_map.1 hl;exact hS x hx)
 rw[List.length_map] at e1 e2;obtain rfl:n2=n:=by omega
 have HE:=Ng e1;have HSL:=Ng hS;have HF1:=Ng f1;have HF2:=Ng f2;rw[← e1] at hn;clear e1 e2 f1 f2 hS h1 h2;simp only[List.length_nil];go_enter Tryz.func225,Tryz.ntmps225
 go_wp2_with fail
 go_loopg [7,8,9,18] n2 (fun m v x s c wr=>∃ k:Nat,m=n2 - k∧k≤n2∧c = .int .i64 k∧aO wr w.heap.size b v ((S.take k).map kX)∧Below w.heap.size w wr∧Boxed wr w.heap.size 25 (.slice ao2 n2 c2))
 case atStart=>exact⟨0,rfl,Nat.zero_le _,rfl,aO.nil _ _ _,(Below.refl _ _).alloc (Nat.le_refl _) _,Boxed.new _ _ _⟩
 case round =>
  obtain⟨k,rfl,hk,rfl,hO,hbr,hBx⟩:=hrel;have hbx:=hBx.cell;obtain⟨ao,acap,rfl⟩:=hO.form;have hlk:((S.take k).map kX).length=k:=by rw[List.length_map,List.length_take];have:=HE.out;omega
  have HO:=Ng hO;rw[hlk] at HO ⊢;clear hO
  by_cases hlt:k<n2
  ·obtain⟨g1,rfl,q1⟩:=HF1.out k hlt;obtain⟨g2,u,rfl,q2,q3⟩:=HF2.out k hlt;have q1:=aF hbr q1;have q2:=aF hbr q2;have q3:=q3.below hbr;have HT:=Ng (Cw S k (by have:=HE.out;omega))
   have hql:((S.map (·.2)).getD k []).length≤1000000:=by
    have hkS:k<S.length:=by have:=HE.out;omega
    have h9:=Bn S _ (List.getElem_mem hkS);rw[List.getD_eq_getElem?_getD,List.getElem?_map,List.getElem?_eq_getElem hkS];show S[k].2.length≤1000000
    omega
   generalize (S.map (·.2)).getD k []=q at q3 HT hql;generalize (S.map (·.1)).getD k []=nm at q1 HT;obtain⟨gu,cu,rfl,-⟩:=id q3;have hszr:=hbr.size;have HN:=Ng (bT 22 0 nm [q] b _ _ (by simp;omega) (KSl.new1 (w:=wr) (by omega) (.inl q3)) (by simp;omega) (by simp))
   go_wp2_with fail
   refine HN.out.mono ?_;rintro e w5 ⟨v5,rfl,hN5,hb5⟩;have hb6:=aE ((Below.refl _ wr).alloc (Nat.le_refl _) _) hb5;have hsz5:=hb6.size;obtain⟨us,u1,u2,u3⟩:=HO.out.below hb hb6;rw[hlk] at u2;have hOA:∀ o,(w5.alloc o).ownsRow w.heap.size 26 1 _ k us:=fun o=>bM u2 (aB.ofBelow (S:=bW) ((Below.refl _ w5).alloc (Nat.le_refl _) o)) (fun _ _ _ e=>e)
   have HN5:=Ng hN5;obtain⟨g5,c5,rfl,-⟩:=id hN5;generalize hz:List.length (aC 22 0 nm [q])=z at hN5 ⊢;clear hN5;go_wp2_with (at_builtin;refine wpList_append_own _ rfl _ _ 25 rfl w.heap.size 26 k0 _ 1 24 Tryz.underlying25 hk0 hk1 hk2 hk3 rfl (by decide) _ _ _ rfl (hOA _) ⟨w5.heap.size,0,none⟩ 1 1 [.slice (some ⟨g5,0,none⟩) z c5] rfl rfl ?c1 ?c2 ?c3 ?c4 ?c5 ?_)
   case c1=>exact cL (by simp)
   case c2 =>
    intro u hu;simp at hu
    subst hu;rfl
   case c3=>unfold maxLen;omega
   case c4=>omega
   case c5=>simp;omega
   intro v6 w6 hown' hgrow _;obtain⟨hO7,hb7⟩:=aO.grown (w0:=w) (w:=w5) (L:=(S.take k).map kX) (l:=aC 22 0 nm [q]) (by omega) u1 (by rw[hlk];exact u2) u3 HN5.out (by rw[hlk];rw[hz];exact hown') hgrow
   rw[← HT.out] at hO7;have hw1:IntKind.i64.wrap ((k:Int)+1)=(k:Int)+1:=by rw[IntKind.wrap_i64];omega
   have hBx7:Boxed w6 w.heap.size 25 (.slice (some ⟨g2,0,none⟩) n2 c2):=by
    have h8:Boxed w5 w.heap.size 25 (.slice (some ⟨g2,0,none⟩) n2 c2):=(hb6.block _ hBx.lt).trans hBx;have h9:=h8.alloc (.cells #[Value.slice (some ⟨g5,0,none⟩) z c5] 26);exact h9.kept hgrow (h9.not_row (by decide) (hOA _))
   clear u1 u2 u3 hOA;go_wp2_with fail
   go_roundg (n2 - (k+1))
   case measure=>omega
   case rel=>exact⟨k+1,rfl,by omega,by go_num,hO7,hbr.trans (hb6.mono hbr.size |>.trans hb7),hBx7⟩
  ·obtain rfl:k=n2:=by omega
   have hal:S.take k=S:=List.take_of_length_le (by have:=HE.out;omega)
   rw[hal] at HO hlk;have hlen:=Da S;have:=HE.out
   have HQ:=Ng (sP (S.map kX) b _ wr (by have:=hbr.size;omega) hlen.2 (by rw[hlen.1];omega) (by rw[hlk];omega) (HO.out.ksl hb))
   clear this;go_wp2_with fail
   refine HQ.out.mono ?_;rintro e w5 ⟨v5,rfl,hN5,hb5⟩;obtain⟨g5,c5,rfl,-⟩:=id hN5;go_wp2_with fail
   go_ret;exact⟨_,rfl,hN5,hbr.trans (hb5.mono hbr.size)⟩
attribute [local go_sem] Oper.semAt_some
theorem F8 (l:List (List UInt8×aA))(c:aA)(h:∀ t∈l,t.2.length≤200000):(iA l c).length≤c.length+200001 * l.length:=by
 induction l with
 | nil=>exact Nat.le_refl _
 | cons t l ih =>
  have h1:=ih (fun t ht=>h t (by simp [ht]))
  have h2:=h t (by simp)
  unfold iA at h1 ⊢;rw[List.foldr_cons,(jF _ _ _ _ _).1,List.length_cons];omega
theorem Jm (S:List (List UInt8×aA))(Ws:List aA)(b:Nat)(v1 v2 v3:Value)(w:World)(hb:b<w.heap.size)(h1:SSl w v1 (S.map (·.1)))(h2:KSl w b v2 (S.map (·.2)))(h3:KSl w b v3 Ws)(hS:∀ x∈S,0<x.2.length∧x.2.length≤200000)(hn:S.length≤25000)(hW:0<Ws.length)(hWl:Ws.flatten.length≤1000000)(hWn:Ws.length≤25000) :
  Calls Tryz.prog 225 #[v1,v2,v3] w fun e w'=>∃ v',e = .returned v'∧NSl w' b v' (dT S Ws)∧Below w.heap.size w w':=by
 have hmade:dT S Ws=iA S (aC 21 0 [] Ws):=by unfold dT iA;rw[if_neg (by omega)]
 rw[hmade];obtain⟨ao1,n,c1,rfl⟩:∃ a n c,v1 = .slice a n c:=by obtain⟨a,c,rfl,_⟩:=h1;exact⟨_,_,_,rfl⟩
 obtain⟨ao2,n2,c2,rfl⟩:∃ a n c,v2 = .slice a n c:=by obtain⟨a,c,rfl,_⟩:=h2;exact⟨_,_,_,rfl⟩
 obtain⟨e1,d1,d0,f1⟩:=h1.facts;obtain⟨e2,d2,f2⟩:=h2.facts (fun l hl=>by obtain⟨x,hx,rfl⟩:=List.mem_map.1 hl;exact (hS x hx).1)
 rw[List.length_map] at e1 e2;obtain rfl:n2=n:=by omega
 have HE:=Ng e1;have HF1:=Ng f1;have HF2:=Ng f2;have HSL:=Ng hS;rw[← e1] at hn;clear e1 e2 f1 f2 hS;have hb0:=(Below.refl w.heap.size w).alloc (Nat.le_refl _) (.cells #[.slice ao2 n2 c2] 25);have HN0:=Ng (bT 21 0 [] Ws b v3 (w.alloc (.cells #[.slice ao2 n2 c2] 25)) (by simp;omega) (h3.below hb0) (by omega) (by omega))
 obtain⟨ao3,c3,rfl,-⟩:=h3;have hlw:(aC 21 0 [] Ws).length≤1000001:=by rw[bN];omega
 generalize aC 21 0 [] Ws=c at HN0 hlw ⊢;have kw:((Ws.length:Int)==0)=false:=by rw[beq_eq_false_iff_ne];omega
 generalize Ws.length=n3 at HN0 kw ⊢;clear hW hWl hWn h1 h2 hmade;refine (callsIn_wide (n:=6)).1 ?_;refine callsIn_of_wp_marks Tryz.func225 rfl trivial ?_ rfl;simp only[Tryz.ntmps225,List.size_toArray,List.length_cons,List.length_nil,Nat.reduceAdd,Nat.reduceSub,Array.replicate_succ,Array.replicate_zero,List.push_toArray,List.append_toArray,List.nil_append,List.cons_append];gi_wp2_with fail
 refine ⟨trivial,(callsIn_wide.2 HN0.out).mono ?_⟩;rintro e w1 ⟨v5,rfl,hN5,hb1⟩;have hb2:=aE hb0 hb1;have bX:=(hb1.block _ (Boxed.new w 25 (.slice ao2 n2 c2)).lt).trans (Boxed.new w 25 (.slice ao2 n2 c2));have HN5:=Ng hN5;obtain⟨g5,z5,rfl,-⟩:=hN5;generalize hz:c.length=z at *;gi_wp2_with (refine ⟨trivial,?_⟩;gi_at_call 261;refine (callsIn_wide.2 (AX _ _ _ _)).mono ?_;rintro e w' ⟨rfl,rfl⟩)
 have bC:=(Boxed.new w1 26 (.slice (some ⟨g5,0,none⟩) z z5)).alloc (.cells #[.slice ao1 n2 c1] 22);have bS:=Boxed.new (w1.alloc (.cells #[.slice (some ⟨g5,0,none⟩) z z5] 26)) 22 (.slice ao1 n2 c1);have hB9:=((Below.refl w1.heap.size w1).alloc (Nat.le_refl _) (.cells #[.slice (some ⟨g5,0,none⟩) z z5] 26)).alloc (by simp) (.cells #[.slice ao1 n2 c1] 22)
 have hsz:((w1.alloc (.cells #[.slice (some ⟨g5,0,none⟩) z z5] 26)).alloc (.cells #[.slice ao1 n2 c1] 22)).heap.size=w1.heap.size+2:=by simp
 simp only[World.size_alloc] at bC bS;obtain⟨W0,hW0⟩:∃ W0,(w1.alloc (.cells #[.slice (some ⟨g5,0,none⟩) z z5] 26)).alloc (.cells #[.slice ao1 n2 c1] 22)=W0:=⟨_,rfl⟩;rw[hW0] at bC bS hB9 hsz ⊢;have hB0:=aE hb2 hB9;have hN0:=HN5.out.below hB9;have hX0:Boxed W0 w.heap.size 25 (.slice ao2 n2 c2):=(hB9.block _ (lt_of_block bX)).trans bX;have hCb:w.heap.size<w1.heap.size:=lt_of_block bX;obtain⟨Cb,hCbb⟩:∃ Cb,w1.heap.size=Cb:=⟨_,rfl⟩;rw[hCbb] at bC bS hsz hCb ⊢;clear hW0 hB9 HN5 hCbb hb0 hb1 hb2 bX HN0
 obtain⟨ap,hap1,hap2⟩:∃ ap:Option Addr,(0<n2→ap=ao1)∧(n2=0→ap=none):=by
  by_cases h:0<n2
  ·exact⟨ao1,fun _=>rfl,fun h2=>by omega⟩
  ·exact⟨none,fun h2=>absurd h2 h,fun _=>rfl⟩
 have hapl:∀ k,ap=some ⟨k,0,none⟩→k<w.heap.size:=fun k hk=>by
  by_cases h:0<n2
  ·rw[hap1 h] at hk;exact d0 k hk h
  ·rw[hap2 (by omega)] at hk
   cases hk
 obtain⟨ns,hns⟩:∃ ns:Nat→List UInt8,(fun j=>(S.map (·.1)).getD j [])=ns:=⟨_,rfl⟩
 obtain⟨qs,hqs⟩:∃ qs:Nat→aA,(fun j=>(S.map (·.2)).getD j [])=qs:=⟨_,rfl⟩
 have hq2:∀ j,j<n2→(qs j).length≤200000:=fun j hj=>by
  have hjS:j<S.length:=by have:=HE.out;omega
  rw[← hqs];dsimp only;rw[List.getD_eq_getElem?_getD,List.getElem?_map,List.getElem?_eq_getElem hjS];exact (HSL.out _ (List.getElem_mem hjS)).2
 have hcs2:∀ j,j<n2→∃ g,ao1=some ⟨g,0,none⟩∧ap=some ⟨g,0,none⟩∧W0.cell? ⟨g,j,none⟩=some (.string (bs (ns j))):=fun j hj=>by
  obtain⟨g,e,q1⟩:=HF1.out j hj;refine ⟨g,e,by rw[hap1 (by omega),e],?_⟩
  rw[← hns];exact aF hB0 q1
 have HFQ:=Ng (show ∀ j,j<n2→∃ g u,ao2=some ⟨g,0,none⟩∧w.cell? ⟨g,j,none⟩=some u∧NSl w b u (qs j) from fun j hj=>by
  rw[← hqs];exact HF2.out j hj)
 have HALL:=Ng (show (gX n2 0).reverse.map (fun x=>(ns x.1,qs x.1))=S from by
  have:=HE.out
  subst this;rw[← hns,← hqs,tZ,List.reverse_reverse];exact Bz S)
 have HT:=Ng (show ∀ l:List (Fin n2),(iA (l.map (fun x=>(ns x.1,qs x.1))) c).length≤z+200001 * l.length from fun l=>by
  have h:=F8 (l.map (fun x=>(ns x.1,qs x.1))) c (fun t ht=>by
   obtain⟨x,_,rfl⟩:=List.mem_map.1 ht;exact hq2 x.1 x.2)
  rw[List.length_map,hz] at h;exact h)
 clear hap1 hap2 d0 hns hqs HF1 HF2
 refine wpIn_rangeFunc_ownH rfl (by omega) (gf:=282) (lb:=#[.pointer (some ⟨Cb+1,0,none⟩)]) rfl trivial (enters_of Tryz.func282 (by kernel_rfl) rfl)
  (Ao Fence.wide (6 - 1) trivial rfl (by omega) (Cb+1) n2 c1 ao1 ap ns (by omega) d1 W0 bS.cell hcs2) cR.trans (vG (by omega) (fun k hk=>by have:=hapl k hk;omega)) (Below.refl _ _) (fun _=>rfl)
  (fun pre W=>(∃ v,Boxed W Cb 26 v∧NSl W b v (iA (pre.reverse.map (fun x=>(ns x.1,qs x.1))) c))∧Boxed W w.heap.size 25 (.slice ao2 n2 c2)∧(Below w.heap.size w W∧Cb+2≤W.heap.size))
  (fun _ _ _=>False)
  (OwnFrom.and (Own.from (fun s X Y row hs hg hr=>by obtain⟨v,h1,h2⟩:=hs;exact⟨v,boxed_own _ _ (fun (_:Unit)=>v) () X Y row h1 hg hr,h2.others hg hr⟩) _) (OwnFrom.and (Own.from (boxed_own _ _ (fun _=>_)) _) (OwnFrom.and (ownFrom_below (Nat.le_refl _) (by omega)) (fun _ _ _ _ hs hg _=>Nat.le_trans hs hg.size))))
  (fun _ _ _ _ _ hs _ _=>hs)
  ⟨⟨_,bC,hN0⟩,hX0,hB0,by omega⟩
  (fun x a' _=>a'={ tmps:=#[.slice ao1 n2 c1,.slice ao2 n2 c2,.slice ao3 n3 c3,undef,.pointer (some ⟨w.heap.size,0,none⟩),undef,.slice none 0 0,undef,undef,undef,.pointer (some ⟨Cb,0,none⟩),.int .i64 (x.1:Int),.string (bs (ns x.1)),.slice ao3 n3 c3,.int .i64 n3,.bool false,undef,undef,undef,undef,undef,undef,undef,undef,undef,undef,undef,undef,undef,undef,undef,undef,undef,undef,undef,undef,.slice ao3 n3 c3,.slice (some ⟨g5,0,none⟩) z z5,.slice ao1 n2 c1,.func (.func 282) #[] #[.pointer (some ⟨Cb+1,0,none⟩)],.int .i64 (x.1:Int),.string (bs (ns x.1)),undef,undef,undef,undef,undef,undef,undef,undef,undef],defers:=[] })
  (fun _ _ _ _ _ _ hs _ _=>hs)
  ?assign ?body ?done ?stop
 case assign =>
  rintro l pre x W K hi hK;gi_wp2
  exact hK _ _ (KeepsFrom.refl _ _) (cR.refl _ _ _) hi rfl
 case body =>
  rintro l pre x a' W hl ⟨r,hr⟩ ⟨⟨v,bV,hV⟩,hBX,hB,hsW⟩ rfl hlt;obtain⟨g2,u,rfl,q1,q2⟩:=HFQ.out x.1 x.2;have q1:=aF hB q1;have hux:=q2.below hB;have hqx:=hq2 x.1 x.2;have HA:Hid (iA ((pre++[x]).reverse.map (fun x=>(ns x.1,qs x.1))) c=aC 35 0 (ns x.1) [qs x.1,iA (pre.reverse.map (fun x=>(ns x.1,qs x.1))) c]):=Ng (by rw[List.reverse_append];rfl)
  have hal:=HT.out pre.reverse;rw[List.length_reverse] at hal;generalize iA (pre.reverse.map (fun x=>(ns x.1,qs x.1))) c=A at hV HA hal
  generalize qs x.1=q at hux hqx HA;generalize ns x.1=nm at HA ⊢;have hxn:=x.2;generalize x.1=xi at q1 hxn ⊢;obtain⟨gu,cu,rfl,-⟩:=id hux;obtain⟨gv,cv,rfl,-⟩:=id hV;have cV:=bV.cell;have fV:=bV.frozen;have cX:=hBX.cell;have hbA:=((Below.refl W.heap.size W).alloc (Nat.le_refl _) (.cells #[.slice (some ⟨gu,0,none⟩) q.length cu,.slice (some ⟨gv,0,none⟩) A.length cv] 26));have hKs:=KSl.new2 (w:=W) (b:=b) (by omega) (.inl hux) (.inl hV)
  have HN:=Ng (bT 35 0 nm [q,A] b _ _ (by simp;omega) (hKs.below (Below.refl _ _).drew) (by simp;omega) (by simp))
  have hmx:Tryz.prog.follows .mixedOrders=true:=by kernel_rfl
  have hne:∀ k,(k=Cb+1∨ap=some ⟨k,0,none⟩)→k≠Cb:=fun k hk=>by
   rcases hk with hk | hk
   ·omega
   ·have:=hapl k hk
    omega
  have HFIN:=Ng (show ∀ (w5:World) (g6 z6 c6:Nat),Below W.heap.size W w5→NSl w5 b (.slice (some ⟨g6,0,none⟩) z6 c6) (aC 35 0 nm [q,A]) →
    (KeepsFrom W0.heap.size W (w5.setCell ⟨Cb,0,none⟩ (.slice (some ⟨g6,0,none⟩) z6 c6))∧cR (Cb+1) ap W (w5.setCell ⟨Cb,0,none⟩ (.slice (some ⟨g6,0,none⟩) z6 c6))∧((∃ v,Boxed (w5.setCell ⟨Cb,0,none⟩ (.slice (some ⟨g6,0,none⟩) z6 c6)) Cb 26 v∧NSl (w5.setCell ⟨Cb,0,none⟩ (.slice (some ⟨g6,0,none⟩) z6 c6)) b v (iA ((pre++[x]).reverse.map (fun x=>(ns x.1,qs x.1))) c))∧Boxed (w5.setCell ⟨Cb,0,none⟩ (.slice (some ⟨g6,0,none⟩) z6 c6)) w.heap.size 25 (.slice (some ⟨g2,0,none⟩) n2 c2)∧(Below w.heap.size w (w5.setCell ⟨Cb,0,none⟩ (.slice (some ⟨g6,0,none⟩) z6 c6))∧Cb+2≤(w5.setCell ⟨Cb,0,none⟩ (.slice (some ⟨g6,0,none⟩) z6 c6)).heap.size))) from fun w5 g6 z6 c6 hb6 hN5=>by
   have hsz5:=hb6.size;have bV5:Boxed w5 Cb 26 _:=(hb6.block _ bV.lt).trans bV;have bX5:Boxed w5 w.heap.size 25 _:=(hb6.block _ hBX.lt).trans hBX
   have hN6:NSl (w5.setCell ⟨Cb,0,none⟩ (.slice (some ⟨g6,0,none⟩) z6 c6)) b (.slice (some ⟨g6,0,none⟩) z6 c6) _:=hN5.of_block fun g cur fz h4 _=>Below.heap_setCell _ _ _ _ (fun e=>by
    subst e;have h9:=h4.symm.trans bV5;injection h9 with h9
    injection h9 with _ h9 _
    exact absurd h9 (by decide))
   exact⟨((KeepsOthers.ofBelow hb6).trans (KeepsOthers.setCell _ _ _)).from _,(cR.ofBelow hb6 (by omega) (fun k hk=>by have:=hapl k hk;omega)).trans (fun k hk=>Below.heap_setCell _ _ _ _ (hne k hk)),⟨_,bV5.set _,by rw[HA.out];exact hN6⟩,(Below.heap_setCell _ _ _ _ (by show w.heap.size≠Cb;omega)).trans bX5,(hB.trans (hb6.mono hB.size)).setCell (by show w.heap.size≤Cb;omega) _,by simp;omega⟩)
  gi_wp2_with fail
  gi_region_with_o (refine ⟨trivial,?_⟩;gi_at_call 7;refine (CallsIn.inRound l (callsIn_wide.2 HN.out)).mono ?_;rintro e w5 ⟨v5,rfl,hN5,hb5⟩;have hb6:=hbA.drew.trans (hb5.mono hbA.size);obtain⟨g6,c6,rfl,-⟩:=id hN5;generalize hz:List.length (aC 35 0 nm [q,A])=z6 at hN5 ⊢;have cV6:=aF hb6 cV;have fV6:=kT hb6 cV fV)
  all_goals exact HFIN.out _ _ _ _ hb6 hN5
 case done =>
  rintro D ys W hD rfl ⟨⟨v,bV,hV⟩,hBX,hB,hsW⟩ hK;rw[HALL.out] at hV;have cV:=bV.cell;gi_wp2
  refine ⟨by simp,.inl ⟨_,_,rfl,run_takeDeferred hK,?_⟩⟩
  refine ⟨_,results_tmp rfl _ _ _,_,rfl,hV.others (grownBy_putObj' W D _) (fun r e=>by cases e;exact⟨_,hK,rfl⟩),hB.trans ?_⟩
  exact belowK_b (w:=W0) (by omega) W D _ _ hD hK rfl rfl
 case stop =>
  rintro D c pre W _ _ h _;exact h.elim
end Go.Proofs.YtbpjobmpacjgcaaGreatDoor
