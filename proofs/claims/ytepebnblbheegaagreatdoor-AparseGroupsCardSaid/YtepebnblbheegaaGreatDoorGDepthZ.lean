/- core.Depth ends: the walk, whole. -/
import Derived.Test.YtepebnblbheegaaGreatDoorGDepthW
namespace Go.Proofs.YtepebnblbheegaaGreatDoor
set_option maxHeartbeats 8000000
set_option maxRecDepth 100000
open Go Go.RowKit
theorem LOwn.new (w:World) (B:Nat) (hB:B≤w.heap.size) (x:Lv):LOwn (w.alloc (.cells #[.int .i64 x.c,.int .i64 x.e,.int .i64 x.left] 94)) B (.slice (some ⟨w.heap.size,0,none⟩) 1 1) [x] :=
 ⟨rfl,.inr ⟨w.heap.size,1,_,rfl,hB,World.alloc_heap_new w _,Nat.le_refl _,by unfold maxLen; omega,rfl,rfl⟩⟩
theorem LOwn.below {w w':World} {B:Nat} {v:Value} {L:List Lv} (h:LOwn w B v L) (hb:Below w.heap.size w w'):LOwn w' B v L :=
 ownsRow_kept h (Kept.ofBelow (S:=Nowhere) hb) (fun _ _ _ e=>e)
theorem LOwn.grown {w0 w w':World} {v v':Value} {L:List Lv} {x:Lv} {o:Obj} (hs:w0.heap.size≤w.heap.size) (h2:LOwn w w0.heap.size v L)
  (hown:w'.ownsRow w0.heap.size 94 3 v' (L.length+1) (L.flatMap Lv.cells++x.cells)) (hg:(w.alloc o).grownBy w' v.ownBlock):LOwn w' w0.heap.size v' (L++[x])∧Below w0.heap.size w w':=by
 have hb1:=(Below.refl w.heap.size w).alloc (Nat.le_refl _) o
 have hlt:=World.ownsRow.lt h2
 refine ⟨?_,(hb1.mono hs).trans ((Kept.grown (S:=fun k=>some k=v.ownBlock) (Kept.refl _ _) hg (fun k h _=>h.symm)).below (by simp; omega) (fun i hi e=>by have:=hlt _ e.symm; omega))⟩
 unfold LOwn
 rw [List.flatMap_append,List.length_append]
 simpa using hown
theorem cDepth_any (l:Prog) (b:Nat) (v:Value) (w:World) (hN:NSl w b v l) (hS:SizesOk l) (h0:0<l.length) (hn:l.length≤100000) :
  Calls Tryz.prog 32 #[v] w fun e w'=>(∃ m:Int,e = .returned (.int .i64 m)∧-1≤m∧m≤1000000)∧Below w.heap.size w w':=by
 obtain ⟨k0,hk0,hk1,hk2,hk3⟩:=info_parts infoLevel
 obtain ⟨g,cap,rfl,h1,h2,⟨cur,fz,h3⟩,h4,hR⟩:=hN
 have hgl:=lt_of_block h3
 obtain ⟨x0,hx0⟩:∃ x0,l[0]?=some x0:=⟨_,List.getElem?_eq_getElem h0⟩
 obtain ⟨n0,n1,n2,n3,n4⟩:=NRow.facts2 hR hx0
 have n3':w.cell? ⟨g,3,none⟩=some (.int .i64 x0.size):=n3
 obtain ⟨s1,s2,s3,s4⟩:=hS x0 (List.mem_of_getElem? hx0)
 have HD:=Lib.hid (cDown_any l g cap 0 x0 w hx0 hR h1 h2 (by omega) ⟨s3,s4⟩ hn)
 have HR:=Lib.hid hR
 have HS:=Lib.hid hS
 have HG:=Lib.hid h3
 clear hR hS n0 n1 n2 n3 n4 h3
 obtain ⟨ln,hln⟩:∃ ln,l.length=ln:=⟨_,rfl⟩
 rw [hln] at h0 h1 hn s2 s4 HD ⊢
 have HLN:=Lib.hid hln
 clear hln
 go_enter Tryz.func32,Tryz.ntmps32
 go_wp2_with fail
 refine HD.out.mono ?_
 rintro e w1 ⟨rfl,hb1⟩
 have hO1:=LOwn.new w1 w.heap.size hb1.size ⟨1,x0.size.toNat,x0.k⟩
 have hsz0:((x0.size.toNat:Nat):Int)=x0.size:=Int.toNat_of_nonneg (by omega)
 have hb2:=(Below.refl w1.heap.size w1).alloc (Nat.le_refl _) (.cells #[.int .i64 1,.int .i64 x0.size,.int .i64 x0.k] 94)
 have hB2:=bNext hb1 hb2
 dsimp only at hO1
 rw [hsz0] at hO1
 have hlo:LvOk ln [⟨1,x0.size.toNat,x0.k⟩]:=fun y hy=>by
  rw [List.mem_singleton] at hy
  subst hy
  dsimp only
  omega
 go_wp2_with fail
 go_loopg [3,4] (2 * ln+2) (fun m s3 s4 wr=>∃ (L:List Lv) (mo:Int),2 * lvU L+L.length≤m∧2 * lvU L+L.length≤2 * ln+2∧LOwn wr w.heap.size s4 L∧LvOk ln L∧s3 = .int .i64 mo∧-1≤mo∧mo≤1000000∧Below w.heap.size w wr)
 case atStart=>exact ⟨_,1,by simp [lvU]; omega,by simp [lvU]; omega,hO1,hlo,rfl,by omega,by omega,hB2⟩
 case round =>
  clear hO1 hlo hB2 hb2 hb1
  obtain ⟨L,mo,hmm,hm,hO,hK,rfl,hm1,hm2,hbr⟩:=hrel
  rcases List.eq_nil_or_concat L with rfl | ⟨L0,x,hL⟩
  ·obtain ⟨ao,c4,rfl⟩:=hO.form
   go_wp2_with fail
   go_ret
   exact ⟨⟨mo,rfl,hm1,hm2⟩,hbr⟩
  ·rw [List.concat_eq_append] at hL
   subst hL
   obtain ⟨g4,c4,rfl,q1,q2,q3,⟨cur4,q4⟩,q5,q6,q7⟩:=hO.last
   obtain ⟨a1,a2,a3,a4⟩:=hK x (by simp)
   have HO:=Lib.hid hO
   have HK:=Lib.hid hK
   rw [lvU_snoc] at hmm hm
   simp only [List.length_append,List.length_cons,List.length_nil] at hmm hm
   have hRr:NRow wr g l:=fun k u hu=>bSome hbr (HR.out k u hu)
   clear hO hK
   have hne:g≠g4:=fun e=>by
    have h8:=hbr.block g hgl
    rw [HG.out,e,q4] at h8
    injection h8 with h8
    injection h8 with _ h9 _
    exact absurd h9 (by decide)
   have HRN:=Lib.hid (show ∀ w',w'.heap[g]?=wr.heap[g]?→NRow w' g l from fun w' he k u hu=>(World.cell?_of_block (w:=wr) he).trans (hRr k u hu))
   obtain ⟨n4,hn4⟩:∃ n4,L0.length=n4:=⟨_,rfl⟩
   rw [hn4] at q1 q5 q6 q7 hmm hm ⊢
   have HN4:=Lib.hid hn4
   clear hn4
   have y1:decide ((0:Int)<((n4+1:Nat):Int))=true:=by rw [decide_eq_true_eq]; omega
   have y2:((n4+1:Nat):Int) - 1=(n4:Int):=by omega
   have pop:LOwn wr w.heap.size (.slice (some ⟨g4,0,none⟩) n4 c4) L0:=by
    have h:=HO.out
    rw [← HN4.out]
    exact h.pop
   have HPOP:=Lib.hid pop
   have HK0:=Lib.hid (show LvOk ln L0 from fun y hy=>HK.out y (by simp [hy]))
   clear pop
   go_upto_region 8 with fail
   by_cases e1:x.left≤0
   ·have y3:decide (x.left≤0)=true:=decide_eq_true e1
    clear hRr
    go_region
    go_wp2_with fail
    go_roundg (2 * lvU L0+L0.length)
    case measure=>have:=HN4.out; omega
    case rel=>exact ⟨L0,mo,Nat.le_refl _,by have:=HN4.out; omega,HPOP.out.below ((Below.refl _ wr).drew),HK0.out,rfl,hm1,hm2,hbr.drew⟩
   ·have y3:decide (x.left≤0)=false:=decide_eq_false e1
    by_cases e2:x.e≤x.c
    ·have y4:decide ((x.e:Int)≤(x.c:Int))=true:=decide_eq_true (by omega)
     clear hRr
     go_region
     go_wp2_with fail
     go_roundg (2 * lvU L0+L0.length)
     case measure=>have:=HN4.out; omega
     case rel=>exact ⟨L0,mo,Nat.le_refl _,by have:=HN4.out; omega,HPOP.out.below ((Below.refl _ wr).drew),HK0.out,rfl,hm1,hm2,hbr.drew⟩
    ·have y4:decide ((x.e:Int)≤(x.c:Int))=false:=decide_eq_false (by omega)
     obtain ⟨y,hy⟩:∃ y,l[x.c]?=some y:=⟨_,List.getElem?_eq_getElem (by have:=HLN.out; omega)⟩
     obtain ⟨b1,b2,b3,b4⟩:=HS.out y (List.mem_of_getElem? hy)
     obtain ⟨n0,n1,n2,n3,n5⟩:=NRow.facts2 hRr hy
     have HLE:=Lib.hid (show y.size≤ln from by have:=HLN.out; omega)
     have HLK:=Lib.hid (show y.k≤ln from by have:=HLN.out; omega)
     have HGET:=Lib.hid hy
     clear n0 n1 n2 n5 hy b2 b4 hRr
     obtain ⟨sz,hsz⟩:∃ sz,y.size=sz:=⟨_,rfl⟩
     have HSZ:=Lib.hid hsz
     have hle:=HLE.out
     rw [hsz] at n3 b1 hle
     clear hsz
     have y5:decide (sz<1)=false:=decide_eq_false (by omega)
     have hcl:x.c<ln:=by omega
     by_cases e3:(x.e:Int) - x.c<sz
     ·have y6:decide ((x.e:Int) - x.c<sz)=true:=decide_eq_true e3
      go_region
      go_wp2_with fail
      go_roundg (2 * lvU L0+L0.length)
      case measure=>have:=HN4.out; omega
      case rel=>exact ⟨L0,mo,Nat.le_refl _,by have:=HN4.out; omega,HPOP.out.below ((Below.refl _ wr).drew),HK0.out,rfl,hm1,hm2,hbr.drew⟩
     ·have y6:decide ((x.e:Int) - x.c<sz)=false:=decide_eq_false e3
      go_region
      go_upto_region 10 with fail
      have z1:(sz+(x.c:Int))=((x.c+sz.toNat:Nat):Int):=by omega
      have zf:∀ n,wr.frozen? ⟨g4,n,none⟩=false:=fun n=>by simp [World.frozen?,q4]
      have zf0:=zf (n4 * 3)
      have zf2:=zf (n4 * 3+2)
      clear zf
      go_region
      go_upto_region 11 with fail
      have hstep:LOwn ((wr.setCell ⟨g4,n4 * 3,none⟩ (.int .i64 ((x.c:Int)+sz))).setCell ⟨g4,n4 * 3+2,none⟩ (.int .i64 (x.left - 1))) w.heap.size (.slice (some ⟨g4,0,none⟩) (n4+1) c4) (L0++[⟨x.c+sz.toNat,x.e,x.left - 1⟩]):=by
       have h:=HO.out.step (x.c+sz.toNat) (x.left - 1)
       rw [HN4.out] at h
       rw [show ((x.c+sz.toNat:Nat):Int)=(x.c:Int)+sz by omega] at h
       exact h
      refine wp_world (fun w9=>LOwn w9 w.heap.size (.slice (some ⟨g4,0,none⟩) (n4+1) c4) (L0++[⟨x.c+sz.toNat,x.e,x.left - 1⟩])∧NRow w9 g l∧Below w.heap.size w w9) ⟨hstep.below (((Below.refl _ _).drew).drew),HRN.out _ ?_,(((hbr.setCell q3 _).setCell q3 _).drew).drew⟩ ?_
      ·show ((wr.setCell _ _).setCell _ _).heap[g]?=_
       rw [Below.heap_setCell _ _ _ _ hne,Below.heap_setCell _ _ _ _ hne]
      rintro w6 ⟨hO6,hR6,hb6⟩
      have HO6:=Lib.hid hO6
      have HNX:=HGET.out
      obtain ⟨n0,n1,n2,n3',n5⟩:=NRow.facts2 hR6 HNX
      rw [HSZ.out] at n3'
      have HD6:=Lib.hid (cDown_any l g cap x.c y w6 HNX hR6 (by have:=HLN.out; omega) h2 (by have:=HSZ.out; have:=HLN.out; omega) ⟨b3,by have:=HLK.out; have:=HLN.out; omega⟩ (by have:=HLN.out; omega))
      rw [HLN.out,HSZ.out] at HD6
      clear hstep hO6 hR6 HNX n0 n1 n2 n5 n3 zf0 zf2 q4 q5 q6 q7 hbr HRN
      go_wp2_with fail
      refine HD6.out.mono ?_
      rintro e w7 ⟨rfl,hb7⟩
      have hO7:=HO6.out.below hb7
      have hB7:=bNext hb6 hb7
      have hsz7:=hB7.size
      have hlL:(L0++[(⟨x.c+sz.toNat,x.e,x.left - 1⟩:Lv)]).length=n4+1:=by simp [HN4.out]
      obtain ⟨us,hus⟩:∃ us,(L0++[(⟨x.c+sz.toNat,x.e,x.left - 1⟩:Lv)]).flatMap Lv.cells=us:=⟨_,rfl⟩
      have HUS:=Lib.hid hus
      clear hus
      have hOA:∀ o,(w7.alloc o).ownsRow w.heap.size 94 3 (.slice (some ⟨g4,0,none⟩) (n4+1) c4) (n4+1) us:=fun o=>by
       have h:=ownsRow_kept hO7 (Kept.ofBelow (S:=Nowhere) ((Below.refl _ w7).alloc (Nat.le_refl _) o)) (fun _ _ _ e=>e)
       unfold LOwn at h
       rw [hlL,HUS.out] at h
       exact h
      have HL2:=Lib.hid hlL
      have HO7:=Lib.hid hO7
      clear hO7 hlL
      go_wp2_with (at_builtin; refine wpList_append_own _ rfl _ _ 96 rfl w.heap.size 94 k0 _ 3 24 Tryz.underlying96 hk0 hk1 hk2 hk3 rfl (by decide) _ _ _ rfl (hOA _) ⟨w7.heap.size,0,none⟩ 1 1 [.int .i64 ((x.c:Int)+1),.int .i64 ((x.c:Int)+sz),.int .i64 y.k] rfl rfl ?c1 ?c2 ?c3 ?c4 ?c5 ?_)
      case c1=>exact cells_new (by simp)
      case c2 =>
       intro u hu
       simp at hu
       rcases hu with rfl | rfl | rfl <;> rfl
      case c3=>unfold maxLen; omega
      case c4=>omega
      case c5=>simp; omega
      intro v8 w8 hown' hgrow _
      obtain ⟨hO8,hb8⟩:=LOwn.grown (x:=⟨x.c+1,x.c+sz.toNat,y.k⟩) hsz7 HO7.out (by
       rw [HL2.out,HUS.out]
       rw [show (Lv.cells ⟨x.c+1,x.c+sz.toNat,y.k⟩)=[.int .i64 ((x.c:Int)+1),.int .i64 ((x.c:Int)+sz),.int .i64 y.k] from by
        unfold Lv.cells
        dsimp only
        rw [show ((x.c+1:Nat):Int)=(x.c:Int)+1 by omega,show ((x.c+sz.toNat:Nat):Int)=(x.c:Int)+sz by omega]]
       exact hown') hgrow
      have hB8:=hB7.trans hb8
      obtain ⟨ao8,c8,rfl⟩:=hO8.form
      have hl8:(L0++[(⟨x.c+sz.toNat,x.e,x.left - 1⟩:Lv)]++[(⟨x.c+1,x.c+sz.toNat,y.k⟩:Lv)]).length=n4+2:=by simp [HN4.out]
      have HO8:=Lib.hid hO8
      rw [hl8]
      clear hO8
      have HU:=Lib.hid (show 2 * lvU (L0++[(⟨x.c+sz.toNat,x.e,x.left - 1⟩:Lv)]++[(⟨x.c+1,x.c+sz.toNat,y.k⟩:Lv)])+(n4+2)+1≤2 * (lvU L0+(x.e - x.c))+(n4+1) from by
       rw [lvU_snoc,lvU_snoc]
       dsimp only
       omega)
      have HK8:=Lib.hid (show LvOk ln (L0++[(⟨x.c+sz.toNat,x.e,x.left - 1⟩:Lv)]++[(⟨x.c+1,x.c+sz.toNat,y.k⟩:Lv)]) from
       (HK0.out.snoc (by dsimp only; omega)).snoc (by
        have:=HLK.out
        dsimp only
        omega))
      clear HO7 HL2 HUS hown' hgrow hOA
      go_wp2_with fail
      go_roundg (2 * lvU (L0++[(⟨x.c+sz.toNat,x.e,x.left - 1⟩:Lv)]++[(⟨x.c+1,x.c+sz.toNat,y.k⟩:Lv)])+(n4+2))
      case measure=>have:=HU.out; omega
      case rel =>
       have h9:=HU.out
       exact ⟨_,_,by rw [hl8]; exact Nat.le_refl _,by rw [hl8]; omega,by have:=HO8.out; rw [hl8] at this; exact this,HK8.out,rfl,by omega,by omega,hB8⟩
end Go.Proofs.YtepebnblbheegaaGreatDoor
