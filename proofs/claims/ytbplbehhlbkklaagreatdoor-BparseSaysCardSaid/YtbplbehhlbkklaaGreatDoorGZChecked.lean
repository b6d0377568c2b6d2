/- patoisref10.Checked: a program, or why it is none. -/
import Derived.Test.YtbplbehhlbkklaaGreatDoorGZLook
import Derived.Test.YtbplbehhlbkklaaGreatDoorGZN
import Derived.Deep.CutBlock
namespace Go.Proofs.YtbplbehhlbkklaaGreatDoor
open Go Go.RowKit
section
set_option maxHeartbeats 8000000
set_option maxRecDepth 100000
theorem r10Checked_bad (w:World)(vo:Option Addr)(vn vc:Nat)(c:Nat)(ao:Option Addr)(an ac:Nat)(hc:0<c) :
  Calls Tryz.prog 24 #[.slice vo vn vc,.agg #[.int .i64 c,.slice ao an ac]] w fun e w'=>e = .returned (.tuple #[.slice none 0 0,.agg #[.int .i64 c,.slice ao an ac]])∧Below w.heap.size w w':=by
 have e1:((c:Int) != 0)=true:=by rw[bne_iff_ne];omega
 have hA:=Blk.new w [Value.int .i64 c,.slice ao an ac] 30;have hA2:=hA.alloc (.cells #[.int .i64 0,.slice none 0 0] 30);have hB2:=Blk.new (w.alloc (.cells #[.int .i64 c,.slice ao an ac] 30)) [Value.int .i64 0,.slice none 0 0] 30;have hb2:=((Below.refl w.heap.size w).alloc (Nat.le_refl _) (.cells #[.int .i64 c,.slice ao an ac] 30)).alloc (by simp) (.cells #[.int .i64 0,.slice none 0 0] 30)
 rw[World.size_alloc] at hB2;go_enter Tryz.func24,Tryz.ntmps24
 go_upto_region 1 with fail
 obtain⟨w1,hw1⟩:∃ w1,(w.alloc (.cells #[.int .i64 c,.slice ao an ac] 30)).alloc (.cells #[.int .i64 0,.slice none 0 0] 30)=w1:=⟨_,rfl⟩;rw[hw1] at hb2 ⊢;have hA3:Blk w1 w.heap.size [Value.int .i64 c,.slice ao an ac]:=by rw[← hw1];exact hA2
 have hB3:Blk w1 (w.heap.size+1) [Value.int .i64 0,.slice none 0 0]:=by rw[← hw1];exact hB2
 obtain⟨x,hx⟩:∃ x,w.heap.size=x:=⟨_,rfl⟩;obtain⟨y,hy⟩:∃ y,x+1=y:=⟨_,rfl⟩;rw[hx] at hA3 hB3 ⊢;rw[hy] at hB3 ⊢;have hxy:x≠y:=by omega
 have a0:=hA3.cell 0 rfl;have a1:=hA3.cell 1 rfl;have b0:=hB3.cell 0 rfl;have b1:=hB3.cell 1 rfl;have f0:=hB3.free 0;have f1:=hB3.free 1;have hD:=hB3.drew;clear hA hA2 hB2 hw1;go_upto_region 2 with fail
 go_region
 all_goals
  go_wp2_with fail
  refine bodyPost_ret (results_tc (t:=4) (p:=5) (g:=y) (cs:=[.int .i64 c,.slice ao an ac]) rfl _ _ _ rfl ?_ Tryz.underlying30 rfl (by kernel_rfl)) rfl ⟨rfl,?_⟩
  ·exact (hD.set 0 (.int .i64 c)).set 1 (.slice ao an ac)
  ·exact ((hb2.drew).setCell (p:=⟨y,0,none⟩) (by show w.heap.size≤y;omega) _).setCell (p:=⟨y,1,none⟩) (by show w.heap.size≤y;omega) _
theorem r10Checked_fine (w:World)(b:Nat)(l:Prog)(v:Value)(hN:NSl w b v l)(c:Nat)(fa:World→Value→Prop)
  (hC:∀ W,Below w.heap.size w W→Calls Tryz.prog 29 #[v] W fun e w'=>∃ ao an ac,e = .returned (.agg #[.int .i64 c,.slice ao an ac])∧fa w' (.slice ao an ac)∧Below W.heap.size W w') (hfa:∀ W W' u,fa W u→(∀ k,k≠w.heap.size+1→k<W.heap.size→W'.heap[k]?=W.heap[k]?)→fa W' u) (hc:c=0∨c=111) :
  Calls Tryz.prog 24 #[v,.agg #[.int .i64 0,.slice none 0 0]] w fun e w'=>(∃ u,e = .returned (.tuple #[if c=0 then v else .slice none 0 0,.agg #[.int .i64 c,u]])∧fa w' u)∧Below w.heap.size w w':=by
 have hA:=Blk.new w [Value.int .i64 0,.slice none 0 0] 30;have hA2:=hA.alloc (.cells #[.int .i64 0,.slice none 0 0] 30);have hB2:=Blk.new (w.alloc (.cells #[.int .i64 0,.slice none 0 0] 30)) [Value.int .i64 0,.slice none 0 0] 30;have hb2:=((Below.refl w.heap.size w).alloc (Nat.le_refl _) (.cells #[.int .i64 0,.slice none 0 0] 30)).alloc (by simp) (.cells #[.int .i64 0,.slice none 0 0] 30)
 have HC:=Lib.hid (hC _ hb2);have HFA:=Lib.hid hfa;obtain⟨g,cp,rfl,-⟩:=hN;generalize l.length=n at *;rw[World.size_alloc] at hB2;clear hC hfa;go_enter Tryz.func24,Tryz.ntmps24
 go_upto_region 1 with fail
 obtain⟨w1,hw1⟩:∃ w1,(w.alloc (.cells #[.int .i64 0,.slice none 0 0] 30)).alloc (.cells #[.int .i64 0,.slice none 0 0] 30)=w1:=⟨_,rfl⟩;rw[hw1] at hb2 HC ⊢;have hA3:Blk w1 w.heap.size [Value.int .i64 0,.slice none 0 0]:=by rw[← hw1];exact hA2
 have hB3:Blk w1 (w.heap.size+1) [Value.int .i64 0,.slice none 0 0]:=by rw[← hw1];exact hB2
 obtain⟨x,hx⟩:∃ x,w.heap.size=x:=⟨_,rfl⟩;obtain⟨y,hy⟩:∃ y,x+1=y:=⟨_,rfl⟩;rw[hx] at hA3 hB3 HFA ⊢;rw[hy] at hB3 HFA ⊢;have hxy:x≠y:=by omega
 have a0:=hA3.cell 0 rfl;have a1:=hA3.cell 1 rfl;clear hA hA2 hB2 hw1;go_wp2_with fail
 refine HC.out.mono ?_;rintro e w5 ⟨ao,an,ac,rfl,hfa,hb5⟩;have hB5:=hB3.below hb5;have hyl:=hB5.lt;have hb6:=bNext hb2 hb5;obtain⟨z,hz⟩:∃ z,w5.heap.size=z:=⟨_,rfl⟩;have hC6:=Blk.new w5 [Value.int .i64 c,.slice ao an ac] 30;have hB6:=hB5.alloc (.cells #[.int .i64 c,.slice ao an ac] 30);have hb7:=hb6.alloc hb6.size (.cells #[.int .i64 c,.slice ao an ac] 30);have hfb:=(Below.refl w5.heap.size w5).alloc (Nat.le_refl _) (.cells #[.int .i64 c,.slice ao an ac] 30);go_upto_region 4 with fail
 obtain⟨w6,hw6⟩:∃ w6,w5.alloc (.cells #[.int .i64 c,.slice ao an ac] 30)=w6:=⟨_,rfl⟩;rw[hw6] at hB6 hb7 hC6 hfb ⊢;rw[hz] at hC6;have HF6:=Lib.hid (show ∀ W',(∀ k,k≠y→k<w6.heap.size→W'.heap[k]?=w6.heap[k]?)→fa W' (.slice ao an ac) from fun W' h=>HFA.out _ _ _ hfa fun k hk hk2=>(h k hk (Nat.lt_of_lt_of_le hk2 hfb.size)).trans (hfb.block k hk2))
 have z0:=hC6.cell 0 rfl;have z1:=hC6.cell 1 rfl;have b0:=hB6.cell 0 rfl;have b1:=hB6.cell 1 rfl;have f0:=hB6.free 0;have f1:=hB6.free 1;have hzy:z≠y:=by omega
 have hD:=hB6.drew;clear hB5 hb6 hC6 hw6 hfa HC a0 a1 hA3 hB3 hfb
 rcases hc with rfl | rfl
 ·go_upto_region 8 with fail
  go_region
  all_goals
   go_wp2_with fail
   refine bodyPost_ret (results_tc (t:=4) (p:=5) (g:=y) (cs:=[.int .i64 (0:Nat),.slice ao an ac]) rfl _ _ _ rfl ?_ Tryz.underlying30 rfl (by kernel_rfl)) rfl ⟨⟨_,rfl,?_⟩,?_⟩
   ·exact (hD.set 0 (.int .i64 (0:Nat))).set 1 (.slice ao an ac)
   ·exact HF6.out _ fun k hk _=>(Below.heap_setCell _ _ _ _ (by show k≠y;exact hk)).trans (Below.heap_setCell _ _ _ _ (by show k≠y;exact hk))
   ·have h:=hb7;rw[hx] at h;exact ((h.setCell (p:=⟨y,0,none⟩) (by show x≤y;omega) _).setCell (p:=⟨y,1,none⟩) (by show x≤y;omega) _).drew
 ·go_upto_region 7 with fail
  go_region
  all_goals
   go_wp2_with fail
   refine bodyPost_ret (results_tc (t:=4) (p:=5) (g:=y) (cs:=[.int .i64 (111:Nat),.slice ao an ac]) rfl _ _ _ rfl ?_ Tryz.underlying30 rfl (by kernel_rfl)) rfl ⟨⟨_,rfl,?_⟩,?_⟩
   ·exact (hD.set 0 (.int .i64 (111:Nat))).set 1 (.slice ao an ac)
   ·exact HF6.out _ fun k hk _=>(Below.heap_setCell _ _ _ _ (by show k≠y;exact hk)).trans (Below.heap_setCell _ _ _ _ (by show k≠y;exact hk))
   ·have h:=hb7;rw[hx] at h;exact ((h.setCell (p:=⟨y,0,none⟩) (by show x≤y;omega) _).setCell (p:=⟨y,1,none⟩) (by show x≤y;omega) _).drew
theorem r10Checked_nest (w:World)(b:Nat)(l:Prog)(v:Value)(hN:NSl w b v l)
  (hC:∀ W,Below w.heap.size w W→Calls Tryz.prog 29 #[v] W fun e w'=>∃ ao an ac,e = .returned (.agg #[.int .i64 (102:Nat),.slice ao an ac])∧Below W.heap.size W w') :
  Calls Tryz.prog 24 #[v,.agg #[.int .i64 0,.slice none 0 0]] w fun e w'=>(∃ fb,e = .returned (.tuple #[.slice none 0 0,.agg #[.int .i64 (102:Nat),.slice (some ⟨fb,0,none⟩) 1 1]])∧w.heap.size≤fb∧w'.heap[fb]?=some (.cells #[.int .i64 (0:Nat)] 3 (0,0)))∧Below w.heap.size w w':=by
 have hA:=Blk.new w [Value.int .i64 0,.slice none 0 0] 30;have hA2:=hA.alloc (.cells #[.int .i64 0,.slice none 0 0] 30);have hB2:=Blk.new (w.alloc (.cells #[.int .i64 0,.slice none 0 0] 30)) [Value.int .i64 0,.slice none 0 0] 30;have hb2:=((Below.refl w.heap.size w).alloc (Nat.le_refl _) (.cells #[.int .i64 0,.slice none 0 0] 30)).alloc (by simp) (.cells #[.int .i64 0,.slice none 0 0] 30)
 have HC:=Lib.hid (hC _ hb2);obtain⟨g,cp,rfl,-⟩:=hN;generalize l.length=n at *;rw[World.size_alloc] at hB2;clear hC;go_enter Tryz.func24,Tryz.ntmps24
 go_upto_region 1 with fail
 obtain⟨w1,hw1⟩:∃ w1,(w.alloc (.cells #[.int .i64 0,.slice none 0 0] 30)).alloc (.cells #[.int .i64 0,.slice none 0 0] 30)=w1:=⟨_,rfl⟩;rw[hw1] at hb2 HC ⊢;have hA3:Blk w1 w.heap.size [Value.int .i64 0,.slice none 0 0]:=by rw[← hw1];exact hA2
 have hB3:Blk w1 (w.heap.size+1) [Value.int .i64 0,.slice none 0 0]:=by rw[← hw1];exact hB2
 obtain⟨x,hx⟩:∃ x,w.heap.size=x:=⟨_,rfl⟩;obtain⟨y,hy⟩:∃ y,x+1=y:=⟨_,rfl⟩;rw[hx] at hA3 hB3 ⊢;rw[hy] at hB3 ⊢;have hxy:x≠y:=by omega
 have a0:=hA3.cell 0 rfl;have a1:=hA3.cell 1 rfl;clear hA hA2 hB2 hw1;go_wp2_with fail
 refine HC.out.mono ?_;rintro e w5 ⟨ao,an,ac,rfl,hb5⟩;have hB5:=hB3.below hb5;have hyl:=hB5.lt;have hb6:=bNext hb2 hb5;obtain⟨z,hz⟩:∃ z,w5.heap.size=z:=⟨_,rfl⟩;have hC6:=Blk.new w5 [Value.int .i64 102,.slice ao an ac] 30;have hB6:=hB5.alloc (.cells #[.int .i64 102,.slice ao an ac] 30);have hb7:=hb6.alloc hb6.size (.cells #[.int .i64 102,.slice ao an ac] 30);have hfb:=(Below.refl w5.heap.size w5).alloc (Nat.le_refl _) (.cells #[.int .i64 102,.slice ao an ac] 30);go_upto_region 4 with fail
 obtain⟨w6,hw6⟩:∃ w6,w5.alloc (.cells #[.int .i64 102,.slice ao an ac] 30)=w6:=⟨_,rfl⟩;rw[hw6] at hB6 hb7 hC6 hfb ⊢;rw[hz] at hC6;have z0:=hC6.cell 0 rfl;have z1:=hC6.cell 1 rfl;have b0:=hB6.cell 0 rfl;have b1:=hB6.cell 1 rfl;have f0:=hB6.free 0;have f1:=hB6.free 1;have hzy:z≠y:=by omega
 have hD:=hB6.drew;have fz0:=hC6.free 0;have fz1:=hC6.free 1;have hy6:=hB6.lt;clear hB5 hb6 hw6 HC a0 a1 hA3 hB3 hfb;go_wp2_with fail
 refine (rPlacedT_any 102 0 (by decide) _).mono ?_
 rintro e w7 ⟨fb,rfl,hfb,hge,hbb7⟩;have hC7:=hC6.below hbb7;have hB7:=hB6.below hbb7;have z70:=hC7.cell 0 rfl;have z71:=hC7.cell 1 rfl;have hb8:=bNext hb7 hbb7;have f0:=hC7.free 0;have f1:=hC7.free 1;go_upto_region 6 with fail
 obtain⟨w8,hw8⟩:∃ w8,(w7.setCell ⟨z,0,none⟩ (.int .i64 102)).setCell ⟨z,1,none⟩ (.slice (some ⟨fb,0,none⟩) 1 1)=w8:=⟨_,rfl⟩;have hzl:=hC6.lt;have hC8:Blk w8 z [.int .i64 102,.slice (some ⟨fb,0,none⟩) 1 1]:=by rw[← hw8];exact (hC7.set 0 (.int .i64 102)).set 1 (.slice (some ⟨fb,0,none⟩) 1 1)
 have hB8:Blk w8 y [.int .i64 0,.slice none 0 0]:=hB7.of_heap (by rw[← hw8];exact (Below.heap_setCell _ _ _ _ (by show y≠z;omega)).trans (Below.heap_setCell _ _ _ _ (by show y≠z;omega)))
 have hfb8:w8.heap[fb]?=some (.cells #[.int .i64 (0:Nat)] 3 (0,0)):=by rw[← hw8];exact (Below.heap_setCell _ _ _ _ (by show fb≠z;omega)).trans ((Below.heap_setCell _ _ _ _ (by show fb≠z;omega)).trans hfb)
 have hb9:Below w.heap.size w w8:=by rw[← hw8];exact (hb8.setCell (p:=⟨z,0,none⟩) (by show w.heap.size≤z;omega) _).setCell (p:=⟨z,1,none⟩) (by show w.heap.size≤z;omega) _
 rw[hw8];have z0:=hC8.cell 0 rfl;have z1:=hC8.cell 1 rfl;have b0:=hB8.cell 0 rfl;have b1:=hB8.cell 1 rfl;have f0:=hB8.free 0;have f1:=hB8.free 1;clear hw8 hC7 hB7 hb8 hC6 hB6 hb7 fz0 fz1;go_upto_region 7 with fail
 go_region
 all_goals
  go_wp2_with fail
  refine bodyPost_ret (results_tc (t:=4) (p:=5) (g:=y) (cs:=[.int .i64 102,.slice (some ⟨fb,0,none⟩) 1 1]) rfl _ _ _ rfl ?_ Tryz.underlying30 rfl (by kernel_rfl)) rfl ⟨⟨fb,rfl,by omega,?_⟩,?_⟩
  ·exact (hB8.drew.set 0 (.int .i64 102)).set 1 (.slice (some ⟨fb,0,none⟩) 1 1)
  ·exact (Below.heap_setCell _ _ _ _ (by show fb≠y;omega)).trans ((Below.heap_setCell _ _ _ _ (by show fb≠y;omega)).trans hfb8)
  ·exact ((hb9.setCell (p:=⟨y,0,none⟩) (by show w.heap.size≤y;omega) _).setCell (p:=⟨y,1,none⟩) (by show w.heap.size≤y;omega) _).drew
end
end Go.Proofs.YtbplbehhlbkklaaGreatDoor
