/- The document's Lex and Parse of a source that is too long. -/
import Derived.Test.YtbplbehhlbkklaaGreatDoorGZParse
namespace Go.Proofs.YtbplbehhlbkklaaGreatDoor
open Go Go.RowKit
section
set_option maxHeartbeats 16000000
set_option maxRecDepth 1000000
theorem z12Lex_long (s:ByteArray)(w:World)(hs:8192<s.size):Calls Tryz.prog 19 #[.string s] w fun e w'=>e = .returned (.tuple #[.slice none 0 0,.agg #[.int .i64 101,.slice none 0 0]])∧Below w.heap.size w w':=by
 have hR0:=Blk.new w [Value.int .i64 0,.slice none 0 0] 30;have hb0:=(Below.refl w.heap.size w).alloc (Nat.le_refl _) (.cells #[.int .i64 0,.slice none 0 0] 30);have hsI:(8192:Int)<(s.size:Int):=by omega
 go_enter Tryz.func19,Tryz.ntmps19
 go_wp2_with fail
 refine (rBare_any 101 _).mono ?_;rintro e w1 ⟨rfl,hb1⟩;have hR1:=hR0.below hb1;have r0:=hR1.cell 0 rfl;have r1:=hR1.cell 1 rfl;have rf0:=hR1.free 0;have rf1:=hR1.free 1;have hb2:=bNext hb0 hb1;unfold faultV;go_wp2_with fail
 refine bodyPost_ret (results_tc (t:=2) (p:=3) (g:=w.heap.size) (cs:=[.int .i64 101,.slice none 0 0]) rfl _ _ _ rfl ((hR1.set 0 (.int .i64 101)).set 1 (.slice none 0 0)) Tryz.underlying30 rfl (by kernel_rfl)) rfl ⟨rfl,?_⟩
 exact (hb2.setCell (p:=⟨w.heap.size,0,none⟩) (Nat.le_refl _) _).setCell (p:=⟨w.heap.size,1,none⟩) (Nat.le_refl _) _
theorem z12Parse_long (s:ByteArray)(w:World)(hs:8192<s.size):Calls Tryz.prog 6 #[.string s] w (ZPOut w (.error (101,none))):=by
 have hR0:=Blk.new w [Value.int .i64 0,.slice none 0 0] 30;have hb0:=(Below.refl w.heap.size w).alloc (Nat.le_refl _) (.cells #[.int .i64 0,.slice none 0 0] 30);go_enter Tryz.func6,Tryz.ntmps6
 go_wp2_with fail
 refine (z12Lex_long s _ hs).mono ?_;rintro e w1 ⟨rfl,hb1⟩;have hR1:=hR0.below hb1;have hb2:=bNext hb0 hb1;have hrl:=hR1.lt;have hC2:=Blk.new w1 [Value.int .i64 101,.slice none 0 0] 30;have hR2:=hR1.alloc (.cells #[.int .i64 101,.slice none 0 0] 30);have hb3:=hb2.alloc hb2.size (.cells #[.int .i64 101,.slice none 0 0] 30);go_upto_region 2 with fail
 obtain⟨w2,hw2⟩:∃ w2,w1.alloc (.cells #[.int .i64 101,.slice none 0 0] 30)=w2:=⟨_,rfl⟩;obtain⟨z,hz⟩:∃ z,w1.heap.size=z:=⟨_,rfl⟩;obtain⟨y,hy⟩:∃ y,w.heap.size=y:=⟨_,rfl⟩;rw[hw2] at hC2 hR2 hb3 ⊢;have hyz:y≠z:=by omega
 rw[hz] at hC2 ⊢;rw[hy] at hR2 ⊢;have z0:=hC2.cell 0 rfl;have z1:=hC2.cell 1 rfl;have b0:=hR2.cell 0 rfl;have b1:=hR2.cell 1 rfl;have f0:=hR2.free 0;have f1:=hR2.free 1;have hD:=hR2.drew;clear hw2 hR0 hR1 hb1 hb2;go_upto_region 3 with fail
 go_region
 all_goals
  go_wp2_with fail
  refine bodyPost_ret (results_tc (t:=2) (p:=3) (g:=y) (cs:=[.int .i64 101,.slice none 0 0]) rfl _ _ _ rfl ((hD.set 0 (.int .i64 101)).set 1 (.slice none 0 0)) Tryz.underlying30 rfl (by kernel_rfl)) rfl ⟨?_,rfl⟩
  exact ((hb3.setCell (p:=⟨y,0,none⟩) (by show w.heap.size≤y;omega) _).setCell (p:=⟨y,1,none⟩) (by show w.heap.size≤y;omega) _).drew
end
end Go.Proofs.YtbplbehhlbkklaaGreatDoor
