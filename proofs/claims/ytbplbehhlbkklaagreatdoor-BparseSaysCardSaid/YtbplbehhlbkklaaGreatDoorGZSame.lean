/- patoissee.Same of errors without places, patoisref.SameNodes. -/
import Derived.Test.YtbplbehhlbkklaaGreatDoorGZF
import Derived.Test.YtbplbehhlbkklaaGreatDoorGZB
import Derived.Test.YtbplbehhlbkklaaGreatDoorGRef5G
namespace Go.Proofs.YtbplbehhlbkklaaGreatDoor
open Go Go.RowKit
section
set_option maxHeartbeats 8000000
set_option maxRecDepth 100000
theorem rSameInts_none (w:World):Calls Tryz.prog 57 #[.slice none 0 0,.slice none 0 0] w fun e w'=>e = .returned (.bool true)∧Below w.heap.size w w':=by
 go_enter Tryz.func57,Tryz.ntmps57
 go_wp2_with fail
 go_loopg [5] 0 (fun m c wr=>m=0∧c = .int .i64 0∧wr=w)
 case atStart=>exact⟨rfl,rfl,rfl⟩
 case round =>
  obtain⟨rfl,rfl,rfl⟩:=hrel;go_wp2_with fail
  go_ret;exact⟨rfl,Below.refl _ _⟩
theorem rSameFault_bare (c:Int)(w:World):Calls Tryz.prog 26 #[faultV c (.slice none 0 0),faultV c (.slice none 0 0)] w fun e w'=>e = .returned (.bool true)∧Below w.heap.size w w':=by
 unfold faultV;go_enter Tryz.func26,Tryz.ntmps26
 go_wp2_with fail
 have hw0:=((Below.refl w.heap.size w).alloc (Nat.le_refl _) (Obj.cells #[Value.int IntKind.i64 c,Value.slice none 0 0] 30));have hw1:=bNext hw0 ((Below.refl _ _).alloc (Nat.le_refl _) (Obj.cells #[Value.int IntKind.i64 c,Value.slice none 0 0] 30));refine (rSameInts_none _).mono ?_;rintro e w2 ⟨rfl,hb2⟩;have B0:=((Blk.newAt (w:=w) [Value.int IntKind.i64 c,Value.slice none 0 0] 30 rfl).alloc (Obj.cells #[Value.int IntKind.i64 c,Value.slice none 0 0] 30)).below hb2;have B1:=(Blk.newAt (w:=w.alloc (Obj.cells #[Value.int IntKind.i64 c,Value.slice none 0 0] 30)) (b:=w.heap.size+1) [Value.int IntKind.i64 c,Value.slice none 0 0] 30 (by simp)).below hb2
 have c0:=B0.cell 0 rfl;have c1:=B1.cell 0 rfl;have hB:=bNext hw1 hb2;clear hw0 hw1 hb2 B0 B1;go_wp2_with fail
 go_ret;exact⟨by simp,hB⟩
theorem seeFault_none (w:World):Calls Tryz.prog 25 #[.nilIface] w fun e w'=>e = .returned (faultV 0 (.slice none 0 0))∧Below w.heap.size w w':=by
 have hb0:=(Below.refl w.heap.size w).alloc (Nat.le_refl _) (Obj.cells #[Value.int IntKind.i64 0,Value.slice none 0 0] 30);go_enter Tryz.func25,Tryz.ntmps25
 go_wp2_with fail
 refine (rNone_any9 _).mono ?_;rintro e w2 ⟨rfl,hb2⟩;have B2:=(Blk.newAt (w:=w) [Value.int IntKind.i64 0,Value.slice none 0 0] 30 rfl).below hb2;have hB2:=bNext hb0 hb2;have c0:=B2.cell 0 rfl;have c1:=B2.cell 1 rfl;have f0:=B2.free 0;have f1:=B2.free 1;go_wp2_with fail
 refine bodyPost_ret (results_blk1 (p:=2) (g:=w.heap.size) (cs:=[.int .i64 0,.slice none 0 0]) rfl _ _ _ rfl ((B2.set 0 (.int .i64 0)).set 1 (.slice none 0 0)) Tryz.underlying30 rfl (by kernel_rfl)) rfl ⟨rfl,?_⟩
 exact (hB2.setCell (p:=⟨w.heap.size,0,none⟩) (Nat.le_refl _) _).setCell (p:=⟨w.heap.size,1,none⟩) (Nat.le_refl _) _
theorem seeSame_bare (w:World)(ev:Value)(c:Int)(hF:∀ W,Below w.heap.size w W→Calls Tryz.prog 25 #[ev] W fun e w'=>e = .returned (faultV c (.slice none 0 0))∧Below W.heap.size W w') :
  Calls Tryz.prog 7 #[ev,faultV c (.slice none 0 0)] w fun e w'=>e = .returned (.bool true)∧Below w.heap.size w w':=by
 unfold faultV at *;have hw0:=((Below.refl w.heap.size w).alloc (Nat.le_refl _) (Obj.cells #[Value.int IntKind.i64 c,Value.slice none 0 0] 30));have HF:=Lib.hid (hF _ hw0);clear hF;go_enter Tryz.func7,Tryz.ntmps7
 go_wp2_with fail
 refine HF.out.mono ?_;rintro e w2 ⟨rfl,hb2⟩;have B0:=(Blk.newAt (w:=w) [Value.int IntKind.i64 c,Value.slice none 0 0] 30 rfl).below hb2;have l1:=B0.lt;have n1:¬ w.heap.size=w2.heap.size:=by omega
 have hB:=bNext hw0 hb2;clear hw0 hb2;have c0:=B0.cell 0 rfl;have c1:=B0.cell 1 rfl;go_wp2_with fail
 have hw1:=((Below.refl w2.heap.size w2).alloc (Nat.le_refl _) (Obj.cells #[Value.int IntKind.i64 c,Value.slice none 0 0] 30));refine (rSameFault_bare c _).mono ?_;rintro e w3 ⟨rfl,hb3⟩;have hB3:=bNext (bNext hB hw1) hb3;clear hB hw1 hb3;go_wp2_with fail
 go_ret;exact⟨rfl,hB3⟩
theorem rSameNode_eq (a b c d:Int)(s:ByteArray)(w:World):Calls Tryz.prog 27 #[.agg #[.int .i64 a,.int .i64 b,.int .i64 c,.int .i64 d,.string s],.agg #[.int .i64 a,.int .i64 b,.int .i64 c,.int .i64 d,.string s]] w fun e w'=>e = .returned (.bool true)∧Below w.heap.size w w':=by
 go_enter Tryz.func27,Tryz.ntmps27
 go_wp2_with fail
 go_ret;exact⟨rfl,((Below.refl _ _).alloc (Nat.le_refl _) _).alloc (by simp) _⟩
theorem rSameNodes_nil (w:World):Calls Tryz.prog 8 #[.slice none 0 0,.slice none 0 0] w fun e w'=>e = .returned (.bool true)∧Below w.heap.size w w':=by
 go_enter Tryz.func8,Tryz.ntmps8
 go_wp2_with fail
 go_loopg [5] 0 (fun m c wr=>m=0∧c = .int .i64 0∧wr=w)
 case atStart=>exact⟨rfl,rfl,rfl⟩
 case round =>
  obtain⟨rfl,rfl,rfl⟩:=hrel;go_wp2_with fail
  go_ret;exact⟨rfl,Below.refl _ _⟩
theorem rSameNodes_eq (l:Prog)(b b2:Nat)(v u:Value)(w:World)(hN:NSl w b v l)(hM:NSl w b2 u l)(hl:l.length≤1000000) :
  Calls Tryz.prog 8 #[v,u] w fun e w'=>e = .returned (.bool true)∧Below w.heap.size w w':=by
 obtain⟨g,cp,rfl,n1,n2,n3,n4,n5⟩:=hN;obtain⟨g',cp',rfl,m1,m2,m3,m4,m5⟩:=hM;have HN:=Lib.hid n5;have HM:=Lib.hid m5;obtain⟨n,hn⟩:∃ n,l.length=n:=⟨_,rfl⟩;have HL:=Lib.hid hn;rw[hn] at n1 m1 hl ⊢;clear n5 m5 hn;go_enter Tryz.func8,Tryz.ntmps8
 go_wp2_with fail
 go_loopg [5] n (fun m c wr=>∃ k:Nat,m=n - k∧k≤n∧c = .int .i64 k∧Below w.heap.size w wr)
 case atStart=>exact⟨0,rfl,Nat.zero_le _,rfl,Below.refl _ _⟩
 case round =>
  obtain⟨k,rfl,hk,rfl,hb⟩:=hrel
  by_cases hlt:k<n
  ·have hg:=ndAt_get (l:=l) (i:=k) (by have:=HL.out;omega)
   obtain⟨x0,x1,x2,x3,x4⟩:=NRow.facts2 HN.out hg;obtain⟨y0,y1,y2,y3,y4⟩:=NRow.facts2 HM.out hg;have x0:=cell_regrown (bSome hb x0);have x1:=cell_regrown (bSome hb x1);have x2:=cell_regrown (bSome hb x2);have x3:=cell_regrown (bSome hb x3);have x4:=cell_regrown (bSome hb x4);have y0:=cell_regrown (bSome hb y0);have y1:=cell_regrown (bSome hb y1);have y2:=cell_regrown (bSome hb y2);have y3:=cell_regrown (bSome hb y3);have y4:=cell_regrown (bSome hb y4);have hk0:(0:Int)≤(k:Int):=by omega
   have hk1:(k:Int)<(n:Int):=by omega
   have HB0:=Lib.hid hb;clear hg hb;generalize ndAt l k=x at *;go_upto_region 6 with fail
   refine wp_region_quiet_below (by kernel_rfl) (by kernel_rfl) ?_
   repeat (go_big_quiet_step ((go_at_call 27;exact Calls.regrown_of (rSameNode_eq _ _ _ _ _ _))))
   refine wpQuiet_nil ?_;intro w5 hw';have hb:Below wr.heap.size wr w5:=below_of_regrown hw';clear hw';go_wp2_with fail
   go_roundg (n - (k+1))
   case measure=>omega
   case rel=>exact⟨k+1,rfl,by omega,by go_num,bNext HB0.out hb⟩
  ·go_wp2_with fail
   go_ret;exact⟨rfl,hb⟩
end
end Go.Proofs.YtbplbehhlbkklaaGreatDoor
