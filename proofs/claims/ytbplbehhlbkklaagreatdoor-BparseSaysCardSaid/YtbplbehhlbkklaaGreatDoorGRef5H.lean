/- The document's programs: Check of programs that may be: look (patoisref5). -/
import Derived.Test.YtbplbehhlbkklaaGreatDoorGRef5G
import Derived.Deep.CutBlock
import Derived.Deep.RegionHeld3
namespace Go.Proofs.YtbplbehhlbkklaaGreatDoor
set_option maxHeartbeats 32000000
set_option maxRecDepth 100000
open Go Go.RowKit
theorem cell_set2 {w:World}{g b j:Nat}{v:Value}(hb:g≠b)(h:w.cell? ⟨b,j,none⟩=some v)(u1 u2:Value):((w.setCell ⟨g,0,none⟩ u1).setCell ⟨g,1,none⟩ u2).cell? ⟨b,j,none⟩=some v :=
 (World.cell?_of_block (w:=w) ((Below.heap_setCell _ _ _ _ (by show b≠g;omega)).trans (Below.heap_setCell _ _ _ _ (by show b≠g;omega)))).trans h
theorem r5look_walk (l:Prog)(F:NFix l)(b:Nat)(f:Nat):∀ (w:World)(v:Value)(i e d:Nat)(word last:Bool)(en:Int),NSl w b v l→i<l.length→i≤e→e≤l.length→(last=true∧en=e∨last=false∧en = -1)→Hid (lookP l f i e d word last=some none) →
  Calls Tryz.prog 59 #[v,.int .i64 i,.int .i64 en,.int .i64 e,.int .i64 d,.bool (!word)] w fun ee w'=>ee = .returned (.agg #[.int .i64 0,.slice none 0 0])∧Below w.heap.size w w':=by
 induction f using Nat.strongRecOn with
 | _ f ih =>
  intro w v i e d word last en hN hi hie he hen hr;have IH:=Lib.hid ih;clear ih;have hnum:=F.num;obtain⟨f,rfl,p1,p2,p3,p4,p5,p6,p7,p8,p9⟩:=lookP_parts hr.out;obtain⟨hkok,hkw,hkc⟩:=kindB_ok p1;clear hr p1;have HCH:=Lib.hid p9;obtain⟨x,hx⟩:∃ x,ndAt l i=x:=⟨_,rfl⟩;have hget:=ndAt_get hi;have hkk:=F.k i;rw[hx] at HCH hget hkk hkok hkw hkc p2 p3 p4 p5 p6 p7;have HN:=Lib.hid hN;obtain⟨g,cap,hv,h1,h2,h3,h4,h5⟩:=hN;obtain⟨n0,n1,n2,n3,n4⟩:=NRow.facts2 h5 hget;subst hv;have HRW:=Lib.hid h5;generalize hln:l.length=ln at *;have HLN:=Lib.hid hln;clear hx hget h5 hln p9;obtain⟨sz,hszz⟩:∃ sz:Nat,x.size=(sz:Int):=⟨x.size.toNat,by omega⟩
  rw[hszz] at n3 p4 p5 p6 p7 HCH;rw[Int.toNat_natCast] at HCH;have HAL:=Lib.hid (fun (w9:World)=>r5alone_any x w9 hkok p3 p2)
  rw[hszz] at HAL;have HP3:=Lib.hid p3;have HSZ:=Lib.hid hszz;clear hszz p2 p3 hkok;obtain⟨E,hEE⟩:∃ E,i+sz=E:=⟨_,rfl⟩;have hEI:(i:Int)+(sz:Int)=(E:Int):=by omega
  rw[hEE] at HCH;have hb0:=((Below.refl w.heap.size w).alloc (Nat.le_refl _) (.cells #[.int .i64 0,.slice none 0 0] 30)).alloc (by simp) (.cells #[.int .i64 x.kind,.int .i64 x.n,.int .i64 x.k,.int .i64 sz,.string (bs x.text)] 67)
  have hR0:=(Blk.new w [Value.int .i64 0,.slice none 0 0] 30).alloc (.cells #[.int .i64 x.kind,.int .i64 x.n,.int .i64 x.k,.int .i64 sz,.string (bs x.text)] 67);have hB0:=Blk.new (w.alloc (.cells #[.int .i64 0,.slice none 0 0] 30)) [Value.int .i64 x.kind,.int .i64 x.n,.int .i64 x.k,.int .i64 sz,.string (bs x.text)] 67;have n0:=bSome ((Below.refl w.heap.size w).alloc (Nat.le_refl _) (.cells #[.int .i64 0,.slice none 0 0] 30)) n0;have n1:=bSome ((Below.refl w.heap.size w).alloc (Nat.le_refl _) (.cells #[.int .i64 0,.slice none 0 0] 30)) n1;have n2:=bSome ((Below.refl w.heap.size w).alloc (Nat.le_refl _) (.cells #[.int .i64 0,.slice none 0 0] 30)) n2;have n3:=bSome ((Below.refl w.heap.size w).alloc (Nat.le_refl _) (.cells #[.int .i64 0,.slice none 0 0] 30)) n3;have n4:=bSome ((Below.refl w.heap.size w).alloc (Nat.le_refl _) (.cells #[.int .i64 0,.slice none 0 0] 30)) n4;rw[World.size_alloc] at hB0;go_enter Tryz.func59,Tryz.ntmps59
  go_upto_region 2 with fail
  obtain⟨w1,hw1⟩:∃ w1,(w.alloc (.cells #[.int .i64 0,.slice none 0 0] 30)).alloc (.cells #[.int .i64 x.kind,.int .i64 x.n,.int .i64 x.k,.int .i64 sz,.string (bs x.text)] 67)=w1:=⟨_,rfl⟩;have hB1:Blk w1 (w.heap.size+1) [Value.int .i64 x.kind,.int .i64 x.n,.int .i64 x.k,.int .i64 sz,.string (bs x.text)]:=by rw[← hw1];exact hB0
  have hR1:Blk w1 w.heap.size [Value.int .i64 0,.slice none 0 0]:=by rw[← hw1];exact hR0
  rw[hw1] at hb0 ⊢;have hbl:=hB1.lt;obtain⟨rb,hrb⟩:∃ rb,w.heap.size=rb:=⟨_,rfl⟩;rw[hrb] at hB1 hR1 hbl ⊢;clear hw1 hB0 hR0 n0 n1 n2 n3 n4;go_cut [14] (fun s14 w2=>s14 = .bool true∧w2=w1)
  case first =>
   have c0:=hB1.cell 0 rfl
   cases word with
   | true =>
    go_wp2_with fail
    refine (r5Word_any x.kind _).mono ?_;rintro ee w2 ⟨rfl,rfl⟩;rw[hkw];go_wp2_with fail
    go_meet
    case rel=>exact⟨rfl,rfl⟩
   | false =>
    go_wp2_with fail
    refine (r5Word_any x.kind _).mono ?_;rintro ee w2 ⟨rfl,rfl⟩;rw[hkw];go_wp2_with fail
    refine (r5Command_any x.kind _).mono ?_;rintro ee w2 ⟨rfl,rfl⟩;rw[hkc];go_wp2_with fail
    go_meet
    case rel=>exact⟨rfl,rfl⟩
  case rest =>
   obtain⟨rfl,rfl⟩:=hcut;rename World=>w2
   have hw1:IntKind.i64.wrap ((e:Int) - i)=(e:Int) - i:=by rw[IntKind.wrap_i64];omega
   have hw2:IntKind.i64.wrap ((i:Int)+sz)=(i:Int)+sz:=by rw[IntKind.wrap_i64];omega
   have hw3:IntKind.i64.wrap ((i:Int)+1)=(i:Int)+1:=by rw[IntKind.wrap_i64];omega
   clear hkw hkc;go_upto_region 3 with fail
   go_cut [71] (fun s71 w4=>s71 = .bool false∧Below w2.heap.size w2 w4)
   case first =>
    obtain⟨t0,t1,t2,t3,t4⟩:w2.cell? ⟨rb+1,0,none⟩=some (.int .i64 x.kind)∧w2.cell? ⟨rb+1,1,none⟩=some (.int .i64 x.n)∧w2.cell? ⟨rb+1,2,none⟩=some (.int .i64 x.k)∧w2.cell? ⟨rb+1,3,none⟩=some (.int .i64 sz)∧w2.cell? ⟨rb+1,4,none⟩=some (.string (bs x.text)):=⟨hB1.cell 0 rfl,hB1.cell 1 rfl,hB1.cell 2 rfl,hB1.cell 3 rfl,hB1.cell 4 rfl⟩;go_wp2_with fail
    refine (HAL.out _).mono ?_;rintro ee w3 ⟨rfl,hb3⟩;have hB3:=hB1.below hb3;clear t0 t1 t2 t3 t4;obtain⟨t0,t1,t2,t3,t4⟩:w3.cell? ⟨rb+1,0,none⟩=some (.int .i64 x.kind)∧w3.cell? ⟨rb+1,1,none⟩=some (.int .i64 x.n)∧w3.cell? ⟨rb+1,2,none⟩=some (.int .i64 x.k)∧w3.cell? ⟨rb+1,3,none⟩=some (.int .i64 sz)∧w3.cell? ⟨rb+1,4,none⟩=some (.string (bs x.text)):=⟨hB3.cell 0 rfl,hB3.cell 1 rfl,hB3.cell 2 rfl,hB3.cell 3 rfl,hB3.cell 4 rfl⟩
    rcases hen with ⟨rfl,rfl⟩ | ⟨rfl,rfl⟩
    ·have he2:((E:Int)==e)=true:=by rw[beq_iff_eq];have:=p6 rfl;omega
     go_wp2_with fail
     go_meet
     case rel=>exact⟨by first | rfl | (simp;done) | (simp;omega),hb3⟩
    ·go_wp2_with fail
     go_meet
     case rel=>exact⟨by first | rfl | (simp;done) | (simp;omega),hb3⟩
   case rest =>
    rename World=>w4
    obtain⟨rfl,hb4⟩:=hcut;have hB4:=hB1.below hb4;have hR4:=hR1.below hb4;have hb5:=bNext hb0 hb4;clear hB1 hR1 hb0 hb4;obtain⟨t0,t1,t2,t3,t4⟩:w4.cell? ⟨rb+1,0,none⟩=some (.int .i64 x.kind)∧w4.cell? ⟨rb+1,1,none⟩=some (.int .i64 x.n)∧w4.cell? ⟨rb+1,2,none⟩=some (.int .i64 x.k)∧w4.cell? ⟨rb+1,3,none⟩=some (.int .i64 sz)∧w4.cell? ⟨rb+1,4,none⟩=some (.string (bs x.text)):=⟨hB4.cell 0 rfl,hB4.cell 1 rfl,hB4.cell 2 rfl,hB4.cell 3 rfl,hB4.cell 4 rfl⟩;go_upto_block 0 with fail
    go_cut [] (fun w5=>w5=w4)
    case first =>
     go_wp2_with fail
     go_loopg [15,16,17] f (fun m s15 s16 s17 wr=>∃ (fk kk c:Nat),m=fk∧s15 = .int .i64 c∧s16 = .int .i64 kk∧wr=w4∧c≤E∧kk≤c∧Hid (lookK l fk kk c E (d+1) x=some none))
     case atStart=>exact⟨f,0,i+1,rfl,by simp,rfl,rfl,by omega,by omega,HCH⟩
     case round =>
      obtain⟨fk,kk,c,hm,rfl,rfl,rfl,hc1,hc2,hK⟩:=hrel;obtain rfl:=hm.symm
      by_cases hl:(kk:Int)<x.k
      ·obtain⟨fk',rfl,hch,hK2⟩:=lookK_child hK.out hl;obtain⟨y1,y2⟩:=look_none hch;have HK2:=Lib.hid hK2;have hcl:c<l.length:=by have:=HLN.out;omega
       obtain⟨-,-,-,p3,-⟩:=NRow.facts2 HRW.out (ndAt_get hcl);have p3:=bSome hb5 p3;obtain⟨y,hy⟩:∃ y,(ndAt l c).size=y:=⟨_,rfl⟩;rw[hy] at p3 y1 y2 HK2;obtain⟨yn,rfl⟩:∃ q:Nat,y=(q:Int):=⟨y.toNat,by omega⟩
       rw[Int.toNat_natCast] at HK2;have hwE:IntKind.i64.wrap ((E:Int) - c)=(E:Int) - c:=by rw[IntKind.wrap_i64];omega
       have hwc:IntKind.i64.wrap ((c:Int)+yn)=(c:Int)+yn:=by rw[IntKind.wrap_i64];omega
       have hwk:IntKind.i64.wrap ((kk:Int)+1)=(kk:Int)+1:=by rw[IntKind.wrap_i64];omega
       have hcn:(c:Int)<ln:=by have:=HLN.out;omega
       clear hy hch hK2 hK;go_wp2_with fail
       go_roundg fk'
       case measure=>omega
       case rel=>exact⟨fk',kk+1,c+yn,rfl,by simp,by simp,rfl,by omega,by omega,HK2⟩
      ·go_wp2_with fail
       go_meet
       case rel=>rfl
    case rest =>
     obtain rfl:=hcut;rename World=>w5
     go_upto_region 17 with fail
     go_cut [131] (fun s131 w6=>s131 = .bool false∧w6=w5)
     case first =>
      by_cases hk0:x.k=0
      ·have hs1:=p7 hk0;rw[hk0] at t2;rw[hs1] at t3;go_wp2_with fail
       go_meet
       case rel=>exact⟨by first | rfl | (simp;done),rfl⟩
      ·have k1:(x.k==0)=false:=by rw[beq_eq_false_iff_ne];exact hk0
       go_wp2_with fail
       go_meet
       case rel=>exact⟨rfl,rfl⟩
     case rest =>
      obtain⟨rfl,rfl⟩:=hcut;rename World=>w6
      have hd2:¬ (30:Int)<d:=by omega
      have hwd:IntKind.i64.wrap ((d:Int)+1)=(d:Int)+1:=by rw[IntKind.wrap_i64];omega
      go_wp2_with fail
      go_loopg [15,18,19,20] f (fun m s15 s18 s19 s20 wr=>∃ (fk kk c:Nat),m=fk∧s15 = .int .i64 c∧s18 = .int .i64 kk∧Below w.heap.size w wr∧Blk wr (rb+1) [.int .i64 x.kind,.int .i64 x.n,.int .i64 x.k,.int .i64 sz,.string (bs x.text)]∧Blk wr rb [.int .i64 0,.slice none 0 0]∧c≤E∧kk≤c∧fk≤f∧Hid (lookK l fk kk c E (d+1) x=some none))
      case atStart=>exact⟨f,0,i+1,rfl,by simp,rfl,hb5,hB4,hR4,by omega,by omega,Nat.le_refl _,HCH⟩
      case round =>
       clear hb5 hB4 hR4 t0 t1 t2 t3 t4 HCH;obtain⟨fk,kk,c,hm,rfl,rfl,hb5,hB4,hR4,hc1,hc2,hfk,hK⟩:=hrel;obtain rfl:=hm.symm;obtain⟨t0,t1,t2,t3,t4⟩:wr.cell? ⟨rb+1,0,none⟩=some (.int .i64 x.kind)∧wr.cell? ⟨rb+1,1,none⟩=some (.int .i64 x.n)∧wr.cell? ⟨rb+1,2,none⟩=some (.int .i64 x.k)∧wr.cell? ⟨rb+1,3,none⟩=some (.int .i64 sz)∧wr.cell? ⟨rb+1,4,none⟩=some (.string (bs x.text)):=⟨hB4.cell 0 rfl,hB4.cell 1 rfl,hB4.cell 2 rfl,hB4.cell 3 rfl,hB4.cell 4 rfl⟩
       by_cases hl:(kk:Int)<x.k
       ·obtain⟨fk',rfl,hch,hK2⟩:=lookK_child hK.out hl;obtain⟨y1,y2⟩:=look_none hch;have HK2:=Lib.hid hK2;have HCHI:=Lib.hid hch;have hcl:c<l.length:=by have:=HLN.out;omega
        obtain⟨-,-,-,p3,-⟩:=NRow.facts2 HRW.out (ndAt_get hcl);have HP:=Lib.hid p3;obtain⟨y,hy⟩:∃ y,(ndAt l c).size=y:=⟨_,rfl⟩;rw[hy] at HP y1 y2 HK2;obtain⟨yn,rfl⟩:∃ q:Nat,y=(q:Int):=⟨y.toNat,by omega⟩
        rw[Int.toNat_natCast] at HK2;have hwx:IntKind.i64.wrap (x.k - 1)=x.k - 1:=by rw[IntKind.wrap_i64];omega
        have hwc:IntKind.i64.wrap ((c:Int)+yn)=(c:Int)+yn:=by rw[IntKind.wrap_i64];omega
        have hwk:IntKind.i64.wrap ((kk:Int)+1)=(kk:Int)+1:=by rw[IntKind.wrap_i64];omega
        have hcn:(c:Int)<ln:=by have:=HLN.out;omega
        clear hy hch hK2 hK p3;have HC:=Lib.hid (fun (w9:World)=>r5command_any x kk w9 HP3.out hl hkk.2)
        have hwE:IntKind.i64.wrap (E:Int)=(E:Int):=by rw[IntKind.wrap_i64];omega
        obtain⟨tk,htk⟩:∃ tk,takesB x.kind x.k kk=tk:=⟨_,rfl⟩;rw[htk] at HC HCHI;clear htk
        by_cases hlast:(kk:Int)=x.k - 1
        ·have k9:((kk:Int)==x.k - 1)=true:=by rw[beq_iff_eq];exact hlast
         have HCH2:=Lib.hid (show lookP l fk' c E (d+1) tk true=some none from by have h:=HCHI.out;rwa [decide_eq_true hlast] at h)
         have HD:=Lib.hid (fun (w9:World) (hb9:Below w.heap.size w w9)=>IH.out fk' (by omega) w9 _ c E (d+1) tk true E (HN.out.below hb9) (by omega) (by omega) (by have:=HLN.out;omega) (.inl ⟨rfl,rfl⟩) HCH2)
         clear HCHI hlast;rw[show ((d+1:Nat):Int)=(d:Int)+1 by omega] at HD
         have HDD:=Lib.hid (show ∀ (w9:World),Below w.heap.size w w9→Calls Tryz.prog 59 #[.slice (some ⟨g,0,none⟩) ln cap,.int .i64 c,.int .i64 (E:Int),.int .i64 (IntKind.i64.wrap (E:Int)),.int .i64 ((d:Int)+1),.bool (!tk)] w9 (fun ee w'=>ee = .returned (.agg #[.int .i64 0,.slice none 0 0])∧Below w9.heap.size w9 w') from fun w9 hb9=>by rw[hwE];exact HD.out w9 hb9)
         clear HD hwE;go_upto_region 28 with fail
         go_cut [20] (fun s20 w9=>∃ tq:Nat,s20 = .pointer (some ⟨tq,0,none⟩)∧Blk w9 tq [.int .i64 0,.slice none 0 0]∧Below wr.heap.size wr w9)
         case first =>
          have hal:=(Below.refl wr.heap.size wr).alloc (Nat.le_refl _) (.cells #[.int .i64 0,.slice none 0 0] 30);have u0:=bSome hal t0;have u1:=bSome hal t1;have u2:=bSome hal t2;have u3:=bSome hal t3;have u4:=bSome hal t4;have hN0:=Blk.new wr [Value.int .i64 0,.slice none 0 0] 30;have hnb:wr.heap.size≠rb+1:=by have:=hB4.lt;omega
          go_region_held3 (fun w'=>w'.cell? ⟨rb+1,0,none⟩=some (.int .i64 x.kind)∧w'.cell? ⟨rb+1,1,none⟩=some (.int .i64 x.n)∧w'.cell? ⟨rb+1,2,none⟩=some (.int .i64 x.k)∧w'.cell? ⟨rb+1,3,none⟩=some (.int .i64 sz)∧w'.cell? ⟨rb+1,4,none⟩=some (.string (bs x.text))) (first | exact⟨t0,t1,t2,t3,t4⟩ | exact⟨u0,u1,u2,u3,u4⟩ | exact⟨bSome hb8 t0,bSome hb8 t1,bSome hb8 t2,bSome hb8 t3,bSome hb8 t4⟩ | exact⟨bSome hb8 u0,bSome hb8 u1,bSome hb8 u2,bSome hb8 u3,bSome hb8 u4⟩ | exact⟨cell_set2 hnb (bSome hb8 u0) _ _,cell_set2 hnb (bSome hb8 u1) _ _,cell_set2 hnb (bSome hb8 u2) _ _,cell_set2 hnb (bSome hb8 u3) _ _,cell_set2 hnb (bSome hb8 u4) _ _⟩ | go_keep)
           (first
            | (go_at_call 96;(with_reducible refine (HC.out _).mono ?_);rintro ee w7 ⟨rfl,rfl⟩)
            | (go_at_call 59;(with_reducible refine (HDD.out _ hb5.drew).mono ?_);rintro ee w8 ⟨rfl,hb8⟩)
            | (go_at_call 59;(with_reducible refine (HDD.out _ (hb5.alloc hb5.size _).drew).mono ?_);rintro ee w8 ⟨rfl,hb8⟩;have hN8:=hN0.drew.below hb8;have m0:=hN8.cell 0 rfl;have m1:=hN8.cell 1 rfl;have mf0:=hN8.free 0;have mf1:=hN8.free 1))
          all_goals go_wp2_with fail
          all_goals go_meet
          all_goals first
           | exact⟨_,rfl,Blk.newAt _ _ rfl,(((Below.refl _ wr).drew).trans hb8).alloc hb8.size _⟩
           | exact⟨_,rfl,(hN8.set 0 (.int .i64 0)).set 1 (.slice none 0 0),(((hal.drew).trans (hb8.mono hal.size)).setCell (p:=⟨wr.heap.size,0,none⟩) (Nat.le_refl _) _).setCell (p:=⟨wr.heap.size,1,none⟩) (Nat.le_refl _) _⟩
         case rest =>
          rename World=>w9
          obtain⟨tq,rfl,hN9,hb9⟩:=hcut;have hB9:=hB4.below hb9;have hR9:=hR4.below hb9;have hb10:=bNext hb5 hb9;have p3:=bSome hb10 HP.out;have q0:=hN9.cell 0 rfl;clear hB4 hR4 hb5 hb9 t0 t1 t2 t3 t4;go_wp2_with fail
          go_roundg fk'
          case measure=>omega
          case rel=>exact⟨fk',kk+1,c+yn,rfl,by simp,by simp,hb10,hB9,hR9,by omega,by omega,by omega,HK2⟩
        ·have k9:((kk:Int)==x.k - 1)=false:=by rw[beq_eq_false_iff_ne];exact hlast
         have HCH2:=Lib.hid (show lookP l fk' c E (d+1) tk false=some none from by have h:=HCHI.out;rwa [decide_eq_false hlast] at h)
         have HD:=Lib.hid (fun (w9:World) (hb9:Below w.heap.size w w9)=>IH.out fk' (by omega) w9 _ c E (d+1) tk false (-1) (HN.out.below hb9) (by omega) (by omega) (by have:=HLN.out;omega) (.inr ⟨rfl,rfl⟩) HCH2)
         clear HCHI hlast;rw[show ((d+1:Nat):Int)=(d:Int)+1 by omega] at HD
         have HDD:=Lib.hid (show ∀ (w9:World),Below w.heap.size w w9→Calls Tryz.prog 59 #[.slice (some ⟨g,0,none⟩) ln cap,.int .i64 c,.int .i64 (-1),.int .i64 (IntKind.i64.wrap (E:Int)),.int .i64 ((d:Int)+1),.bool (!tk)] w9 (fun ee w'=>ee = .returned (.agg #[.int .i64 0,.slice none 0 0])∧Below w9.heap.size w9 w') from fun w9 hb9=>by rw[hwE];exact HD.out w9 hb9)
         clear HD hwE;go_upto_region 28 with fail
         go_cut [20] (fun s20 w9=>∃ tq:Nat,s20 = .pointer (some ⟨tq,0,none⟩)∧Blk w9 tq [.int .i64 0,.slice none 0 0]∧Below wr.heap.size wr w9)
         case first =>
          have hal:=(Below.refl wr.heap.size wr).alloc (Nat.le_refl _) (.cells #[.int .i64 0,.slice none 0 0] 30);have u0:=bSome hal t0;have u1:=bSome hal t1;have u2:=bSome hal t2;have u3:=bSome hal t3;have u4:=bSome hal t4;have hN0:=Blk.new wr [Value.int .i64 0,.slice none 0 0] 30;have hnb:wr.heap.size≠rb+1:=by have:=hB4.lt;omega
          go_region_held3 (fun w'=>w'.cell? ⟨rb+1,0,none⟩=some (.int .i64 x.kind)∧w'.cell? ⟨rb+1,1,none⟩=some (.int .i64 x.n)∧w'.cell? ⟨rb+1,2,none⟩=some (.int .i64 x.k)∧w'.cell? ⟨rb+1,3,none⟩=some (.int .i64 sz)∧w'.cell? ⟨rb+1,4,none⟩=some (.string (bs x.text))) (first | exact⟨t0,t1,t2,t3,t4⟩ | exact⟨u0,u1,u2,u3,u4⟩ | exact⟨bSome hb8 t0,bSome hb8 t1,bSome hb8 t2,bSome hb8 t3,bSome hb8 t4⟩ | exact⟨bSome hb8 u0,bSome hb8 u1,bSome hb8 u2,bSome hb8 u3,bSome hb8 u4⟩ | exact⟨cell_set2 hnb (bSome hb8 u0) _ _,cell_set2 hnb (bSome hb8 u1) _ _,cell_set2 hnb (bSome hb8 u2) _ _,cell_set2 hnb (bSome hb8 u3) _ _,cell_set2 hnb (bSome hb8 u4) _ _⟩ | go_keep)
           (first
            | (go_at_call 96;(with_reducible refine (HC.out _).mono ?_);rintro ee w7 ⟨rfl,rfl⟩)
            | (go_at_call 59;(with_reducible refine (HDD.out _ hb5.drew).mono ?_);rintro ee w8 ⟨rfl,hb8⟩)
            | (go_at_call 59;(with_reducible refine (HDD.out _ (hb5.alloc hb5.size _).drew).mono ?_);rintro ee w8 ⟨rfl,hb8⟩;have hN8:=hN0.drew.below hb8;have m0:=hN8.cell 0 rfl;have m1:=hN8.cell 1 rfl;have mf0:=hN8.free 0;have mf1:=hN8.free 1))
          all_goals go_wp2_with fail
          all_goals go_meet
          all_goals first
           | exact⟨_,rfl,Blk.newAt _ _ rfl,(((Below.refl _ wr).drew).trans hb8).alloc hb8.size _⟩
           | exact⟨_,rfl,(hN8.set 0 (.int .i64 0)).set 1 (.slice none 0 0),(((hal.drew).trans (hb8.mono hal.size)).setCell (p:=⟨wr.heap.size,0,none⟩) (Nat.le_refl _) _).setCell (p:=⟨wr.heap.size,1,none⟩) (Nat.le_refl _) _⟩
         case rest =>
          rename World=>w9
          obtain⟨tq,rfl,hN9,hb9⟩:=hcut;have hB9:=hB4.below hb9;have hR9:=hR4.below hb9;have hb10:=bNext hb5 hb9;have p3:=bSome hb10 HP.out;have q0:=hN9.cell 0 rfl;clear hB4 hR4 hb5 hb9 t0 t1 t2 t3 t4;go_wp2_with fail
          go_roundg fk'
          case measure=>omega
          case rel=>exact⟨fk',kk+1,c+yn,rfl,by simp,by simp,hb10,hB9,hR9,by omega,by omega,by omega,HK2⟩
       ·go_wp2_with fail
        refine (rNone_any9 _).mono ?_;rintro ee w7 ⟨rfl,hb7⟩;have hR7:=hR4.below hb7;have r0:=hR7.cell 0 rfl;have r1:=hR7.cell 1 rfl;have rf0:=hR7.free 0;have rf1:=hR7.free 1;go_wp2_with fail
        have hbz:=((bNext hb5 hb7).setCell (p:=⟨rb,0,none⟩) (by rw[hrb];exact Nat.le_refl _) (.int .i64 0)).setCell (p:=⟨rb,1,none⟩) (by rw[hrb];exact Nat.le_refl _) (.slice none 0 0)
        exact bodyPost_ret (results_blk1 (p:=12) (g:=rb) (cs:=[.int .i64 0,.slice none 0 0]) rfl _ _ _ rfl ((hR7.set 0 (.int .i64 0)).set 1 (.slice none 0 0)) Tryz.underlying30 rfl (by kernel_rfl)) rfl ⟨rfl,hbz⟩
end Go.Proofs.YtbplbehhlbkklaaGreatDoor
namespace Go.Proofs.YtbplbehhlbkklaaGreatDoor
set_option maxHeartbeats 32000000
set_option maxRecDepth 100000
open Go Go.RowKit
theorem r5Check_any (l:Prog)(F:NFix l)(b:Nat)(w:World)(v:Value)(hN:NSl w b v l)(hl:0<l.length)(hl2:l.length≤3000)(hk:lookP l (3 * l.length) 0 l.length 1 false true=some none) :
  Calls Tryz.prog 29 #[v] w fun e w'=>e = .returned (.agg #[.int .i64 0,.slice none 0 0])∧Below w.heap.size w w':=by
 have HN:=Lib.hid hN;obtain⟨g,cap,rfl,-⟩:=hN;have hR0:=Blk.new w [Value.int .i64 0,.slice none 0 0] 30;have hb0:=(Below.refl w.heap.size w).alloc (Nat.le_refl _) (.cells #[.int .i64 0,.slice none 0 0] 30);have HL:=Lib.hid (r5look_walk l F b (3 * l.length) _ _ 0 l.length 1 false true (l.length:Int) (HN.out.below hb0) hl (by omega) (Nat.le_refl _) (.inl ⟨rfl,rfl⟩) (Lib.hid hk))
 obtain⟨n,hn⟩:∃ n,l.length=n:=⟨_,rfl⟩;rw[hn] at HL hl hl2 ⊢;clear hn hk;have e1:((n:Int)==0)=false:=by rw[beq_eq_false_iff_ne];omega
 go_enter Tryz.func29,Tryz.ntmps29
 go_wp2_with fail
 refine HL.out.mono ?_;rintro e w1 ⟨rfl,hb1⟩;have hR1:=hR0.below hb1;have r0:=hR1.cell 0 rfl;have r1:=hR1.cell 1 rfl;have rf0:=hR1.free 0;have rf1:=hR1.free 1;have hb2:=bNext hb0 hb1;go_wp2_with fail
 have hbz:=(hb2.setCell (p:=⟨w.heap.size,0,none⟩) (Nat.le_refl _) (.int .i64 0)).setCell (p:=⟨w.heap.size,1,none⟩) (Nat.le_refl _) (.slice none 0 0);exact bodyPost_ret (results_blk1 (p:=2) (g:=w.heap.size) (cs:=[.int .i64 0,.slice none 0 0]) rfl _ _ _ rfl ((hR1.set 0 (.int .i64 0)).set 1 (.slice none 0 0)) Tryz.underlying30 rfl (by kernel_rfl)) rfl ⟨rfl,hbz⟩
end Go.Proofs.YtbplbehhlbkklaaGreatDoor
