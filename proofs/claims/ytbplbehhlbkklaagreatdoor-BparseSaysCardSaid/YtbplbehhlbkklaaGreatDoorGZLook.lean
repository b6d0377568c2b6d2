/- The document's programs: Check of programs that may be but for their depth: look (patoisref5). -/
import Derived.Test.YtbplbehhlbkklaaGreatDoorGRef5H
import Derived.Test.YtbplbehhlbkklaaGreatDoorGZKit
import Derived.Test.YtbplbehhlbkklaaGreatDoorGZTree
namespace Go.Proofs.YtbplbehhlbkklaaGreatDoor
set_option maxHeartbeats 32000000
set_option maxRecDepth 100000
open Go Go.RowKit
def LF (w:World) (B:Nat) (r:Option Nat) (fa:Value):Prop:=match r with
 | none=>fa = .slice none 0 0
 | some p=>∃ fb,fa = .slice (some ⟨fb,0,none⟩) 1 1∧B≤fb∧w.heap[fb]?=some (.cells #[.int .i64 p] 3 (0,0))
def lcode (r:Option Nat):Nat:=match r with | none=>0 | some _=>102
theorem LF.block {w w':World}{B:Nat}{r:Option Nat}{fa:Value}(h:LF w B r fa)(hb:∀ k,B≤k→k<w.heap.size→w'.heap[k]?=w.heap[k]?):LF w' B r fa:=by
 cases r with
 | none=>exact h
 | some p =>
  obtain⟨fb,h1,h2,h3⟩:=h;exact⟨fb,h1,h2,(hb fb h2 (lt_of_block h3)).trans h3⟩
theorem LF.below {w w':World}{B:Nat}{r:Option Nat}{fa:Value}(h:LF w B r fa)(hb:Below w.heap.size w w'):LF w' B r fa:=h.block fun k _ hk=>hb.block k hk
theorem LF.mono {w:World}{B B':Nat}{r:Option Nat}{fa:Value}(h:LF w B r fa)(hB:B'≤B):LF w B' r fa:=by
 cases r with
 | none=>exact h
 | some p =>
  obtain⟨fb,h1,h2,h3⟩:=h;exact⟨fb,h1,Nat.le_trans hB h2,h3⟩
theorem LF.set2 {w:World}{B G:Nat}{r:Option Nat}{fa u1 u2:Value}(h:LF w B r fa)(hG:G<B):LF ((w.setCell ⟨G,0,none⟩ u1).setCell ⟨G,1,none⟩ u2) B r fa :=
 h.block fun k hk _=>(Below.heap_setCell _ _ _ _ (by show k≠G;omega)).trans (Below.heap_setCell _ _ _ _ (by show k≠G;omega))
theorem LF.form {w:World}{B:Nat}{r:Option Nat}{fa:Value}(h:LF w B r fa):∃ ao n c,fa = .slice ao n c:=by
 cases r with
 | none=>exact⟨_,_,_,h⟩
 | some p =>
  obtain⟨fb,h1,-⟩:=h;exact⟨_,_,_,h1⟩
theorem r5look_all (K:Int→Bool)(l:Prog)(F:NFix l)(b:Nat)(f:Nat):∀ (w:World)(v:Value)(i e d:Nat)(word last:Bool)(en:Int)(r:Option Nat),NSl w b v l→TreeAt K l i e word last→e≤l.length→(last=true∧en=e∨last=false∧en = -1)→Hid (lookP l f i e d word last=some (r.map fun p=>(102,p))) →
  Calls Tryz.prog 59 #[v,.int .i64 i,.int .i64 en,.int .i64 e,.int .i64 d,.bool (!word)] w fun ee w'=>∃ fa,ee = .returned (.agg #[.int .i64 (lcode r),fa])∧LF w' w.heap.size r fa∧Below w.heap.size w w':=by
 induction f using Nat.strongRecOn with
 | _ f ih =>
  intro w v i e d word last en r hN hT he hen hr;have IH:=Lib.hid ih;clear ih;have hnum:=F.num;obtain⟨f,n,sz,rfl,p1,p2,p3,hszz,hkn,p4,p5,p5l,p6,p7,p8,hkd,p9⟩:=tree_parts hT hr.out;have hi:i<l.length:=by omega
  have hie:i≤e:=by omega
  obtain⟨hkok,hkw,hkc⟩:=kindB_ok p1;clear hr p1 hT;have HCH:=Lib.hid p9;have HKD:=Lib.hid hkd;obtain⟨x,hx⟩:∃ x,ndAt l i=x:=⟨_,rfl⟩;have hget:=ndAt_get hi;have hkk:=F.k i;rw[hx] at HCH HKD hget hkk hkok hkw hkc p2 p3 hszz hkn;have HN:=Lib.hid hN;obtain⟨g,cap,hv,h1,h2,h3,h4,h5⟩:=hN;obtain⟨n0,n1,n2,n3,n4⟩:=NRow.facts2 h5 hget;subst hv;have HRW:=Lib.hid h5;generalize hln:l.length=ln at *;have HLN:=Lib.hid hln;have HKN:=Lib.hid hkn;clear hx hget h5 hln p9 hkd hkn;rw[hszz] at n3;have HAL:=Lib.hid (fun (w9:World)=>r5alone_any x w9 hkok p3 p2)
  rw[hszz] at HAL;have HP3:=Lib.hid p3;have HSZ:=Lib.hid hszz;clear hszz p2 p3 hkok;have p4i:(1:Int)≤(sz:Int):=by omega
  have p5i:(sz:Int)≤(e:Int) - i:=by omega
  obtain⟨E,hEE⟩:∃ E,i+sz=E:=⟨_,rfl⟩;have hEI:(i:Int)+(sz:Int)=(E:Int):=by omega
  rw[hEE] at HCH HKD;have hb0:=((Below.refl w.heap.size w).alloc (Nat.le_refl _) (.cells #[.int .i64 0,.slice none 0 0] 30)).alloc (by simp) (.cells #[.int .i64 x.kind,.int .i64 x.n,.int .i64 x.k,.int .i64 sz,.string (bs x.text)] 67)
  have hR0:=(Blk.new w [Value.int .i64 0,.slice none 0 0] 30).alloc (.cells #[.int .i64 x.kind,.int .i64 x.n,.int .i64 x.k,.int .i64 sz,.string (bs x.text)] 67);have hB0:=Blk.new (w.alloc (.cells #[.int .i64 0,.slice none 0 0] 30)) [Value.int .i64 x.kind,.int .i64 x.n,.int .i64 x.k,.int .i64 sz,.string (bs x.text)] 67;have n0:=bSome ((Below.refl w.heap.size w).alloc (Nat.le_refl _) (.cells #[.int .i64 0,.slice none 0 0] 30)) n0;have n1:=bSome ((Below.refl w.heap.size w).alloc (Nat.le_refl _) (.cells #[.int .i64 0,.slice none 0 0] 30)) n1;have n2:=bSome ((Below.refl w.heap.size w).alloc (Nat.le_refl _) (.cells #[.int .i64 0,.slice none 0 0] 30)) n2;have n3:=bSome ((Below.refl w.heap.size w).alloc (Nat.le_refl _) (.cells #[.int .i64 0,.slice none 0 0] 30)) n3;have n4:=bSome ((Below.refl w.heap.size w).alloc (Nat.le_refl _) (.cells #[.int .i64 0,.slice none 0 0] 30)) n4;rw[World.size_alloc] at hB0;go_enter Tryz.func59,Tryz.ntmps59
  go_upto_region 2 with fail
  obtain⟨w1,hw1⟩:∃ w1,(w.alloc (.cells #[.int .i64 0,.slice none 0 0] 30)).alloc (.cells #[.int .i64 x.kind,.int .i64 x.n,.int .i64 x.k,.int .i64 sz,.string (bs x.text)] 67)=w1:=⟨_,rfl⟩;have hB1:Blk w1 (w.heap.size+1) [Value.int .i64 x.kind,.int .i64 x.n,.int .i64 x.k,.int .i64 sz,.string (bs x.text)]:=by rw[← hw1];exact hB0
  have hR1:Blk w1 w.heap.size [Value.int .i64 0,.slice none 0 0]:=by rw[← hw1];exact hR0
  rw[hw1] at hb0 ⊢;have hbl:=hB1.lt;obtain⟨rb,hrb⟩:∃ rb,w.heap.size=rb:=⟨_,rfl⟩;rw[hrb] at hB1 hR1 hbl ⊢;clear hw1 hB0 hR0 n0 n1 n2 n3 n4;go_cut [14] (fun s14 w2=>s14 = .bool true∧w2=w1)
  case first =>
   have c0:=hB1.cell 0 rfl
   cases word with
   | true =>
    go_wp2_with fail
    refine (r5Word_any x.kind _).mono ?_;rintro ee w2 ⟨rfl,rfl⟩;rw[hkw];go_wp2_with fail
    go_meet
    case rel=>exact⟨rfl,rfl⟩
   | false =>
    go_wp2_with fail
    refine (r5Word_any x.kind _).mono ?_;rintro ee w2 ⟨rfl,rfl⟩;rw[hkw];go_wp2_with fail
    refine (r5Command_any x.kind _).mono ?_;rintro ee w2 ⟨rfl,rfl⟩;rw[hkc];go_wp2_with fail
    go_meet
    case rel=>exact⟨rfl,rfl⟩
  case rest =>
   obtain⟨rfl,rfl⟩:=hcut;rename World=>w2
   have hw1:IntKind.i64.wrap ((e:Int) - i)=(e:Int) - i:=by rw[IntKind.wrap_i64];omega
   have hw2:IntKind.i64.wrap ((i:Int)+sz)=(i:Int)+sz:=by rw[IntKind.wrap_i64];omega
   have hw3:IntKind.i64.wrap ((i:Int)+1)=(i:Int)+1:=by rw[IntKind.wrap_i64];omega
   clear hkw hkc;go_upto_region 3 with fail
   go_cut [71] (fun s71 w4=>s71 = .bool false∧Below w2.heap.size w2 w4)
   case first =>
    obtain⟨t0,t1,t2,t3,t4⟩:w2.cell? ⟨rb+1,0,none⟩=some (.int .i64 x.kind)∧w2.cell? ⟨rb+1,1,none⟩=some (.int .i64 x.n)∧w2.cell? ⟨rb+1,2,none⟩=some (.int .i64 x.k)∧w2.cell? ⟨rb+1,3,none⟩=some (.int .i64 sz)∧w2.cell? ⟨rb+1,4,none⟩=some (.string (bs x.text)):=⟨hB1.cell 0 rfl,hB1.cell 1 rfl,hB1.cell 2 rfl,hB1.cell 3 rfl,hB1.cell 4 rfl⟩;go_wp2_with fail
    refine (HAL.out _).mono ?_;rintro ee w3 ⟨rfl,hb3⟩;have hB3:=hB1.below hb3;clear t0 t1 t2 t3 t4;obtain⟨t0,t1,t2,t3,t4⟩:w3.cell? ⟨rb+1,0,none⟩=some (.int .i64 x.kind)∧w3.cell? ⟨rb+1,1,none⟩=some (.int .i64 x.n)∧w3.cell? ⟨rb+1,2,none⟩=some (.int .i64 x.k)∧w3.cell? ⟨rb+1,3,none⟩=some (.int .i64 sz)∧w3.cell? ⟨rb+1,4,none⟩=some (.string (bs x.text)):=⟨hB3.cell 0 rfl,hB3.cell 1 rfl,hB3.cell 2 rfl,hB3.cell 3 rfl,hB3.cell 4 rfl⟩
    rcases hen with ⟨rfl,rfl⟩ | ⟨rfl,rfl⟩
    ·have p6i:(sz:Int)=(e:Int) - i:=by have:=p6 rfl;omega
     have he2:((E:Int)==e)=true:=by rw[beq_iff_eq];have:=p6 rfl;omega
     go_wp2_with fail
     go_meet
     case rel=>exact⟨by first | rfl | (simp;done) | (simp;omega),hb3⟩
    ·go_wp2_with fail
     go_meet
     case rel=>exact⟨by first | rfl | (simp;done) | (simp;omega),hb3⟩
   case rest =>
    rename World=>w4
    obtain⟨rfl,hb4⟩:=hcut;have hB4:=hB1.below hb4;have hR4:=hR1.below hb4;have hb5:=bNext hb0 hb4;clear hB1 hR1 hb0 hb4;obtain⟨t0,t1,t2,t3,t4⟩:w4.cell? ⟨rb+1,0,none⟩=some (.int .i64 x.kind)∧w4.cell? ⟨rb+1,1,none⟩=some (.int .i64 x.n)∧w4.cell? ⟨rb+1,2,none⟩=some (.int .i64 x.k)∧w4.cell? ⟨rb+1,3,none⟩=some (.int .i64 sz)∧w4.cell? ⟨rb+1,4,none⟩=some (.string (bs x.text)):=⟨hB4.cell 0 rfl,hB4.cell 1 rfl,hB4.cell 2 rfl,hB4.cell 3 rfl,hB4.cell 4 rfl⟩;go_upto_block 0 with fail
    go_cut [] (fun w5=>w5=w4)
    case first =>
     go_wp2_with fail
     go_loopg [15,16,17] n (fun m s15 s16 s17 wr=>∃ (kk c:Nat),m=n - kk∧s15 = .int .i64 c∧s16 = .int .i64 kk∧wr=w4∧Hid (KidsAt K l x.kind n E kk c))
     case atStart=>exact⟨0,i+1,rfl,by simp,rfl,rfl,HKD⟩
     case round =>
      obtain⟨kk,c,rfl,rfl,rfl,rfl,hK⟩:=hrel;have hle:=hK.out.le
      by_cases hl:(kk:Int)<x.k
      ·obtain⟨-,y1,y2,hK2⟩:=hK.out.next (by have:=HKN.out;omega)
       have HK2:=Lib.hid hK2;have hcl:c<l.length:=by have:=HLN.out;omega
       obtain⟨-,-,-,p3,-⟩:=NRow.facts2 HRW.out (ndAt_get hcl);have p3:=bSome hb5 p3;obtain⟨y,hy⟩:∃ y,(ndAt l c).size=y:=⟨_,rfl⟩;rw[hy] at p3 y1 y2 HK2;obtain⟨yn,rfl⟩:∃ q:Nat,y=(q:Int):=⟨y.toNat,by omega⟩
       rw[Int.toNat_natCast] at HK2;have hwE:IntKind.i64.wrap ((E:Int) - c)=(E:Int) - c:=by rw[IntKind.wrap_i64];omega
       have hwc:IntKind.i64.wrap ((c:Int)+yn)=(c:Int)+yn:=by rw[IntKind.wrap_i64];omega
       have hwk:IntKind.i64.wrap ((kk:Int)+1)=(kk:Int)+1:=by rw[IntKind.wrap_i64];omega
       have hcn:(c:Int)<ln:=by have:=HLN.out;omega
       have hkn9:kk<n:=by have:=HKN.out;omega
       clear hy hK2 hK;go_wp2_with fail
       go_roundg (n - (kk+1))
       case measure=>omega
       case rel=>exact⟨kk+1,c+yn,rfl,by simp,by simp,rfl,HK2⟩
      ·go_wp2_with fail
       go_meet
       case rel=>rfl
    case rest =>
     obtain rfl:=hcut;rename World=>w5
     go_upto_region 17 with fail
     go_cut [131] (fun s131 w6=>s131 = .bool false∧w6=w5)
     case first =>
      by_cases hk0:x.k=0
      ·have hs1:(sz:Int)=1:=by have:=HKN.out;have:=p7 (by omega);omega
       rw[hk0] at t2;rw[hs1] at t3;go_wp2_with fail
       go_meet
       case rel=>exact⟨by first | rfl | (simp;done),rfl⟩
      ·have k1:(x.k==0)=false:=by rw[beq_eq_false_iff_ne];exact hk0
       go_wp2_with fail
       go_meet
       case rel=>exact⟨rfl,rfl⟩
     case rest =>
      obtain⟨rfl,rfl⟩:=hcut;rename World=>w6
      by_cases hd30:30<d
      ·rw[if_pos hd30] at HCH
       have HRI:=Lib.hid (show r=some i from by
        have h:=HCH.out
        cases r with
        | none=>cases h
        | some p =>
         cases h
         rfl)
       have hd2:(30:Int)<d:=by omega
       clear HCH hd30;go_wp2_with fail
       refine (rPlacedT_any 102 (i:Int) (by decide) _).mono ?_
       rintro ee w7 ⟨fb,rfl,hfb,hge,hb7⟩;have hR7:=hR4.below hb7;have r0:=hR7.cell 0 rfl;have r1:=hR7.cell 1 rfl;have rf0:=hR7.free 0;have rf1:=hR7.free 1;have hsz5:=hb5.size;have hR9:=hR7.lt;go_wp2_with fail
       have hbz:=((bNext hb5 hb7).setCell (p:=⟨rb,0,none⟩) (by rw[hrb];exact Nat.le_refl _) (.int .i64 102)).setCell (p:=⟨rb,1,none⟩) (by rw[hrb];exact Nat.le_refl _) (.slice (some ⟨fb,0,none⟩) 1 1)
       refine bodyPost_ret (results_blk1 (p:=12) (g:=rb) (cs:=[.int .i64 102,.slice (some ⟨fb,0,none⟩) 1 1]) rfl _ _ _ rfl ((hR7.set 0 (.int .i64 102)).set 1 (.slice (some ⟨fb,0,none⟩) 1 1)) Tryz.underlying30 rfl (by kernel_rfl)) rfl ?_
       rw[HRI.out];have hR4lt:=hR4.lt;have hLF:LF w7 (rb+1) (some i) (.slice (some ⟨fb,0,none⟩) 1 1):=⟨fb,rfl,by omega,hfb⟩
       exact⟨_,rfl,(hLF.set2 (by omega)).mono (by omega),hbz⟩
      rw[if_neg hd30] at HCH;have hd2:¬ (30:Int)<d:=by omega
      have hwd:IntKind.i64.wrap ((d:Int)+1)=(d:Int)+1:=by rw[IntKind.wrap_i64];omega
      go_wp2_with fail
      go_loopg [15,18,19,20] f (fun m s15 s18 s19 s20 wr=>∃ (fk kk c:Nat),m=fk∧s15 = .int .i64 c∧s18 = .int .i64 kk∧Below w.heap.size w wr∧Blk wr (rb+1) [.int .i64 x.kind,.int .i64 x.n,.int .i64 x.k,.int .i64 sz,.string (bs x.text)]∧Blk wr rb [.int .i64 0,.slice none 0 0]∧fk≤f∧Hid (KidsAt K l x.kind n E kk c)∧Hid (lookK l fk kk c E (d+1) x=some (r.map fun p=>(102,p))))
      case atStart=>exact⟨f,0,i+1,rfl,by simp,rfl,hb5,hB4,hR4,Nat.le_refl _,HKD,HCH⟩
      case round =>
       clear hb5 hB4 hR4 t0 t1 t2 t3 t4 HCH HKD;obtain⟨fk,kk,c,hm,rfl,rfl,hb5,hB4,hR4,hfk,hKD,hK⟩:=hrel;obtain rfl:=hm.symm;have hle:=hKD.out.le;obtain⟨t0,t1,t2,t3,t4⟩:wr.cell? ⟨rb+1,0,none⟩=some (.int .i64 x.kind)∧wr.cell? ⟨rb+1,1,none⟩=some (.int .i64 x.n)∧wr.cell? ⟨rb+1,2,none⟩=some (.int .i64 x.k)∧wr.cell? ⟨rb+1,3,none⟩=some (.int .i64 sz)∧wr.cell? ⟨rb+1,4,none⟩=some (.string (bs x.text)):=⟨hB4.cell 0 rfl,hB4.cell 1 rfl,hB4.cell 2 rfl,hB4.cell 3 rfl,hB4.cell 4 rfl⟩
       by_cases hl:(kk:Int)<x.k
       ·obtain⟨fk',q,rfl,hch,hq1,hq2⟩:=lookK_step2 hK.out hl;obtain⟨hT1,y1,y2,hK2⟩:=hKD.out.next (by have:=HKN.out;omega)
        rw[← HKN.out] at hT1;have HK2:=Lib.hid hK2;have HQ1:=Lib.hid hq1;have HQ2:=Lib.hid hq2;have HCHI:=Lib.hid hch;have HTI:=Lib.hid hT1;have hcl:c<l.length:=by have:=HLN.out;omega
        obtain⟨-,-,-,p3,-⟩:=NRow.facts2 HRW.out (ndAt_get hcl);have HP:=Lib.hid p3;obtain⟨y,hy⟩:∃ y,(ndAt l c).size=y:=⟨_,rfl⟩;rw[hy] at HP y1 y2 HK2 HQ1;obtain⟨yn,rfl⟩:∃ q:Nat,y=(q:Int):=⟨y.toNat,by omega⟩
        rw[Int.toNat_natCast] at HK2 HQ1;have hwx:IntKind.i64.wrap (x.k - 1)=x.k - 1:=by rw[IntKind.wrap_i64];omega
        have hwc:IntKind.i64.wrap ((c:Int)+yn)=(c:Int)+yn:=by rw[IntKind.wrap_i64];omega
        have hwk:IntKind.i64.wrap ((kk:Int)+1)=(kk:Int)+1:=by rw[IntKind.wrap_i64];omega
        have hcn:(c:Int)<ln:=by have:=HLN.out;omega
        clear hy hch hK2 hK p3 hq1 hq2 hKD hT1;have HC:=Lib.hid (fun (w9:World)=>r5command_any x kk w9 HP3.out hl hkk.2)
        have hwE:IntKind.i64.wrap (E:Int)=(E:Int):=by rw[IntKind.wrap_i64];omega
        obtain⟨tk,htk⟩:∃ tk,takesB x.kind x.k kk=tk:=⟨_,rfl⟩;rw[htk] at HC HCHI HTI;clear htk
        by_cases hlast:(kk:Int)=x.k - 1
        ·have k9:((kk:Int)==x.k - 1)=true:=by rw[beq_iff_eq];exact hlast
         have HD:=Lib.hid (fun (w9:World) (hb9:Below w.heap.size w w9)=>IH.out fk' (by omega) w9 _ c E (d+1) tk true E q (HN.out.below hb9) (by have h:=HTI.out;rwa [decide_eq_true hlast] at h) (by have:=HLN.out;omega) (.inl ⟨rfl,rfl⟩) (Lib.hid (by have h:=HCHI.out;rwa [decide_eq_true hlast] at h)))
         clear HCHI HTI hlast;rw[show ((d+1:Nat):Int)=(d:Int)+1 by omega] at HD
         have HDD:=Lib.hid (show ∀ (w9:World),Below w.heap.size w w9→Calls Tryz.prog 59 #[.slice (some ⟨g,0,none⟩) ln cap,.int .i64 c,.int .i64 (E:Int),.int .i64 (IntKind.i64.wrap (E:Int)),.int .i64 ((d:Int)+1),.bool (!tk)] w9 (fun ee w'=>∃ fa,ee = .returned (.agg #[.int .i64 (lcode q),fa])∧LF w' w9.heap.size q fa∧Below w9.heap.size w9 w') from fun w9 hb9=>by rw[hwE];exact HD.out w9 hb9)
         clear HD hwE;go_upto_region 28 with fail
         go_cut [20] (fun s20 w9=>∃ (tq:Nat) (fa:Value),s20 = .pointer (some ⟨tq,0,none⟩)∧Blk w9 tq [.int .i64 (lcode q),fa]∧LF w9 wr.heap.size q fa∧Below wr.heap.size wr w9)
         case first =>
          have hal:=(Below.refl wr.heap.size wr).alloc (Nat.le_refl _) (.cells #[.int .i64 0,.slice none 0 0] 30);have u0:=bSome hal t0;have u1:=bSome hal t1;have u2:=bSome hal t2;have u3:=bSome hal t3;have u4:=bSome hal t4;have hN0:=Blk.new wr [Value.int .i64 0,.slice none 0 0] 30;have hnb:wr.heap.size≠rb+1:=by have:=hB4.lt;omega
          go_region_held3 (fun w'=>w'.cell? ⟨rb+1,0,none⟩=some (.int .i64 x.kind)∧w'.cell? ⟨rb+1,1,none⟩=some (.int .i64 x.n)∧w'.cell? ⟨rb+1,2,none⟩=some (.int .i64 x.k)∧w'.cell? ⟨rb+1,3,none⟩=some (.int .i64 sz)∧w'.cell? ⟨rb+1,4,none⟩=some (.string (bs x.text))) (first | exact⟨t0,t1,t2,t3,t4⟩ | exact⟨u0,u1,u2,u3,u4⟩ | exact⟨bSome hb8 t0,bSome hb8 t1,bSome hb8 t2,bSome hb8 t3,bSome hb8 t4⟩ | exact⟨bSome hb8 u0,bSome hb8 u1,bSome hb8 u2,bSome hb8 u3,bSome hb8 u4⟩ | exact⟨cell_set2 hnb (bSome hb8 u0) _ _,cell_set2 hnb (bSome hb8 u1) _ _,cell_set2 hnb (bSome hb8 u2) _ _,cell_set2 hnb (bSome hb8 u3) _ _,cell_set2 hnb (bSome hb8 u4) _ _⟩ | exact⟨bSome ((Below.refl _ _).alloc (Nat.le_refl _) _) (bSome hb8 t0),bSome ((Below.refl _ _).alloc (Nat.le_refl _) _) (bSome hb8 t1),bSome ((Below.refl _ _).alloc (Nat.le_refl _) _) (bSome hb8 t2),bSome ((Below.refl _ _).alloc (Nat.le_refl _) _) (bSome hb8 t3),bSome ((Below.refl _ _).alloc (Nat.le_refl _) _) (bSome hb8 t4)⟩ | exact⟨bSome ((Below.refl _ _).alloc (Nat.le_refl _) _) (bSome hb8 u0),bSome ((Below.refl _ _).alloc (Nat.le_refl _) _) (bSome hb8 u1),bSome ((Below.refl _ _).alloc (Nat.le_refl _) _) (bSome hb8 u2),bSome ((Below.refl _ _).alloc (Nat.le_refl _) _) (bSome hb8 u3),bSome ((Below.refl _ _).alloc (Nat.le_refl _) _) (bSome hb8 u4)⟩ | go_keep)
           (first
            | (go_at_call 96;(with_reducible refine (HC.out _).mono ?_);rintro ee w7 ⟨rfl,rfl⟩)
            | (go_at_call 59;(with_reducible refine (HDD.out _ hb5.drew).mono ?_);rintro ee w8 ⟨fa,rfl,hlf,hb8⟩;obtain⟨fo,fn,fc,rfl⟩:=hlf.form)
            | (go_at_call 59;(with_reducible refine (HDD.out _ (hb5.alloc hb5.size _).drew).mono ?_);rintro ee w8 ⟨fa,rfl,hlf,hb8⟩;obtain⟨fo,fn,fc,rfl⟩:=hlf.form;have hN8:=hN0.drew.below hb8;have m0:=hN8.cell 0 rfl;have m1:=hN8.cell 1 rfl;have mf0:=hN8.free 0;have mf1:=hN8.free 1))
          all_goals go_wp2_with fail
          all_goals go_meet
          all_goals first
           | exact⟨_,_,rfl,Blk.newAt _ _ rfl,hlf.below ((Below.refl _ _).alloc (Nat.le_refl _) _),(((Below.refl _ wr).drew).trans hb8).alloc hb8.size _⟩
           | exact⟨_,_,rfl,(hN8.set 0 (.int .i64 (lcode q))).set 1 (.slice fo fn fc),(hlf.set2 (by simp)).mono (by simp),(((hal.drew).trans (hb8.mono hal.size)).setCell (p:=⟨wr.heap.size,0,none⟩) (Nat.le_refl _) _).setCell (p:=⟨wr.heap.size,1,none⟩) (Nat.le_refl _) _⟩
         case rest =>
          rename World=>w9
          obtain⟨tq,fa,rfl,hN9,hlf,hb9⟩:=hcut;obtain⟨fo,fn,fc,rfl⟩:=hlf.form;have hB9:=hB4.below hb9;have hR9:=hR4.below hb9;have hb10:=bNext hb5 hb9;have p3:=bSome hb10 HP.out;have hrl:=hR4.lt
          cases q with
          | none =>
           have HK3:=Lib.hid (HQ1.out rfl);have q0:w9.cell? ⟨tq,0,none⟩=some (.int .i64 0):=hN9.cell 0 rfl;clear hB4 hR4 hb5 hb9 t0 t1 t2 t3 t4 HQ1 HQ2 hN9;go_wp2_with fail
           go_roundg fk'
           case measure=>omega
           case rel=>exact⟨fk',kk+1,c+yn,rfl,by simp,by simp,hb10,hB9,hR9,by omega,HK2,HK3⟩
          | some pp =>
           have HRP:=Lib.hid (HQ2.out pp rfl);have q0:w9.cell? ⟨tq,0,none⟩=some (.int .i64 102):=hN9.cell 0 rfl;have q1:=hN9.cell 1 rfl;have r0:=hR9.cell 0 rfl;have r1:=hR9.cell 1 rfl;have rf0:=hR9.free 0;have rf1:=hR9.free 1;clear hB4 hR4 hb5 hb9 t0 t1 t2 t3 t4 HQ1 HQ2 HK2;go_wp2_with fail
           have hbz:=(hb10.setCell (p:=⟨rb,0,none⟩) (by rw[hrb];exact Nat.le_refl _) (.int .i64 102)).setCell (p:=⟨rb,1,none⟩) (by rw[hrb];exact Nat.le_refl _) (.slice fo fn fc)
           refine bodyPost_ret (results_blk1 (p:=12) (g:=rb) (cs:=[.int .i64 102,.slice fo fn fc]) rfl _ _ _ rfl ((hR9.set 0 (.int .i64 102)).set 1 (.slice fo fn fc)) Tryz.underlying30 rfl (by kernel_rfl)) rfl ?_
           rw[HRP.out];exact⟨_,rfl,(hlf.set2 (by omega)).mono (by omega),by have h:=hbz;rw[hrb] at h;exact h⟩
        ·have k9:((kk:Int)==x.k - 1)=false:=by rw[beq_eq_false_iff_ne];exact hlast
         have HD:=Lib.hid (fun (w9:World) (hb9:Below w.heap.size w w9)=>IH.out fk' (by omega) w9 _ c E (d+1) tk false (-1) q (HN.out.below hb9) (by have h:=HTI.out;rwa [decide_eq_false hlast] at h) (by have:=HLN.out;omega) (.inr ⟨rfl,rfl⟩) (Lib.hid (by have h:=HCHI.out;rwa [decide_eq_false hlast] at h)))
         clear HCHI HTI hlast;rw[show ((d+1:Nat):Int)=(d:Int)+1 by omega] at HD
         have HDD:=Lib.hid (show ∀ (w9:World),Below w.heap.size w w9→Calls Tryz.prog 59 #[.slice (some ⟨g,0,none⟩) ln cap,.int .i64 c,.int .i64 (-1),.int .i64 (IntKind.i64.wrap (E:Int)),.int .i64 ((d:Int)+1),.bool (!tk)] w9 (fun ee w'=>∃ fa,ee = .returned (.agg #[.int .i64 (lcode q),fa])∧LF w' w9.heap.size q fa∧Below w9.heap.size w9 w') from fun w9 hb9=>by rw[hwE];exact HD.out w9 hb9)
         clear HD hwE;go_upto_region 28 with fail
         go_cut [20] (fun s20 w9=>∃ (tq:Nat) (fa:Value),s20 = .pointer (some ⟨tq,0,none⟩)∧Blk w9 tq [.int .i64 (lcode q),fa]∧LF w9 wr.heap.size q fa∧Below wr.heap.size wr w9)
         case first =>
          have hal:=(Below.refl wr.heap.size wr).alloc (Nat.le_refl _) (.cells #[.int .i64 0,.slice none 0 0] 30);have u0:=bSome hal t0;have u1:=bSome hal t1;have u2:=bSome hal t2;have u3:=bSome hal t3;have u4:=bSome hal t4;have hN0:=Blk.new wr [Value.int .i64 0,.slice none 0 0] 30;have hnb:wr.heap.size≠rb+1:=by have:=hB4.lt;omega
          go_region_held3 (fun w'=>w'.cell? ⟨rb+1,0,none⟩=some (.int .i64 x.kind)∧w'.cell? ⟨rb+1,1,none⟩=some (.int .i64 x.n)∧w'.cell? ⟨rb+1,2,none⟩=some (.int .i64 x.k)∧w'.cell? ⟨rb+1,3,none⟩=some (.int .i64 sz)∧w'.cell? ⟨rb+1,4,none⟩=some (.string (bs x.text))) (first | exact⟨t0,t1,t2,t3,t4⟩ | exact⟨u0,u1,u2,u3,u4⟩ | exact⟨bSome hb8 t0,bSome hb8 t1,bSome hb8 t2,bSome hb8 t3,bSome hb8 t4⟩ | exact⟨bSome hb8 u0,bSome hb8 u1,bSome hb8 u2,bSome hb8 u3,bSome hb8 u4⟩ | exact⟨cell_set2 hnb (bSome hb8 u0) _ _,cell_set2 hnb (bSome hb8 u1) _ _,cell_set2 hnb (bSome hb8 u2) _ _,cell_set2 hnb (bSome hb8 u3) _ _,cell_set2 hnb (bSome hb8 u4) _ _⟩ | exact⟨bSome ((Below.refl _ _).alloc (Nat.le_refl _) _) (bSome hb8 t0),bSome ((Below.refl _ _).alloc (Nat.le_refl _) _) (bSome hb8 t1),bSome ((Below.refl _ _).alloc (Nat.le_refl _) _) (bSome hb8 t2),bSome ((Below.refl _ _).alloc (Nat.le_refl _) _) (bSome hb8 t3),bSome ((Below.refl _ _).alloc (Nat.le_refl _) _) (bSome hb8 t4)⟩ | exact⟨bSome ((Below.refl _ _).alloc (Nat.le_refl _) _) (bSome hb8 u0),bSome ((Below.refl _ _).alloc (Nat.le_refl _) _) (bSome hb8 u1),bSome ((Below.refl _ _).alloc (Nat.le_refl _) _) (bSome hb8 u2),bSome ((Below.refl _ _).alloc (Nat.le_refl _) _) (bSome hb8 u3),bSome ((Below.refl _ _).alloc (Nat.le_refl _) _) (bSome hb8 u4)⟩ | go_keep)
           (first
            | (go_at_call 96;(with_reducible refine (HC.out _).mono ?_);rintro ee w7 ⟨rfl,rfl⟩)
            | (go_at_call 59;(with_reducible refine (HDD.out _ hb5.drew).mono ?_);rintro ee w8 ⟨fa,rfl,hlf,hb8⟩;obtain⟨fo,fn,fc,rfl⟩:=hlf.form)
            | (go_at_call 59;(with_reducible refine (HDD.out _ (hb5.alloc hb5.size _).drew).mono ?_);rintro ee w8 ⟨fa,rfl,hlf,hb8⟩;obtain⟨fo,fn,fc,rfl⟩:=hlf.form;have hN8:=hN0.drew.below hb8;have m0:=hN8.cell 0 rfl;have m1:=hN8.cell 1 rfl;have mf0:=hN8.free 0;have mf1:=hN8.free 1))
          all_goals go_wp2_with fail
          all_goals go_meet
          all_goals first
           | exact⟨_,_,rfl,Blk.newAt _ _ rfl,hlf.below ((Below.refl _ _).alloc (Nat.le_refl _) _),(((Below.refl _ wr).drew).trans hb8).alloc hb8.size _⟩
           | exact⟨_,_,rfl,(hN8.set 0 (.int .i64 (lcode q))).set 1 (.slice fo fn fc),(hlf.set2 (by simp)).mono (by simp),(((hal.drew).trans (hb8.mono hal.size)).setCell (p:=⟨wr.heap.size,0,none⟩) (Nat.le_refl _) _).setCell (p:=⟨wr.heap.size,1,none⟩) (Nat.le_refl _) _⟩
         case rest =>
          rename World=>w9
          obtain⟨tq,fa,rfl,hN9,hlf,hb9⟩:=hcut;obtain⟨fo,fn,fc,rfl⟩:=hlf.form;have hB9:=hB4.below hb9;have hR9:=hR4.below hb9;have hb10:=bNext hb5 hb9;have p3:=bSome hb10 HP.out;have hrl:=hR4.lt
          cases q with
          | none =>
           have HK3:=Lib.hid (HQ1.out rfl);have q0:w9.cell? ⟨tq,0,none⟩=some (.int .i64 0):=hN9.cell 0 rfl;clear hB4 hR4 hb5 hb9 t0 t1 t2 t3 t4 HQ1 HQ2 hN9;go_wp2_with fail
           go_roundg fk'
           case measure=>omega
           case rel=>exact⟨fk',kk+1,c+yn,rfl,by simp,by simp,hb10,hB9,hR9,by omega,HK2,HK3⟩
          | some pp =>
           have HRP:=Lib.hid (HQ2.out pp rfl);have q0:w9.cell? ⟨tq,0,none⟩=some (.int .i64 102):=hN9.cell 0 rfl;have q1:=hN9.cell 1 rfl;have r0:=hR9.cell 0 rfl;have r1:=hR9.cell 1 rfl;have rf0:=hR9.free 0;have rf1:=hR9.free 1;clear hB4 hR4 hb5 hb9 t0 t1 t2 t3 t4 HQ1 HQ2 HK2;go_wp2_with fail
           have hbz:=(hb10.setCell (p:=⟨rb,0,none⟩) (by rw[hrb];exact Nat.le_refl _) (.int .i64 102)).setCell (p:=⟨rb,1,none⟩) (by rw[hrb];exact Nat.le_refl _) (.slice fo fn fc)
           refine bodyPost_ret (results_blk1 (p:=12) (g:=rb) (cs:=[.int .i64 102,.slice fo fn fc]) rfl _ _ _ rfl ((hR9.set 0 (.int .i64 102)).set 1 (.slice fo fn fc)) Tryz.underlying30 rfl (by kernel_rfl)) rfl ?_
           rw[HRP.out];exact⟨_,rfl,(hlf.set2 (by omega)).mono (by omega),by have h:=hbz;rw[hrb] at h;exact h⟩
       ·have HRN:=Lib.hid (show r=none from by
         have h:=lookK_end hK.out hl
         cases r with
         | none=>rfl
         | some p=>cases h)
        clear hK hKD;go_wp2_with fail
        refine (rNone_any9 _).mono ?_;rintro ee w7 ⟨rfl,hb7⟩;have hR7:=hR4.below hb7;have r0:=hR7.cell 0 rfl;have r1:=hR7.cell 1 rfl;have rf0:=hR7.free 0;have rf1:=hR7.free 1;go_wp2_with fail
        have hbz:=((bNext hb5 hb7).setCell (p:=⟨rb,0,none⟩) (by rw[hrb];exact Nat.le_refl _) (.int .i64 0)).setCell (p:=⟨rb,1,none⟩) (by rw[hrb];exact Nat.le_refl _) (.slice none 0 0)
        refine bodyPost_ret (results_blk1 (p:=12) (g:=rb) (cs:=[.int .i64 0,.slice none 0 0]) rfl _ _ _ rfl ((hR7.set 0 (.int .i64 0)).set 1 (.slice none 0 0)) Tryz.underlying30 rfl (by kernel_rfl)) rfl ?_
        rw[HRN.out];exact⟨_,rfl,rfl,hbz⟩
theorem r5Check_all (K:Int→Bool)(l:Prog)(D:Nat)(hW:WFP K 2000 false D l)(F:NFix l)(b:Nat)(w:World)(v:Value)(hN:NSl w b v l)(hl2:l.length≤3000)(r:Option Nat)(hr:lookP l (3 * l.length) 0 l.length 1 false true=some (r.map fun p=>(102,p))) :
  Calls Tryz.prog 29 #[v] w fun e w'=>∃ fa,e = .returned (.agg #[.int .i64 (lcode r),fa])∧LF w' w.heap.size r fa∧Below w.heap.size w w':=by
 have hl:=hW.pos.1;have HN:=Lib.hid hN;obtain⟨g,cap,rfl,-⟩:=hN;have hR0:=Blk.new w [Value.int .i64 0,.slice none 0 0] 30;have hb0:=(Below.refl w.heap.size w).alloc (Nat.le_refl _) (.cells #[.int .i64 0,.slice none 0 0] 30);have HL:=Lib.hid (r5look_all K l F b (3 * l.length) _ _ 0 l.length 1 false true (l.length:Int) r (HN.out.below hb0) (tree_look hW).1 (Nat.le_refl _) (.inl ⟨rfl,rfl⟩) (Lib.hid hr));obtain⟨n,hn⟩:∃ n,l.length=n:=⟨_,rfl⟩;rw[hn] at HL hl hl2 ⊢;clear hn hr;have e1:((n:Int)==0)=false:=by rw[beq_eq_false_iff_ne];omega
 go_enter Tryz.func29,Tryz.ntmps29
 go_wp2_with fail
 refine HL.out.mono ?_;rintro e w1 ⟨fa,rfl,hlf,hb1⟩;have hR1:=hR0.below hb1;have r0:=hR1.cell 0 rfl;have r1:=hR1.cell 1 rfl;have rf0:=hR1.free 0;have rf1:=hR1.free 1;have hb2:=bNext hb0 hb1;obtain⟨ao,fn,fc,rfl⟩:=hlf.form;rw[World.size_alloc] at hlf;go_wp2_with fail
 have hbz:=(hb2.setCell (p:=⟨w.heap.size,0,none⟩) (Nat.le_refl _) (.int .i64 (lcode r))).setCell (p:=⟨w.heap.size,1,none⟩) (Nat.le_refl _) (.slice ao fn fc);exact bodyPost_ret (results_blk1 (p:=2) (g:=w.heap.size) (cs:=[.int .i64 (lcode r),.slice ao fn fc]) rfl _ _ _ rfl ((hR1.set 0 (.int .i64 (lcode r))).set 1 (.slice ao fn fc)) Tryz.underlying30 rfl (by kernel_rfl)) rfl ⟨_,rfl,(hlf.set2 (by omega)).mono (by omega),hbz⟩
theorem r5Check_many (l:Prog)(b:Nat)(w:World)(v:Value)(hN:NSl w b v l)(hl2:3000<l.length)(hl3:l.length≤1000000) :
  Calls Tryz.prog 29 #[v] w fun e w'=>e = .returned (.agg #[.int .i64 111,.slice none 0 0])∧Below w.heap.size w w':=by
 obtain⟨g,cap,rfl,-⟩:=hN;have hR0:=Blk.new w [Value.int .i64 0,.slice none 0 0] 30;have hb0:=(Below.refl w.heap.size w).alloc (Nat.le_refl _) (.cells #[.int .i64 0,.slice none 0 0] 30);obtain⟨n,hn⟩:∃ n,l.length=n:=⟨_,rfl⟩;rw[hn] at hl2 hl3 ⊢;clear hn;have e1:((n:Int)==0)=false:=by rw[beq_eq_false_iff_ne];omega
 have e2:(3000:Int)<(n:Int):=by omega
 go_enter Tryz.func29,Tryz.ntmps29
 go_wp2_with fail
 refine (rBare_any 111 _).mono ?_;rintro e w1 ⟨rfl,hb1⟩;have hR1:=hR0.below hb1;have r0:=hR1.cell 0 rfl;have r1:=hR1.cell 1 rfl;have rf0:=hR1.free 0;have rf1:=hR1.free 1;have hb2:=bNext hb0 hb1;unfold faultV;go_wp2_with fail
 have hbz:=(hb2.setCell (p:=⟨w.heap.size,0,none⟩) (Nat.le_refl _) (.int .i64 111)).setCell (p:=⟨w.heap.size,1,none⟩) (Nat.le_refl _) (.slice none 0 0);exact bodyPost_ret (results_blk1 (p:=2) (g:=w.heap.size) (cs:=[.int .i64 111,.slice none 0 0]) rfl _ _ _ rfl ((hR1.set 0 (.int .i64 111)).set 1 (.slice none 0 0)) Tryz.underlying30 rfl (by kernel_rfl)) rfl ⟨rfl,hbz⟩
end Go.Proofs.YtbplbehhlbkklaaGreatDoor
