/- Dialect A's reader: a word's parts. -/
import Derived.Test.YtbpjobmpacjgcaaGreatDoorGAlexH
import Derived.Deep.RegionWith
namespace Go.Proofs.YtbpjobmpacjgcaaGreatDoor
set_option maxHeartbeats 8000000
set_option maxRecDepth 100000
open Go Go.RowKit
section
variable (s:ByteArray) (f i:Nat) (P:List aD) (j:Bool)
theorem Mt:bO s.data.toList (f+1) i P j =
  if s.data.toList.length≤i then .ok (i,P)
  else if jK (bat s i)=true then .ok (i,P)
  else if (bat s i).toNat=92 then bO s.data.toList f (min (i+2) s.data.toList.length) (P++[⟨2,i,0,false,if i+1<s.data.toList.length then [bat s (i+1)] else [92]⟩]) false
  else if (bat s i).toNat=39 then match pS s.data.toList i P with
   | .error e=>.error e
   | .ok (i',P',j')=>bO s.data.toList f i' P' j'
  else if (bat s i).toNat=34 then match dR s.data.toList i (s.data.toList.length+1) (i+1) (P++[⟨2,i,0,false,[]⟩]) true with
   | .error e=>.error e
   | .ok (i',P',j')=>bO s.data.toList f i' P' j'
  else if (bat s i).toNat=36 then match e8 s.data.toList false i P j with
   | .error e=>.error e
   | .ok (i',P',j')=>bO s.data.toList f i' P' j'
  else bO s.data.toList f (i+1) (bQ P j 1 i [bat s i]) true:=by
 rw[bO,pS]
 cases cO 39 (List.drop (i+1) s.data.toList) <;> rfl
end
theorem JC (s:ByteArray)(i:Nat):aZ s.data.toList ((i:Int)+1) ((i:Int)+2)=if i+1<s.size then [bat s (i+1)] else []:=by
 by_cases h:i+1<s.size
 ·rw[if_pos h];have:=mX s (i+1) h
  exact this
 ·rw[if_neg h];unfold aZ;apply List.drop_eq_nil_of_le
  rw[List.length_take,size_eq,show ((i:Int)+1).toNat=i+1 from rfl]
  omega
theorem Fp (s:ByteArray)(i:Nat)(P:List aD)(i2:Nat)(P2:List aD)(j2:Bool)(h:pS s.data.toList i P = .ok (i2,P2,j2))(hS:dG P i)(hi:i<s.size):dG P2 i2∧i<i2∧i2≤s.size:=by
 unfold pS at h;split at h
 ·cases h
 ·rename_i n hn
  cases h
  have hx:=lD _ _ _ hn;rw[List.length_drop,size_eq] at hx;have hsl:=m8 s.data.toList (i+1) (i+1+n);exact⟨hS.part _ (by dsimp only;simp only[Int.natCast_add,Int.cast_ofNat_Int] at *;omega) (by omega),by omega,by omega⟩
def mW (w:World) (r q:Nat) (s:ByteArray) (sent:Nat→Addr) (X:Except (Nat×Nat) (Nat×List aD)) (e:Ending) (w':World):Prop :=
 match X with
 | .ok (i',P')=>∃ v' j',e = .returned (.tuple #[v',.nilIface])∧aN w' r q w.heap.size s i' v' P' j'∧aB (At r) w w'
 | .error (c,p)=>∃ b,e = .returned (.tuple #[.slice none 0 0,.iface 61 (.pointer (some ⟨b,0,none⟩))])∧bJ w' b sent c p∧aB (At r) w w'
theorem aB.at {w w':World}{r:Nat}(h:aB (RB r w.heap.size) w w'):aB (At r) w w':=h.mono fun k hk e=>e.elim id fun h=>absurd hk (by omega)
theorem mW.ok {w w':World}{r q:Nat}{s:ByteArray}{sent:Nat→Addr}{X:Except (Nat×Nat) (Nat×List aD)}{e:Ending}{i':Nat}{P':List aD}{j':Bool}{v':Value}(hX:Hid (.ok (i',P')=X))(he:e = .returned (.tuple #[v',.nilIface]))(hR:aN w' r q w.heap.size s i' v' P' j')(hK:aB (RB r w.heap.size) w w'):mW w r q s sent X e w':=by
 have:=hX.out
 subst this;exact⟨v',j',he,hR,hK.at⟩
theorem mW.bad {w w':World}{r q:Nat}{s:ByteArray}{sent:Nat→Addr}{X:Except (Nat×Nat) (Nat×List aD)}{e:Ending}{c p b:Nat}(hX:Hid (.error (c,p)=X))(he:e = .returned (.tuple #[.slice none 0 0,.iface 61 (.pointer (some ⟨b,0,none⟩))]))(hE:bJ w' b sent c p)(hK:aB (RB r w.heap.size) w w'):mW w r q s sent X e w':=by
 have:=hX.out
 subst this;exact⟨b,he,hE,hK.at⟩
theorem Cc (r q:Nat)(s:ByteArray)(i:Nat)(v:Value)(j:Bool)(w:World)(hs:s.size≤8192)(hi:i≤s.size)(hH:Blk w r [.pointer (some ⟨q,0,none⟩),.int .i64 i,v,.bool j])(hQ:Blk w q [.string s])(hne:r≠q)(sent:Nat→Addr)(hE:Env w sent)(hG:∀ c g,(c,g)∈cH→g≠r)
  (X:Except (Nat×Nat) (Nat×List aD)) (hX:Hid (bO s.data.toList (s.data.toList.length+1) i [] false=X)) :
  Calls Tryz.prog 137 #[.pointer (some ⟨r,0,none⟩)] w (mW w r q s sent X):=by
 have hs':s.size≤1000000:=by omega
 have hGB:Hid (∀ c g,(c,g)∈cH→¬ RB r w.heap.size g):=Ng fun c g hg e=>e.elim (hG c g hg) (fun h=>by have:=hE.lt hg;omega)
 have d2:=hH.cell 2 rfl;have d3:=hH.cell 3 rfl;have f2:=hH.free 2;have f3:=hH.free 3
 have hR0:aN ((w.setCell ⟨r,2,none⟩ (.slice none 0 0)).setCell ⟨r,3,none⟩ (.bool false)) r q w.heap.size s i (.slice none 0 0) [] false :=
  ⟨((hH.set 2 (.slice none 0 0)).set 3 (.bool false)).as rfl,(hQ.other hne _).other hne _,bF.nil _ _,hne,hH.lt,hQ.lt⟩
 have hK0:aB (RB r w.heap.size) w ((w.setCell ⟨r,2,none⟩ (.slice none 0 0)).setCell ⟨r,3,none⟩ (.bool false)):=((aB.refl _ _).setCell (fun _=>.inl rfl) _).setCell (fun _=>.inl rfl) _
 go_enter Tryz.func137,Tryz.ntmps137
 go_wp2_with fail
 go_loopg [] (s.size - i) (fun n wr=>∃ (k f:Nat) (P':List aD) (j':Bool) (v':Value),n=s.size - k∧k≤s.size∧s.size - k<f∧dG P' k∧aN wr r q w.heap.size s k v' P' j'∧aB (RB r w.heap.size) w wr∧Hid (bO s.data.toList f k P' j'=X))
 case atStart=>exact⟨i,_,[],false,_,rfl,hi,by rw[size_eq];omega,dG.nil _,hR0,hK0,hX⟩
 case round =>
  clear hX hR0 hK0 d2 d3 f2 f3 hQ hH;obtain⟨k,f,P',j',v',rfl,hk,hf,hSm,hR,hK,hX⟩:=hrel;obtain⟨g,rfl⟩:∃ g,f=g+1:=⟨f - 1,by omega⟩
  rw[Mt,size_eq] at hX;have hPl:P'.length≤100000:=by have:=hSm.1;omega
  have hPt:∀ p∈P',p.text.length≤1000000:=fun p hp=>by have:=hSm.2 p hp;omega
  have HM:=Ng fun w1 h=>Cv r q w.heap.size s k v' P' j' w1 hs' (by omega) h
  by_cases hlt:k<s.size
  ·have hX1:=Ng ((if_neg (by omega)).symm.trans hX.out)
   rw[show decide (k<s.size)=true from by rw[decide_eq_true_eq];exact hlt] at HM
   have HP:=Ng fun w1 h=>Em r q w.heap.size s k v' P' j' w1 hs' (by omega) h
   clear hX
   cases hen:jK (bat s k) with
   | true =>
    have HX:=Ng ((if_pos hen).symm.trans hX1.out);have HEn:=Ng hen;clear hX1 hen
    go_wp2_with (first
     | (go_at_call 133;refine (HM.out _ hR).mono ?_;rintro e w3 ⟨rfl,hb3⟩;have hR3:=hR.below hb3)
     | (go_at_call 134;refine (HP.out _ hR3).mono ?_;rintro e w4 ⟨rfl,hb4⟩;have hR4:=hR3.below hb4;have c2:=hR4.c2)
     | (go_at_call 171;refine (CF _ _).mono ?_;rintro e w' ⟨rfl,rfl⟩;rw[HEn.out]))
    go_ret2;exact mW.ok HX rfl hR4 ((hK.andBelow hb3).andBelow hb4)
   | false =>
    have hX2:=Ng ((if_neg (by rw[hen];decide)).symm.trans hX1.out)
    have HEn:=Ng hen;clear hX1 hen
    go_upto_block 2 with (first
     | (go_at_call 133;refine (HM.out _ hR).mono ?_;rintro e w3 ⟨rfl,hb3⟩;have hR3:=hR.below hb3)
     | (go_at_call 134;first | (refine (HP.out _ hR3).mono ?_;rintro e w4 ⟨rfl,hb4⟩;have hR4:=hR3.below hb4) | (refine (HP.out _ hR4).mono ?_;rintro e w5 ⟨rfl,hb5⟩;have hR5:=hR4.below hb5))
     | (go_at_call 171;refine (CF _ _).mono ?_;rintro e w' ⟨rfl,rfl⟩;rw[HEn.out]))
    have hK5:=((hK.andBelow hb3).andBelow hb4).andBelow hb5;have hBr5:w.heap.size≤w5.heap.size:=hK5.size;clear hR hK hR3 hR4 hb3 hb4 hb5 HM HP HEn;obtain⟨hR4,hK4,hBr4⟩:aN w5 r q w.heap.size s k v' P' j'∧aB (RB r w.heap.size) w w5∧w.heap.size≤w5.heap.size:=⟨hR5,hK5,hBr5⟩;clear hR5 hK5 hBr5
    by_cases h92:(bat s k).toNat=92
    ·have hX3:=Ng ((if_pos h92).symm.trans hX2.out);have d1:(((bat s k).toNat:Int)==92)=true:=by rw[beq_iff_eq];omega
     have g0:=cell_regrown hR4.c0;have g1:=cell_regrown hR4.c1;have g2:=cell_regrown hR4.cs;clear hX2 h92;go_upto_region 8 with fail
     refine wp_region_quiet_below (by kernel_rfl) (by kernel_rfl) ?_
     repeat (go_big_quiet_step ((go_at_call 101;exact Calls.regrown_of (gQ s _ _ _ hs'))))
     refine wpQuiet_nil ?_;intro w6 hw';have hb:Below w5.heap.size w5 w6:=b8 hw';clear hw';have hR6:=hR4.below hb;have hK6:=hK4.andBelow hb;clear hR4 hK4 hBr4 hb g0 g1 g2;rw[JC]
     by_cases hlt2:k+1<s.size
     ·rw[if_pos hlt2];rw[if_pos hlt2] at hX3;have hz:0<(bs [bat s (k+1)]).size:=by simp [aY]
      obtain⟨e1,e2⟩:=pL _ hz;clear hz;have HA:=Ng (jW r q w.heap.size s k v' P' j' ⟨2,k,0,false,[bat s (k+1)]⟩ false w6 hPl hK6.size hR6);unfold aD.cells at HA;have hS7:dG (P'++[⟨2,k,0,false,[bat s (k+1)]⟩]) (min (k+2) s.size):=hSm.part _ (by simp;omega) (by omega)
      have c1:=hR6.c1;go_upto_region 12 with (go_at_call 172;refine HA.out.mono ?_;rintro e w7 ⟨rfl,⟨v7,hR7⟩,hK7⟩)
      have hK8:=hK6.same hK7;clear hR6 hK6 hK7 HA c1;have c0:=hR7.drew.c0;have c1:=hR7.drew.c1;have cs:=hR7.drew.cs;have f1:=hR7.drew.fr 1;have hw2:IntKind.i64.wrap ((k:Int)+2)=(k:Int)+2:=by rw[IntKind.wrap_i64];omega
      go_region_with (go_at_call 170;refine (jD s _).mono ?_;rintro e w8 ⟨rfl,hb8⟩;have hR8:=hR7.drew.below hb8;have c18:=hR8.c1;have f18:=hR8.fr 1)
      all_goals
       go_wp2_with fail
       go_roundg (s.size - min (k+2) s.size)
       case measure=>omega
       case rel=>exact⟨min (k+2) s.size,g,_,false,v7,rfl,by omega,by omega,hS7,aN.moveTo (.of hR8) (by congr 1;omega),(hK8.drew.andBelow hb8).setCell (fun _=>.inl rfl) _,hX3⟩
     ·rw[if_neg hlt2];rw[if_neg hlt2] at hX3;have e1:(bs []).toList=[]:=by rw[Lib.toList_data,bK]
      have e2:(bs []).toList.isEmpty=true:=by rw[e1];rfl
      have HA:=Ng (jW r q w.heap.size s k v' P' j' ⟨2,k,0,false,[92]⟩ false w6 hPl hK6.size hR6);unfold aD.cells at HA;have hS7:dG (P'++[⟨2,k,0,false,[92]⟩]) (min (k+2) s.size):=hSm.part _ (by simp;omega) (by omega)
      have c1:=hR6.c1;go_upto_region 12 with (go_at_call 172;refine HA.out.mono ?_;rintro e w7 ⟨rfl,⟨v7,hR7⟩,hK7⟩)
      have hK8:=hK6.same hK7;clear hR6 hK6 hK7 HA c1;have c0:=hR7.drew.c0;have c1:=hR7.drew.c1;have cs:=hR7.drew.cs;have f1:=hR7.drew.fr 1;have hw2:IntKind.i64.wrap ((k:Int)+2)=(k:Int)+2:=by rw[IntKind.wrap_i64];omega
      go_region_with (go_at_call 170;refine (jD s _).mono ?_;rintro e w8 ⟨rfl,hb8⟩;have hR8:=hR7.drew.below hb8;have c18:=hR8.c1;have f18:=hR8.fr 1)
      all_goals
       go_wp2_with fail
       go_roundg (s.size - min (k+2) s.size)
       case measure=>omega
       case rel=>exact⟨min (k+2) s.size,g,_,false,v7,rfl,by omega,by omega,hS7,aN.moveTo (.of hR8) (by congr 1;omega),(hK8.drew.andBelow hb8).setCell (fun _=>.inl rfl) _,hX3⟩
    ·have hX3:=Ng ((if_neg h92).symm.trans hX2.out);have d1:(((bat s k).toNat:Int)==92)=false:=by rw[beq_eq_false_iff_ne];omega
     clear hX2 h92;have he3:=hK4.cell (hE 103 9 (by decide)) (hGB.out 103 9 (by decide))
     have he1:=hK4.cell (hE 106 10 (by decide)) (hGB.out 106 10 (by decide))
     have he2:=hK4.cell (hE 104 11 (by decide)) (hGB.out 104 11 (by decide))
     by_cases h39:(bat s k).toNat=39
     ·have hX4:=Ng ((if_pos h39).symm.trans hX3.out);have d2:(((bat s k).toNat:Int)==39)=true:=by rw[beq_iff_eq];omega
      clear hX3 h39
      cases hd:pS s.data.toList k P' with
      | error e =>
       obtain⟨ec,ep⟩:=e;rw[hd] at hX4;have HX:=Ng hX4.out;dsimp only at HX;have HD:=Ng (Bh r q w.heap.size s k v' P' j' w5 hs' hlt hPl hBr4 hR4 sent he3 _ (Ng (by first | exact hd | (rw[size_eq];exact hd))))
       clear hX4 hd;go_wp2_with (go_at_call 173;refine HD.out.mono ?_;rintro e w6 hst;obtain⟨b,rfl,hE6,hK6⟩:=hst)
       go_ret2;exact mW.bad HX rfl hE6 (hK4.same hK6)
      | ok st =>
       obtain⟨i2,P2,j2⟩:=st;rw[hd] at hX4;have HX:=Ng hX4.out;dsimp only at HX;obtain⟨hS6,hi6,hi7⟩:dG P2 i2∧k<i2∧i2≤s.size:=Fp s k P' i2 P2 j2 hd hSm hlt;have HD:=Ng (Bh r q w.heap.size s k v' P' j' w5 hs' hlt hPl hBr4 hR4 sent he3 _ (Ng (by first | exact hd | (rw[size_eq];exact hd))))
       clear hX4 hd;go_wp2_with (go_at_call 173;refine HD.out.mono ?_;rintro e w6 hst;obtain⟨rfl,⟨v6,hR6⟩,hK6⟩:=hst)
       go_roundg (s.size - i2)
       case measure=>omega
       case rel=>exact⟨i2,g,P2,j2,v6,rfl,by omega,by omega,hS6,hR6,hK4.same hK6,HX⟩
     ·have hX4:=Ng ((if_neg h39).symm.trans hX3.out);have d2:(((bat s k).toNat:Int)==39)=false:=by rw[beq_eq_false_iff_ne];omega
      clear hX3 h39
      by_cases h34:(bat s k).toNat=34
      ·have hX5:=Ng ((if_pos h34).symm.trans hX4.out);have d3:(((bat s k).toNat:Int)==34)=true:=by rw[beq_iff_eq];omega
       clear hX4 h34;have hE5:Env w5 sent:=fun c g hg=>hK4.cell (hE c g hg) (hGB.out c g hg)
       cases hd:dR s.data.toList k (s.size+1) (k+1) (P'++[⟨2,k,0,false,[]⟩]) true with
       | error e =>
        obtain⟨ec,ep⟩:=e;rw[hd] at hX5;have HX:=Ng hX5.out;dsimp only at HX;have HD:=Ng (Bk r q w.heap.size s k v' P' j' w5 hs hlt hSm hBr4 hR4 sent hE5 hGB.out _ (Ng (by first | exact hd | (rw[size_eq];exact hd))))
        clear hX5 hd;go_wp2_with (go_at_call 174;refine HD.out.mono ?_;rintro e w6 hst;obtain⟨b,rfl,hE6,hK6⟩:=hst)
        go_ret2;exact mW.bad HX rfl hE6 (hK4.same hK6)
       | ok st =>
        obtain⟨i2,P2,j2⟩:=st;rw[hd] at hX5;have HX:=Ng hX5.out;dsimp only at HX;obtain⟨hS6,hi6,hi7⟩:dG P2 i2∧k<i2∧i2≤s.size:=(by have h:=AE _ _ _ _ _ _ _ _ _ (hSm.part ⟨2,k,0,false,[]⟩ (by simp) (Nat.lt_succ_self k)) (by rw[size_eq];exact hlt) hd;rw[size_eq] at h;exact⟨h.1,by omega,h.2.2⟩)
        have HD:=Ng (Bk r q w.heap.size s k v' P' j' w5 hs hlt hSm hBr4 hR4 sent hE5 hGB.out _ (Ng (by first | exact hd | (rw[size_eq];exact hd))))
        clear hX5 hd;go_wp2_with (go_at_call 174;refine HD.out.mono ?_;rintro e w6 hst;obtain⟨rfl,⟨v6,hR6⟩,hK6⟩:=hst)
        go_roundg (s.size - i2)
        case measure=>omega
        case rel=>exact⟨i2,g,P2,j2,v6,rfl,by omega,by omega,hS6,hR6,hK4.same hK6,HX⟩
      ·have hX5:=Ng ((if_neg h34).symm.trans hX4.out);have d3:(((bat s k).toNat:Int)==34)=false:=by rw[beq_eq_false_iff_ne];omega
       clear hX4 h34
       by_cases h36:(bat s k).toNat=36
       ·have hX6:=Ng ((if_pos h36).symm.trans hX5.out);have d4:(((bat s k).toNat:Int)==36)=true:=by rw[beq_iff_eq];omega
        clear hX5 h36
        cases hd:e8 s.data.toList false k P' j' with
        | error e =>
         obtain⟨ec,ep⟩:=e;rw[hd] at hX6;have HX:=Ng hX6.out;dsimp only at HX;have HD:=Ng (tX r q w.heap.size s k v' P' j' false w5 hs hlt hPt hPl hBr4 hR4 sent he1 he2 _ (Ng (by first | exact hd | (rw[size_eq];exact hd))))
         clear hX6 hd;go_wp2_with (go_at_call 175;refine HD.out.mono ?_;rintro e w6 hst;obtain⟨b,rfl,hE6,hK6⟩:=hst)
         go_ret2;exact mW.bad HX rfl hE6 (hK4.same hK6)
        | ok st =>
         obtain⟨i2,P2,j2⟩:=st;rw[hd] at hX6;have HX:=Ng hX6.out;dsimp only at HX;obtain⟨hS6,hi6,hi7⟩:dG P2 i2∧k<i2∧i2≤s.size:=(by have h:=tP _ _ _ _ _ _ _ _ (by rw[size_eq];exact hlt) hSm hd;rw[size_eq] at h;exact h)
         have HD:=Ng (tX r q w.heap.size s k v' P' j' false w5 hs hlt hPt hPl hBr4 hR4 sent he1 he2 _ (Ng (by first | exact hd | (rw[size_eq];exact hd))))
         clear hX6 hd;go_wp2_with (go_at_call 175;refine HD.out.mono ?_;rintro e w6 hst;obtain⟨rfl,⟨v6,hR6⟩,hK6⟩:=hst)
         go_roundg (s.size - i2)
         case measure=>omega
         case rel=>exact⟨i2,g,P2,j2,v6,rfl,by omega,by omega,hS6,hR6,hK4.same hK6,HX⟩
       ·have hX6:=Ng ((if_neg h36).symm.trans hX5.out);have d4:(((bat s k).toNat:Int)==36)=false:=by rw[beq_eq_false_iff_ne];omega
        have c1:=hR4.c1;have f1:=hR4.fr 1;have HX:=Ng (show bO s.data.toList g (k+1) (bQ P' j' 1 k (aZ s.data.toList (k:Int) ((k:Int)+1))) true=X by rw[mX s k hlt];exact hX6.out)
        have hSm':dG (bQ P' j' 1 k (aZ s.data.toList (k:Int) ((k:Int)+1))) (k+1):=hSm.bytes _ _ _ _ (by rw[mX s k hlt];simp) (by omega)
        clear hX5 hX6 h36 hSm he1 he2 he3;have hw1:IntKind.i64.wrap ((k:Int)+1)=(k:Int)+1:=by rw[IntKind.wrap_i64];omega
        have HB:=Ng fun w5 h1 h2=>nN r q (w.heap.size) s k v' P' j' 1 (aZ s.data.toList (k:Int) ((k:Int)+1)) w5 hPt (by rw[mX s k hlt];simp) hPl (by omega) h1 h2 _ (Ng rfl)
        have c0:=hR4.c0;have cs:=hR4.cs;go_wp2_with fail
        go_region_held3 (fun w'=>w'.cell? ⟨r,0,none⟩=some (.pointer (some ⟨q,0,none⟩))∧w'.cell? ⟨r,1,none⟩=some (.int .i64 (k:Int))∧w'.cell? ⟨q,0,none⟩=some (.string s)) (first | exact⟨k0,k1,ks⟩ | exact⟨hR5.c0,hR5.c1,hR5.cs⟩ | go_keep)
         (first
          | (go_at_call 101;refine (gQ s _ _ _ hs').mono ?_;rintro e w5 ⟨rfl,hb5⟩;have hR5:=hR4.drew.below hb5;have hBw5:w.heap.size≤w5.heap.size:=Nat.le_trans hBr4 hb5.size)
          | (go_at_call 176;refine (HB.out _ hBw5 hR5).mono ?_;rintro e w6 ⟨rfl,⟨v6,hR6⟩,hK6⟩;have k0:=hR6.c0;have k1:=hR6.c1;have ks:=hR6.cs))
        have f1':=hR6.fr 1;have hK7:=(hK4.drew.andBelow hb5).same hK6;clear hK6 hK4 hR4 hR5 hb5 c0 c1 cs f1 HB;go_wp2_with fail
        go_roundg (s.size - (k+1))
        case measure=>omega
        case rel=>exact⟨k+1,g,_,true,v6,rfl,by omega,by omega,hSm',aN.moveTo (.of hR6) (by go_num),hK7.setCell (fun _=>.inl rfl) _,HX⟩
  ·have hX1:=Ng ((if_pos (by omega)).symm.trans hX.out)
   rw[show decide (k<s.size)=false from by rw[decide_eq_false_iff_not];exact hlt] at HM
   clear hX;go_wp2_with (go_at_call 133;refine (HM.out _ hR).mono ?_;rintro e w3 ⟨rfl,hb3⟩;have hR3:=hR.below hb3;have c2:=hR3.c2)
   go_ret2;exact mW.ok hX1 rfl hR3 (hK.andBelow hb3)
structure TRd (w:World) (r q:Nat) (s:ByteArray) (i:Nat) (v:Value) (j:Bool):Prop where
 here:Blk w r [.pointer (some ⟨q,0,none⟩),.int .i64 i,v,.bool j]
 src:Blk w q [.string s]
 ne:r≠q
section
variable {w w':World} {r q:Nat} {s:ByteArray} {i:Nat} {v:Value} {j:Bool}
theorem TRd.c0 (h:TRd w r q s i v j):w.cell? ⟨r,0,none⟩=some (.pointer (some ⟨q,0,none⟩)):=h.here.cell 0 rfl
theorem TRd.c1 (h:TRd w r q s i v j):w.cell? ⟨r,1,none⟩=some (.int .i64 i):=h.here.cell 1 rfl
theorem TRd.cs (h:TRd w r q s i v j):w.cell? ⟨q,0,none⟩=some (.string s):=h.src.cell 0 rfl
theorem TRd.f1 (h:TRd w r q s i v j):w.frozen? ⟨r,1,none⟩=false:=h.here.free 1
theorem TRd.below (h:TRd w r q s i v j)(hb:Below w.heap.size w w'):TRd w' r q s i v j:=⟨h.here.below hb,h.src.below hb,h.ne⟩
theorem TRd.move (h:TRd w r q s i v j)(k:Nat):TRd (w.setCell ⟨r,1,none⟩ (.int .i64 k)) r q s k v j:=⟨by have:=h.here.set 1 (.int .i64 k);exact this,h.src.other h.ne _,h.ne⟩
theorem TRd.other (h:TRd w r q s i v j){p:Addr}(h1:p.block≠r)(h2:p.block≠q)(u:Value):TRd (w.setCell p u) r q s i v j:=⟨h.here.other h1 u,h.src.other h2 u,h.ne⟩
theorem TRd.alloc (h:TRd w r q s i v j)(o:Obj):TRd (w.alloc o) r q s i v j:=⟨h.here.alloc o,h.src.alloc o,h.ne⟩
theorem TRd.drew (h:TRd w r q s i v j):TRd w.drew r q s i v j:=⟨h.here,h.src,h.ne⟩
def jH (w:World) (r q:Nat) (s:ByteArray) (v:Value) (j:Bool):Prop:=∃ i,TRd w r q s i v j
theorem jH.of (h:TRd w r q s i v j):jH w r q s v j:=⟨i,h⟩
theorem jH.other (h:jH w r q s v j){p:Addr}(h1:p.block≠r)(h2:p.block≠q)(u:Value):jH (w.setCell p u) r q s v j:=h.elim fun _ k=>⟨_,k.other h1 h2 u⟩
theorem TRd.moveTo {k:Nat}{u:Value}(h:jH w r q s v j)(hu:u = .int .i64 (k:Nat)):TRd (w.setCell ⟨r,1,none⟩ u) r q s k v j:=by
 rw[hu];exact h.elim fun _ h=>h.move k
end
theorem bF.mono {w:World}{B B':Nat}{v:Value}{P:List aD}(h:bF w B v P)(hB:B'≤B):bF w B' v P:=by
 refine ⟨h.1,?_⟩
 rcases h.2 with ⟨hv,h0⟩ | ⟨g,cap,cur,hv,hg,r⟩
 ·exact .inl ⟨hv,h0⟩
 ·exact .inr ⟨g,cap,cur,hv,Nat.le_trans hB hg,r⟩
theorem rO (r q:Nat)(s:ByteArray)(i:Nat)(v:Value)(j:Bool)(w:World)(_hs:s.size≤1000000)(_hi:i≤1000000)(hR:TRd w r q s i v j)(b:Bool)(hb:Hid (decide (i<s.size)=b)) :
  Calls Tryz.prog 133 #[.pointer (some ⟨r,0,none⟩)] w fun e w'=>e = .returned (.bool b)∧Below w.heap.size w w':=by
 have g0:=cell_regrown hR.c0;have g1:=cell_regrown hR.c1;have g2:=cell_regrown hR.cs;rw[← hb.out];clear hb;go_enter Tryz.func133,Tryz.ntmps133
 go_wp2_with fail
 refine wp_region_quiet_below (by kernel_rfl) (by kernel_rfl) ?_
 repeat (go_big_quiet_step ((go_at_call 170;exact Calls.regrown_of (jD s _))))
 refine wpQuiet_nil ?_;intro w2 hw';have hb:Below w.heap.size w w2:=b8 hw';clear hw';go_wp2_with fail
 go_ret;exact⟨by first | rfl | simp,hb⟩
theorem Ac (r q:Nat)(s:ByteArray)(i:Nat)(v:Value)(j:Bool)(w:World)(hs:s.size≤1000000)(hi:i<s.size)(hR:TRd w r q s i v j) :
  Calls Tryz.prog 134 #[.pointer (some ⟨r,0,none⟩),.int .i64 0] w fun e w'=>e = .returned (.int .u8 (bat s i).toNat)∧Below w.heap.size w w':=by
 have g0:=cell_regrown hR.c0;have g1:=cell_regrown hR.c1;have g2:=cell_regrown hR.cs;have hB:=Ng fun w1=>kF s i w1 hs hi
 generalize (bat s i).toNat=bv at *;go_enter Tryz.func134,Tryz.ntmps134
 go_wp2_with fail
 refine wp_region_quiet_below (by kernel_rfl) (by kernel_rfl) ?_
 repeat (go_big_quiet_step ((go_at_call 94;exact Calls.regrown_of (hB.out _))))
 refine wpQuiet_nil ?_;intro w2 hw';have hb:Below w.heap.size w w2:=b8 hw';clear hw';go_wp2_with fail
 go_ret;exact⟨rfl,hb⟩
theorem LI (s:ByteArray)(i:Nat):gA s.data.toList i =
  if s.data.toList.length≤i then .ok (⟨0,i,[]⟩,i)
  else if (bB (s.data.toList.drop i) bH 0 [] 0).1≠[] then .ok (⟨(bB (s.data.toList.drop i) bH 0 [] 0).2,i,[]⟩,i+(bB (s.data.toList.drop i) bH 0 [] 0).1.length)
  else if (bat s i).toNat=38 then .error (107,i)
  else match bO s.data.toList (s.data.toList.length+1) i [] false with
   | .error e=>.error e
   | .ok (k,P)=>.ok (⟨13,i,P⟩,k):=by
 unfold gA;rfl
theorem FR (l:List UInt8)(j:Nat)(b:List UInt8)(kd:Nat)(o:List UInt8)(ho:bH[j]?=some o) :
  bB l (bH.drop j) j b kd=if b.length<o.length∧Lib.hasPrefix l o=true then bB l (bH.drop (j+1)) (j+1) o j else bB l (bH.drop (j+1)) (j+1) b kd:=by
 obtain⟨h,rfl⟩:=List.getElem?_eq_some_iff.1 ho;rw[List.drop_eq_getElem_cons h,bB]
theorem GJ (l:List UInt8)(b:List UInt8)(kd:Nat):bB l (bH.drop 13) 13 b kd=(b,kd):=rfl
def m9 (w:World) (r q:Nat) (s:ByteArray) (sent:Nat→Addr) (X:Except (Nat×Nat) (aG×Nat)) (e:Ending) (w':World):Prop :=
 match X with
 | .ok (t,n)=>∃ v' j' v2,e = .returned (.tuple #[.agg #[.int .i64 t.kind,.int .i64 t.place,v2],.nilIface])∧bF w' w.heap.size v2 t.parts∧TRd w' r q s n v' j'∧aB (At r) w w'
 | .error (c,p)=>∃ b,e = .returned (.tuple #[.agg #[.int .i64 0,.int .i64 0,.slice none 0 0],.iface 61 (.pointer (some ⟨b,0,none⟩))])∧bJ w' b sent c p∧aB (At r) w w'
theorem m9.ok {w w':World}{r q:Nat}{s:ByteArray}{sent:Nat→Addr}{X:Except (Nat×Nat) (aG×Nat)}{e:Ending}{kd pl n:Nat}{P:List aD}{j':Bool}{v' v2:Value}(hX:Hid (.ok (⟨kd,pl,P⟩,n)=X))(he:e = .returned (.tuple #[.agg #[.int .i64 kd,.int .i64 pl,v2],.nilIface]))(hP:bF w' w.heap.size v2 P)(hR:TRd w' r q s n v' j')(hK:aB (At r) w w'):m9 w r q s sent X e w':=by
 have:=hX.out
 subst this;exact⟨v',j',v2,he,hP,hR,hK⟩
theorem m9.bad {w w':World}{r q:Nat}{s:ByteArray}{sent:Nat→Addr}{X:Except (Nat×Nat) (aG×Nat)}{e:Ending}{c p b:Nat}(hX:Hid (.error (c,p)=X))(he:e = .returned (.tuple #[.agg #[.int .i64 0,.int .i64 0,.slice none 0 0],.iface 61 (.pointer (some ⟨b,0,none⟩))]))(hE:bJ w' b sent c p)(hK:aB (At r) w w'):m9 w r q s sent X e w':=by
 have:=hX.out
 subst this;exact⟨b,he,hE,hK⟩
theorem BX (r q:Nat)(s:ByteArray)(i t:Nat)(v:Value)(j:Bool)(w:World)(hs:s.size≤8192)(hi:i≤s.size)(hR:TRd w r q s i v j)(sent:Nat→Addr)(hE:Env w sent)(hG:∀ c g,(c,g)∈cH→g≠r)
  (ht:Hid (i+aU false (s.data.toList.drop i)=t)) (X:Except (Nat×Nat) (aG×Nat)) (hX:Hid (gA s.data.toList t=X)) :
  Calls Tryz.prog 85 #[.pointer (some ⟨r,0,none⟩)] w (m9 w r q s sent X):=by
 have hs':s.size≤1000000:=by omega
 have hr:=hR.here.lt;have hq:=hR.src.lt;go_enter Tryz.func85,Tryz.ntmps85
 go_upto_block 0 with fail
 refine eJ (fun w1=>TRd w1 r q s i v j∧Blk w1 w.heap.size [.int .i64 0,.int .i64 0,.slice none 0 0]∧aB (At r) w w1) ⟨hR.alloc _,Blk.new w _ _,(aB.refl _ _).alloc _⟩ ?_
 intro w1 ⟨hR1,hB1,hK1⟩;go_cut [] (fun w2=>t≤s.size∧TRd w2 r q s t v j∧Blk w2 w.heap.size [.int .i64 0,.int .i64 0,.slice none 0 0]∧aB (At r) w w2)
 case first =>
  go_wp2_with fail
  go_loopg [] (s.size - i) (fun n wr=>∃ k:Nat,n=s.size - k∧k≤s.size∧TRd wr r q s k v j∧Blk wr w.heap.size [.int .i64 0,.int .i64 0,.slice none 0 0]∧aB (At r) w wr∧Hid (k+aU false (s.data.toList.drop k)=t))
  case atStart=>exact⟨i,rfl,hi,hR1,hB1,hK1,ht⟩
  case round =>
   clear hR1 hB1 hK1 hR hi ht;obtain⟨k,rfl,hk,hR,hB,hK,ht⟩:=hrel
   by_cases hlt:k<s.size
   ·have HM:=Ng fun w5 h=>rO r q s k v j w5 hs' (by omega) h true (Ng (by rw[decide_eq_true_eq];exact hlt))
    have HP:=Ng fun w5 h=>Ac r q s k v j w5 hs' hlt h
    go_upto_block 2 with (first
     | (go_at_call 133;refine (HM.out _ hR).mono ?_;rintro e w3 ⟨rfl,hb3⟩;have hR3:=hR.below hb3)
     | (go_at_call 134;refine (HP.out _ hR3).mono ?_;rintro e w4 ⟨rfl,hb4⟩))
    have hR4:=hR3.below hb4;have hB4:=(hB.below hb3).below hb4;have hK4:=(hK.andBelow hb3).andBelow hb4;clear hR hB hK hR3 hb3 hb4 HM HP;have c1:=hR4.c1;have f1:=hR4.f1;have l1:=hB4.lt;have n1:¬ r=w.heap.size:=by omega
    by_cases hbl:(bat s k).toNat=32∨(bat s k).toNat=9
    ·have HN:=Ng ((Bv s k hlt hbl).symm.trans ht.out);have hB5:=hB4.other (p:=⟨r,1,none⟩) (by simp;omega) (.int .i64 ((k+1:Nat):Int))
     clear ht
     rcases hbl with hbl | hbl
     ·have d1:(((bat s k).toNat:Int)==32)=true:=by rw[beq_iff_eq];omega
      clear hbl;go_wp2_with fail
      go_roundg (s.size - (k+1))
      case measure=>omega
      case rel=>exact⟨k+1,rfl,by omega,TRd.moveTo (.of hR4) (by go_num),hB5,hK4.setCell (p:=⟨r,1,none⟩) (fun _=>rfl) _,HN⟩
     ·have d1:(((bat s k).toNat:Int)==32)=false:=by rw[beq_eq_false_iff_ne];omega
      have d2:(((bat s k).toNat:Int)==9)=true:=by rw[beq_iff_eq];omega
      clear hbl;go_wp2_with fail
      go_roundg (s.size - (k+1))
      case measure=>omega
      case rel=>exact⟨k+1,rfl,by omega,TRd.moveTo (.of hR4) (by go_num),hB5,hK4.setCell (p:=⟨r,1,none⟩) (fun _=>rfl) _,HN⟩
    ·have d1:(((bat s k).toNat:Int)==32)=false:=by rw[beq_eq_false_iff_ne];omega
     have d2:(((bat s k).toNat:Int)==9)=false:=by rw[beq_eq_false_iff_ne];omega
     by_cases hsh:(bat s k).toNat=35
     ·have HN:=Ng ((BC s k hlt hsh).symm.trans ht.out);have d3:(((bat s k).toNat:Int)==35)=true:=by rw[beq_iff_eq];omega
      have hk35:=Ng hsh;clear hbl hsh ht;go_wp2_with fail
      obtain⟨wo,rfl⟩:∃ wo:World,wo=w4:=⟨_,rfl⟩;go_loopg [] (s.size - k) (fun n wr=>∃ m:Nat,n=s.size - m∧k≤m∧m≤s.size∧TRd wr r q s m v j∧Blk wr w.heap.size [.int .i64 0,.int .i64 0,.slice none 0 0]∧aB (At r) w wr∧Hid ((m=k∧k+1+aU true (s.data.toList.drop (k+1))=t)∨(k<m∧m+aU true (s.data.toList.drop m)=t)))
      case atStart=>exact⟨k,rfl,Nat.le_refl _,hk,hR4,hB4,hK4,Ng (.inl ⟨rfl,HN.out⟩)⟩
      case round =>
       clear HN hR4 hB4 hK4 c1 f1;obtain⟨m,rfl,hkm,hm,hR,hB,hK,ht⟩:=hrel
       by_cases hlm:m<s.size
       ·have HM:=Ng fun w5 h=>rO r q s m v j w5 hs' (by omega) h true (Ng (by rw[decide_eq_true_eq];exact hlm))
        have HP:=Ng fun w5 h=>Ac r q s m v j w5 hs' hlm h
        by_cases h10:(bat s m).toNat=10
        ·have HT:Hid (k<m∧m+aU false (s.data.toList.drop m)=t):=Ng (by
          rcases ht.out with ⟨rfl,_⟩ | ⟨h1,h⟩
          ·exact absurd (hk35.out.symm.trans h10) (by decide)
          ·rw[CR s m hlm h10] at h;exact⟨h1,h⟩)
         have e1:(((bat s m).toNat:Int) != 10)=false:=by rw[bne_eq_false_iff_eq];omega
         clear h10 ht
         go_wp2_with (first
          | (go_at_call 133;refine (HM.out _ hR).mono ?_;rintro e w3 ⟨rfl,hb3⟩;have hR3:=hR.below hb3)
          | (go_at_call 134;refine (HP.out _ hR3).mono ?_;rintro e w4 ⟨rfl,hb4⟩))
         go_roundg (s.size - m)
         case measure=>have:=HT.out.1;omega
         case rel=>exact⟨m,rfl,hm,hR3.below hb4,(hB.below hb3).below hb4,(hK.andBelow hb3).andBelow hb4,Ng HT.out.2⟩
        ·have HT:Hid (m+1+aU true (s.data.toList.drop (m+1))=t):=Ng (by
          rcases ht.out with ⟨rfl,h⟩ | ⟨_,h⟩
          ·exact h
          ·rw[DS s m hlm h10] at h;exact h)
         have e1:(((bat s m).toNat:Int) != 10)=true:=by rw[bne_iff_ne];omega
         clear h10 ht
         go_wp2_with (first
          | (go_at_call 133;refine (HM.out _ hR).mono ?_;rintro e w3 ⟨rfl,hb3⟩;have hR3:=hR.below hb3)
          | (go_at_call 134;refine (HP.out _ hR3).mono ?_;rintro e w4 ⟨rfl,hb4⟩;have hR5:=hR3.below hb4;have c1:=hR5.c1;have f1:=hR5.f1))
         go_roundg (s.size - (m+1))
         case measure=>omega
         case rel=>exact⟨m+1,rfl,by omega,by omega,TRd.moveTo (.of hR5) (by go_num),((hB.below hb3).below hb4).other (p:=⟨r,1,none⟩) (by simp;omega) _,((hK.andBelow hb3).andBelow hb4).setCell (p:=⟨r,1,none⟩) (fun _=>rfl) _,Ng (.inr ⟨by omega,HT.out⟩)⟩
       ·have HT:Hid (k<m∧m+aU false (s.data.toList.drop m)=t):=Ng (by
         refine ⟨by omega,?_⟩
         rcases ht.out with ⟨rfl,h⟩ | ⟨_,h⟩
         ·omega
         ·rw[qL false s m (by omega)];rw[qL true s m (by omega)] at h;exact h)
        have HM:=Ng fun w5 h=>rO r q s m v j w5 hs' (by omega) h false (Ng (by rw[decide_eq_false_iff_not];exact hlm))
        clear ht;go_wp2_with (go_at_call 133;refine (HM.out _ hR).mono ?_;rintro e w3 ⟨rfl,hb3⟩)
        go_roundg (s.size - m)
        case measure=>have:=HT.out.1;omega
        case rel=>exact⟨m,rfl,hm,hR.below hb3,hB.below hb3,hK.andBelow hb3,Ng HT.out.2⟩
     ·have HN:=Ng ((Cd s k hlt hbl hsh).symm.trans ht.out);have d3:(((bat s k).toNat:Int)==35)=false:=by rw[beq_eq_false_iff_ne];omega
      clear hbl hsh ht;go_wp2_with fail
      go_meet
      case rel =>
       rw[← HN.out];exact⟨hk,hR4,hB4,hK4⟩
   ·have HN:=Ng ((qL false s k (by omega)).symm.trans ht.out)
    have HM:=Ng fun w5 h=>rO r q s k v j w5 hs' (by omega) h false (Ng (by rw[decide_eq_false_iff_not];exact hlt))
    clear ht;go_wp2_with (go_at_call 133;refine (HM.out _ hR).mono ?_;rintro e w3 ⟨rfl,hb3⟩)
    go_meet
    case rel =>
     rw[← HN.out];exact⟨hk,hR.below hb3,hB.below hb3,hK.andBelow hb3⟩
 case rest =>
  obtain⟨hts,hR2,hB2,hK2⟩:=hcut;clear hR1 hB1 hK1 hR hi ht;have hTb:w.heap.size<wc.heap.size:=hB2.lt;have c1:=hR2.c1;rw[LI,size_eq] at hX;go_upto_region 9 with fail
  refine eJ (fun w3=>TRd w3 r q s t v j∧Blk w3 w.heap.size [.int .i64 0,.int .i64 0,.slice none 0 0]∧Blk w3 wc.heap.size [.int .i64 0,.int .i64 t,.slice none 0 0]∧aB (At r) w w3) ⟨hR2.alloc _,hB2.alloc _,Blk.new _ _ _,hK2.alloc _⟩ ?_
  intro w3 ⟨hR3,hB3,hT3,hK3⟩;clear hR2 hB2 hK2 c1;generalize wc.heap.size=tb at *
  by_cases hlt:t<s.size
  ·have hX1:=Ng ((if_neg (by omega)).symm.trans hX.out)
   have HM:=Ng fun w5 h=>rO r q s t v j w5 hs' (by omega) h true (Ng (by rw[decide_eq_true_eq];exact hlt))
   clear hX
   go_upto_block 5 with (first
    | (go_at_call 133;refine (HM.out _ hR3).mono ?_;rintro e w4 ⟨rfl,hb4⟩;have hR4:=hR3.below hb4)
    | (go_at_call 135;refine (KS _).mono ?_;rintro e w5 ⟨rfl,hO5,hb5⟩))
   have hR5:=hR4.below hb5;have hB5:=(hB3.below hb4).below hb5;have hT5:=(hT3.below hb4).below hb5;have hK5:=(hK3.andBelow hb4).andBelow hb5;have hob:tb<w4.heap.size:=(hT3.below hb4).lt;generalize w4.heap.size=ob at *;clear hR3 hR4 hB3 hT3 hK3 hb4 hb5 HM;go_wp2_with fail
   go_loopg [6,56] 13 (fun n sb sj wr=>∃ (m:Nat) (b:List UInt8) (kd:Nat),n=13 - m∧m≤13∧sb = .string (bs b)∧sj = .int .i64 m∧b.length≤3∧TRd wr r q s t v j∧Blk wr w.heap.size [.int .i64 0,.int .i64 0,.slice none 0 0] ∧
     Blk wr tb [.int .i64 kd,.int .i64 t,.slice none 0 0]∧Blk wr ob (bH.map fun l=>.string (bs l))∧aB (At r) w wr∧Hid (bB (s.data.toList.drop t) bH 0 [] 0=bB (s.data.toList.drop t) (bH.drop m) m b kd)∧Hid (b=[]→kd=0))
   case atStart=>exact⟨0,[],0,rfl,by omega,rfl,rfl,by simp,hR5,hB5,hT5,hO5,hK5,Ng rfl,Ng fun _=>rfl⟩
   case round =>
    obtain⟨m,b,kd,rfl,hm,rfl,rfl,hbl,hR,hB1,hB2,hO,hK,hbest,hkd⟩:=hrel;clear hR5 hB5 hT5 hK5;have n1:¬ tb=r:=by omega
    have n2:¬ tb=q:=by omega
    have n3:¬ r=tb:=by omega
    by_cases hm13:m<13
    ·obtain⟨o,ho⟩:∃ o,bH[m]?=some o:=⟨bH[m]'(by exact hm13),List.getElem?_eq_getElem (by exact hm13)⟩
     have hoc:wr.cell? ⟨ob,m,none⟩=some (.string (bs o)):=hO.cell m (by rw[List.getElem?_map,ho];rfl)
     have hol:o.length≤3:=by
      have h:∀ o∈bH,o.length≤3:=by decide
      exact h o (List.mem_of_getElem? ho)
     have hst:=Ng (FR (s.data.toList.drop t) m b kd o ho);have hos:=Ng (aY o);have hbs:=Ng (aY b);clear ho;have g0:=cell_regrown hR.c0;have g1:=cell_regrown hR.c1;have g2:=cell_regrown hR.cs
     by_cases hlen:b.length<o.length
     ·have d1:decide (((bs b).size:Int)<((bs o).size:Int))=true:=by rw[hos.out,hbs.out,decide_eq_true_eq];omega
      have d2:decide ((bs b).size<(bs o).size)=true:=by rw[hos.out,hbs.out,decide_eq_true_eq];omega
      have HB:=Ng (qY s (bs o) t);rw[bK] at HB
      cases hpf:Lib.hasPrefix (s.data.toList.drop t) o with
      | true =>
       rw[hpf] at HB;have HN:=Ng (hbest.out.trans (hst.out.trans (if_pos ⟨hlen,hpf⟩)));have HL:Hid (o=[]→m=0):=Ng fun e=>by rw[e] at hlen;simp at hlen
       clear hpf hst hbest hlen;go_wp2_with fail
       refine wp_region_quiet_below (by kernel_rfl) (by kernel_rfl) ?_
       repeat (go_big_quiet_step ((go_at_call 96;exact Calls.regrown_of (HB.out _ hs' (by omega)))))
       refine wpQuiet_nil ?_;intro w4 hw';have hb:Below wr.heap.size wr w4:=b8 hw';clear hw';have hR4:=hR.below hb;have hB14:=hB1.below hb;have hB24:=hB2.below hb;have hO4:=hO.below hb;have hK4:=hK.andBelow hb;clear hR hB1 hB2 hO hK hb g0 g1 g2 HB hoc;have tc0:=hB24.cell 0 rfl;have tf0:=hB24.free 0;go_wp2_with fail
       go_roundg (13 - (m+1))
       case measure=>omega
       case rel =>
        refine ⟨m+1,o,m,rfl,by omega,rfl,by go_num,hol,?_,?_,?_,?_,?_,HN,HL⟩
        ·repeat first | with_reducible assumption | ((with_reducible refine TRd.moveTo ?_ ?_);rotate_left;focus go_num) | with_reducible exact jH.of (by assumption) | ((with_reducible first | refine jH.other ?_ ?_ ?_ _ | refine TRd.other ?_ ?_ ?_ _);rotate_left;(focus first | omega | (simp;omega) | simp);focus first | omega | (simp;omega) | simp) | with_reducible first | refine TRd.alloc ?_ _ | refine TRd.drew ?_
        ·apply Blk.as
         with_reducible repeat first | assumption | (apply Blk.newAt;focus (simp;done)) | apply Blk.set | (apply Blk.other;case hp=>first | omega | (simp;omega) | simp) | apply Blk.alloc | apply Blk.drewN | apply Blk.drew
         rfl
        ·apply Blk.as
         with_reducible repeat first | assumption | (apply Blk.newAt;focus (simp;done)) | apply Blk.set | (apply Blk.other;case hp=>first | omega | (simp;omega) | simp) | apply Blk.alloc | apply Blk.drewN | apply Blk.drew
         rfl
        ·apply Blk.as
         with_reducible repeat first | assumption | (apply Blk.newAt;focus (simp;done)) | apply Blk.set | (apply Blk.other;case hp=>first | omega | (simp;omega) | simp) | apply Blk.alloc | apply Blk.drewN | apply Blk.drew
         rfl
        ·repeat first | with_reducible assumption | with_reducible exact aB.refl _ _ | ((with_reducible refine aB.setCell ?_ ?_ _);rotate_left;focus first | exact fun _=>rfl | exact fun h=>absurd h (by first | omega | (simp;omega) | simp)) | with_reducible first | refine aB.alloc ?_ _ | refine aB.drewN ?_ _ | refine aB.drew ?_
      | false =>
       rw[hpf] at HB;have HN:=Ng (hbest.out.trans (hst.out.trans (if_neg (fun h=>by rw[hpf] at h;exact absurd h.2 (by decide)))))
       clear hpf hst hbest hlen;go_wp2_with fail
       refine wp_region_quiet_below (by kernel_rfl) (by kernel_rfl) ?_
       repeat (go_big_quiet_step ((go_at_call 96;exact Calls.regrown_of (HB.out _ hs' (by omega)))))
       refine wpQuiet_nil ?_;intro w4 hw';have hb:Below wr.heap.size wr w4:=b8 hw';clear hw';have hR4:=hR.below hb;have hB14:=hB1.below hb;have hB24:=hB2.below hb;have hO4:=hO.below hb;have hK4:=hK.andBelow hb;clear hR hB1 hB2 hO hK hb g0 g1 g2 HB hoc;go_wp2_with fail
       go_roundg (13 - (m+1))
       case measure=>omega
       case rel=>exact⟨m+1,b,kd,rfl,by omega,rfl,by go_num,hbl,hR4,hB14,hB24,hO4,hK4,HN,hkd⟩
     ·have d1:decide (((bs b).size:Int)<((bs o).size:Int))=false:=by rw[hos.out,hbs.out,decide_eq_false_iff_not];omega
      have d2:decide ((bs b).size<(bs o).size)=false:=by rw[hos.out,hbs.out,decide_eq_false_iff_not];omega
      have HN:=Ng (hbest.out.trans (hst.out.trans (if_neg (fun h=>hlen h.1))))
      clear hst hbest hlen;go_wp2_with fail
      refine wp_region_quiet_below (by kernel_rfl) (by kernel_rfl) ?_
      repeat (go_big_quiet_step (fail))
      refine wpQuiet_nil ?_;intro w4 hw';have hb:Below wr.heap.size wr w4:=b8 hw';clear hw';have hR4:=hR.below hb;have hB14:=hB1.below hb;have hB24:=hB2.below hb;have hO4:=hO.below hb;have hK4:=hK.andBelow hb;clear hR hB1 hB2 hO hK hb g0 g1 g2 hoc;go_wp2_with fail
      go_roundg (13 - (m+1))
      case measure=>omega
      case rel=>exact⟨m+1,b,kd,rfl,by omega,rfl,by go_num,hbl,hR4,hB14,hB24,hO4,hK4,HN,hkd⟩
    ·obtain rfl:m=13:=by omega
     have HB:=Ng (hbest.out.trans (GJ _ b kd));have hX2:=hX1.out;rw[HB.out] at hX2;dsimp only at hX2;have HX2:=Ng hX2;clear hbest hO hX1 hX2 HB;have c1:=hR.c1;have f1:=hR.f1;have hl1:=hB1.lt;have hl2:=hB2.lt;have n4:¬ r=w.heap.size:=by omega
     have n5:¬ w.heap.size=r:=by omega
     have n6:¬ tb=w.heap.size:=by omega
     have n7:¬ w.heap.size=tb:=by omega
     have tc0:=hB1.cell 0 rfl;have tc1:=hB1.cell 1 rfl;have tc2:=hB1.cell 2 rfl;have tf0:=hB1.free 0;have tf1:=hB1.free 1;have tf2:=hB1.free 2;have uc0:=hB2.cell 0 rfl;have uc1:=hB2.cell 1 rfl;have uc2:=hB2.cell 2 rfl;have uf0:=hB2.free 0;have uf1:=hB2.free 1;have uf2:=hB2.free 2
     by_cases hbe:b=[]
     ·have hX3:=Ng ((if_neg (by simp [hbe])).symm.trans HX2.out)
      have hk0:=hkd.out hbe;subst hbe hk0;have e1:(bs []).toList=[]:=by rw[Lib.toList_data,bK]
      have e2:(bs []).toList.isEmpty=true:=by rw[e1];rfl
      have HP:=Ng fun w5 h=>Ac r q s t v j w5 hs' hlt h
      clear HX2 hkd hbl
      by_cases h38:(bat s t).toNat=38
      ·have HX:=Ng ((if_pos h38).symm.trans hX3.out);have d1:(((bat s t).toNat:Int)==38)=true:=by rw[beq_iff_eq];omega
       have hev:=hK.cell (hE 107 7 (by decide)) (fun e=>hG 107 7 (by decide) e)
       clear hX3 h38;go_upto_region 22 with (go_at_call 134;refine (HP.out _ hR).mono ?_;rintro e w4 ⟨rfl,hb4⟩)
       have hB14:=hB1.below hb4;have hK4:=hK.andBelow hb4;have hev4:=aF hb4 hev;have c14:=aF hb4 c1;have l3:r<w4.heap.size:=Nat.lt_of_lt_of_le hR.here.lt hb4.size;have l4:=block_lt_of_cell hev4;have l5:7<w.heap.size:=block_lt_of_cell (hE 107 7 (by decide))
       have m3:¬ w.heap.size=7:=by omega
       have m4:¬ 7=w.heap.size:=by omega
       have l6:=hB14.lt;clear hR hB1 hB2 hK hb4 hev c1 f1 tc0 tc1 tc2 tf0 tf1 tf2 uc0 uc1 uc2 uf0 uf1 uf2 HP;have tc0:=hB14.cell 0 rfl;have tc1:=hB14.cell 1 rfl;have tc2:=hB14.cell 2 rfl;have tf0:=hB14.free 0;have tf1:=hB14.free 1;have tf2:=hB14.free 2
       go_region_held3 (fun w'=>w'.cell? ⟨r,1,none⟩=some (.int .i64 (t:Int))∧w'.cell? ⟨7,0,none⟩=some (.iface 286 (.pointer (some (sent 107))))) (first | go_keep)
        (first
         | (go_at_call 136;refine (oO _ _ _ _).mono ?_;rintro e w5 ⟨rfl,rfl⟩))
       go_wp2_with fail
       (try simp only[Exit.inBlock,Exit.then])
       refine bodyPost_ret (eY (p:=2) (u:=3) (g:=w.heap.size) (cs:=[.int .i64 0,.int .i64 0,.slice none 0 0]) rfl _ _ _ rfl ?_ Tryz.underlying113 rfl (by kernel_rfl)) rfl (m9.bad (b:=w4.heap.size) HX rfl ?_ ?_)
       ·apply Blk.as
        with_reducible repeat first | assumption | (apply Blk.newAt;focus (simp;done)) | apply Blk.set | (apply Blk.other;case hp=>first | omega | (simp;omega) | simp) | apply Blk.alloc | apply Blk.drewN | apply Blk.drew
        rfl
       ·unfold bJ;apply Blk.as
        with_reducible repeat first | assumption | (apply Blk.newAt;focus (simp;done)) | apply Blk.set | (apply Blk.other;case hp=>first | omega | (simp;omega) | simp) | apply Blk.alloc | apply Blk.drewN | apply Blk.drew
        rfl
       ·repeat first | with_reducible assumption | with_reducible exact aB.refl _ _ | ((with_reducible refine aB.setCell ?_ ?_ _);rotate_left;focus first | exact fun _=>rfl | exact fun h=>absurd h (by first | omega | (simp;omega) | simp)) | with_reducible first | refine aB.alloc ?_ _ | refine aB.drewN ?_ _ | refine aB.drew ?_
      ·have hX4:=Ng ((if_neg h38).symm.trans hX3.out);have d1:(((bat s t).toNat:Int)==38)=false:=by rw[beq_eq_false_iff_ne];omega
       clear hX3 h38;go_upto_region 25 with (go_at_call 134;refine (HP.out _ hR).mono ?_;rintro e w4 ⟨rfl,hb4⟩;have uc0':=aF hb4 uc0;have uf0':=kT hb4 uc0 uf0)
       have hR4:=hR.below hb4;have hB14:=hB1.below hb4;have hB24:=hB2.below hb4;have hK4:=hK.andBelow hb4;clear uc0' uf0';refine eJ (fun w5=>TRd w5 r q s t v j∧Blk w5 w.heap.size [.int .i64 0,.int .i64 0,.slice none 0 0]∧Blk w5 tb [.int .i64 13,.int .i64 t,.slice none 0 0]∧aB (At r) w w5) ⟨?_,?_,?_,?_⟩ ?_
       ·repeat first | with_reducible assumption | ((with_reducible refine TRd.moveTo ?_ ?_);rotate_left;focus go_num) | with_reducible exact jH.of (by assumption) | ((with_reducible first | refine jH.other ?_ ?_ ?_ _ | refine TRd.other ?_ ?_ ?_ _);rotate_left;(focus first | omega | (simp;omega) | simp);focus first | omega | (simp;omega) | simp) | with_reducible first | refine TRd.alloc ?_ _ | refine TRd.drew ?_
       ·apply Blk.as
        with_reducible repeat first | assumption | (apply Blk.newAt;focus (simp;done)) | apply Blk.set | (apply Blk.other;case hp=>first | omega | (simp;omega) | simp) | apply Blk.alloc | apply Blk.drewN | apply Blk.drew
        rfl
       ·apply Blk.as
        with_reducible repeat first | assumption | (apply Blk.newAt;focus (simp;done)) | apply Blk.set | (apply Blk.other;case hp=>first | omega | (simp;omega) | simp) | apply Blk.alloc | apply Blk.drewN | apply Blk.drew
        rfl
       ·repeat first | with_reducible assumption | with_reducible exact aB.refl _ _ | ((with_reducible refine aB.setCell ?_ ?_ _);rotate_left;focus first | exact fun _=>rfl | exact fun h=>absurd h (by first | omega | (simp;omega) | simp)) | with_reducible first | refine aB.alloc ?_ _ | refine aB.drewN ?_ _ | refine aB.drew ?_
       intro w5 ⟨hR5,hB5,hT5,hK5⟩;clear hR hB1 hB2 hK hb4 hR4 hB14 hB24 hK4 c1 f1 tc0 tc1 tc2 tf0 tf1 tf2 uc0 uc1 uc2 uf0 uf1 uf2 HP;have hE5:Env w5 sent:=fun c g hg=>hK5.cell (hE c g hg) (fun e=>hG c g hg e)
       have hT5l:=hT5.lt;have hB5l:=hB5.lt
       cases hw:bO s.data.toList (s.size+1) t [] false with
       | error e =>
        obtain⟨ec,ep⟩:=e;rw[hw] at hX4;have HX:=Ng hX4.out;dsimp only at HX;have HW:=Ng (Cc r q s t v j w5 hs hts hR5.here hR5.src hR5.ne sent hE5 hG (.error (ec,ep)) (Ng (by rw[size_eq];exact hw)))
        clear hX4 hw;go_wp2_with (go_at_call 137;refine HW.out.mono ?_;rintro e w6 hst;obtain⟨b,rfl,hE6,hK6⟩:=hst;have hB6:=hB5.kept hK6 (fun e=>n5 e);have hT6:=hT5.kept hK6 (fun e=>n1 e);have tc0:=hB6.cell 0 rfl;have tc1:=hB6.cell 1 rfl;have tc2:=hB6.cell 2 rfl;have tf0:=hB6.free 0;have tf1:=hB6.free 1;have tf2:=hB6.free 2;have uc2:=hT6.cell 2 rfl;have uf2:=hT6.free 2)
        have nb1:=Blk.apart hE6 hB6 (by simp)
        have nb2:=Blk.apart hE6 hT6 (by simp)
        have hK6':=hK5.same hK6;unfold bJ at hE6
        (try simp only[Exit.inBlock,Exit.then])
        refine bodyPost_ret (eY (p:=2) (u:=3) (g:=w.heap.size) (cs:=[.int .i64 0,.int .i64 0,.slice none 0 0]) rfl _ _ _ rfl ?_ Tryz.underlying113 rfl (by kernel_rfl)) rfl (m9.bad (b:=b) HX rfl ?_ ?_)
        ·apply Blk.as
         with_reducible repeat first | assumption | (apply Blk.newAt;focus (simp;done)) | apply Blk.set | (apply Blk.other;case hp=>first | omega | (simp;omega) | simp) | apply Blk.alloc | apply Blk.drewN | apply Blk.drew
         rfl
        ·unfold bJ;apply Blk.as
         with_reducible repeat first | assumption | (apply Blk.newAt;focus (simp;done)) | apply Blk.set | (apply Blk.other;case hp=>first | omega | (simp;omega) | simp) | apply Blk.alloc | apply Blk.drewN | apply Blk.drew
         rfl
        ·repeat first | with_reducible assumption | with_reducible exact aB.refl _ _ | ((with_reducible refine aB.setCell ?_ ?_ _);rotate_left;focus first | exact fun _=>rfl | exact fun h=>absurd h (by first | omega | (simp;omega) | simp)) | with_reducible first | refine aB.alloc ?_ _ | refine aB.drewN ?_ _ | refine aB.drew ?_
       | ok st =>
        obtain⟨k,P⟩:=st;rw[hw] at hX4;have HX:=Ng hX4.out;dsimp only at HX;have HW:=Ng (Cc r q s t v j w5 hs hts hR5.here hR5.src hR5.ne sent hE5 hG (.ok (k,P)) (Ng (by rw[size_eq];exact hw)))
        clear hX4 hw;go_wp2_with (go_at_call 137;refine HW.out.mono ?_;rintro e w6 hst;obtain⟨v',j',rfl,hR6,hK6⟩:=hst;obtain⟨ao,cap,rfl⟩:=hR6.row.form;have hB6:=hB5.kept hK6 (fun e=>n5 e);have hT6:=hT5.kept hK6 (fun e=>n1 e);have tc0:=hB6.cell 0 rfl;have tc1:=hB6.cell 1 rfl;have tc2:=hB6.cell 2 rfl;have tf0:=hB6.free 0;have tf1:=hB6.free 1;have tf2:=hB6.free 2;have uc0:=hT6.cell 0 rfl;have uc1:=hT6.cell 1 rfl;have uc2:=hT6.cell 2 rfl;have uf2:=hT6.free 2)
        have hH6:=hR6.here;have hQ6:=hR6.src;have hT7:TRd w6 r q s k _ j':=⟨hH6,hQ6,hR6.ne⟩;have hW6:=hR6.row;have hK6':=hK5.same hK6;have lw:w.heap.size<w5.heap.size:=hB5l
        (try simp only[Exit.inBlock,Exit.then])
        refine bodyPost_ret (eY (p:=2) (u:=3) (g:=w.heap.size) (cs:=[.int .i64 13,.int .i64 t,.slice ao P.length cap]) rfl _ _ _ rfl ?_ Tryz.underlying113 rfl (by kernel_rfl)) rfl (m9.ok (v':=.slice ao P.length cap) (j':=j') HX rfl (bF.mono (B:=w5.heap.size) ?_ (by omega)) ?_ ?_)
        ·apply Blk.as
         with_reducible repeat first | assumption | (apply Blk.newAt;focus (simp;done)) | apply Blk.set | (apply Blk.other;case hp=>first | omega | (simp;omega) | simp) | apply Blk.alloc | apply Blk.drewN | apply Blk.drew
         rfl
        ·repeat (first | (with_reducible assumption) | ((with_reducible refine bF.other ?_ ?_ _);rotate_left;(focus (first | omega | (simp;omega)))))
        ·repeat first | with_reducible assumption | ((with_reducible refine TRd.moveTo ?_ ?_);rotate_left;focus go_num) | with_reducible exact jH.of (by assumption) | ((with_reducible first | refine jH.other ?_ ?_ ?_ _ | refine TRd.other ?_ ?_ ?_ _);rotate_left;(focus first | omega | (simp;omega) | simp);focus first | omega | (simp;omega) | simp) | with_reducible first | refine TRd.alloc ?_ _ | refine TRd.drew ?_
        ·repeat first | with_reducible assumption | with_reducible exact aB.refl _ _ | ((with_reducible refine aB.setCell ?_ ?_ _);rotate_left;focus first | exact fun _=>rfl | exact fun h=>absurd h (by first | omega | (simp;omega) | simp)) | with_reducible first | refine aB.alloc ?_ _ | refine aB.drewN ?_ _ | refine aB.drew ?_
     ·have HX:=Ng ((if_pos hbe).symm.trans HX2.out)
      have hz:0<(bs b).size:=by
       rw[aY]
       cases b with
       | nil=>exact absurd rfl hbe
       | cons _ _=>simp
      obtain⟨e1,e2⟩:=pL _ hz;have hbs3:(bs b).size≤3:=by rw[aY];exact hbl
      have HZ:=Ng (aY b);clear HX2 hkd hbl hbe hz;go_wp2_with fail
      (try simp only[Exit.inBlock,Exit.then])
      refine bodyPost_ret (eY (p:=2) (u:=3) (g:=w.heap.size) (cs:=[.int .i64 kd,.int .i64 t,.slice none 0 0]) rfl _ _ _ rfl ?_ Tryz.underlying113 rfl (by kernel_rfl)) rfl (m9.ok (v':=v) (j':=j) HX rfl (bF.nil _ _) ?_ ?_)
      ·apply Blk.as
       with_reducible repeat first | assumption | (apply Blk.newAt;focus (simp;done)) | apply Blk.set | (apply Blk.other;case hp=>first | omega | (simp;omega) | simp) | apply Blk.alloc | apply Blk.drewN | apply Blk.drew
       rfl
      ·rw[← HZ.out]
       repeat first | with_reducible assumption | ((with_reducible refine TRd.moveTo ?_ ?_);rotate_left;focus go_num) | with_reducible exact jH.of (by assumption) | ((with_reducible first | refine jH.other ?_ ?_ ?_ _ | refine TRd.other ?_ ?_ ?_ _);rotate_left;(focus first | omega | (simp;omega) | simp);focus first | omega | (simp;omega) | simp) | with_reducible first | refine TRd.alloc ?_ _ | refine TRd.drew ?_
      ·repeat first | with_reducible assumption | with_reducible exact aB.refl _ _ | ((with_reducible refine aB.setCell ?_ ?_ _);rotate_left;focus first | exact fun _=>rfl | exact fun h=>absurd h (by first | omega | (simp;omega) | simp)) | with_reducible first | refine aB.alloc ?_ _ | refine aB.drewN ?_ _ | refine aB.drew ?_
  ·have HX:=Ng ((if_pos (by omega)).symm.trans hX.out)
   have HM:=Ng fun w5 h=>rO r q s t v j w5 hs' (by omega) h false (Ng (by rw[decide_eq_false_iff_not];exact hlt))
   clear hX;go_upto_region 10 with (go_at_call 133;refine (HM.out _ hR3).mono ?_;rintro e w4 ⟨rfl,hb4⟩)
   have hR4:=hR3.below hb4;have hB4:=hB3.below hb4;have hT4:=hT3.below hb4;have hK4:=hK3.andBelow hb4;clear hR3 hB3 hT3 hK3 hb4 HM;have tc0:=hB4.cell 0 rfl;have tc1:=hB4.cell 1 rfl;have tc2:=hB4.cell 2 rfl;have tf0:=hB4.free 0;have tf1:=hB4.free 1;have tf2:=hB4.free 2;have uc0:=hT4.cell 0 rfl;have uc1:=hT4.cell 1 rfl;have uc2:=hT4.cell 2 rfl;have uf0:=hT4.free 0;have uf1:=hT4.free 1;have uf2:=hT4.free 2;go_wp2_with fail
   (try simp only[Exit.inBlock,Exit.then])
   refine bodyPost_ret (eY (p:=2) (u:=3) (g:=w.heap.size) (cs:=[.int .i64 0,.int .i64 t,.slice none 0 0]) rfl _ _ _ rfl ?_ Tryz.underlying113 rfl (by kernel_rfl)) rfl (m9.ok (v':=v) (j':=j) HX rfl (bF.nil _ _) ?_ ?_)
   ·apply Blk.as
    with_reducible repeat first | assumption | (apply Blk.newAt;focus (simp;done)) | apply Blk.set | (apply Blk.other;case hp=>first | omega | (simp;omega) | simp) | apply Blk.alloc | apply Blk.drewN | apply Blk.drew
    rfl
   ·repeat first | with_reducible assumption | ((with_reducible refine TRd.moveTo ?_ ?_);rotate_left;focus go_num) | with_reducible exact jH.of (by assumption) | ((with_reducible first | refine jH.other ?_ ?_ ?_ _ | refine TRd.other ?_ ?_ ?_ _);rotate_left;(focus first | omega | (simp;omega) | simp);focus first | omega | (simp;omega) | simp) | with_reducible first | refine TRd.alloc ?_ _ | refine TRd.drew ?_
   ·repeat first | with_reducible assumption | with_reducible exact aB.refl _ _ | ((with_reducible refine aB.setCell ?_ ?_ _);rotate_left;focus first | exact fun _=>rfl | exact fun h=>absurd h (by first | omega | (simp;omega) | simp)) | with_reducible first | refine aB.alloc ?_ _ | refine aB.drewN ?_ _ | refine aB.drew ?_
theorem LU:(Tryz.prog.info? 113).map (fun i=>(i.zero,i.size,i.bytes))=some (some (.agg #[.int .i64 0,.int .i64 0,.slice none 0 0]),3,40):=by kernel_rfl
abbrev lR:=aG×Value
def lR.cells (x:lR):List Value:=[.int .i64 x.1.kind,.int .i64 x.1.place,x.2]
structure iK (w:World) (B:Nat) (v:Value) (tv:List lR):Prop where
 row:w.ownsRow B 113 3 v tv.length (tv.flatMap lR.cells)
 parts:∀ x∈tv,bF w B x.2 x.1.parts
theorem iK.nil (w:World)(B:Nat):iK w B (.slice none 0 0) []:=⟨World.ownsRow_nil _ _ _ _,fun _ h=>nomatch h⟩
theorem iK.form {w:World}{B:Nat}{v:Value}{tv:List lR}(h:iK w B v tv):∃ ao cap,v = .slice ao tv.length cap:=by
 rcases h.row.2 with ⟨hv,h0⟩ | ⟨g,cap,cur,hv,_⟩
 ·exact⟨none,0,by rw[hv,h0]⟩
 ·exact⟨_,_,hv⟩
theorem bM {w w':World}{B:Nat}{e:TypeId}{size:Nat}{v:Value}{n:Nat}{xs:List Value}{S:Nat→Prop}(h:w.ownsRow B e size v n xs)(hk:aB S w w')(hS:∀ k,B≤k→k<w.heap.size→¬ S k):w'.ownsRow B e size v n xs:=by
 refine ⟨h.1,?_⟩
 rcases h.2 with h2 | ⟨g,cap,cur,hv,hg,hh,r⟩
 ·exact .inl h2
 ·exact .inr ⟨g,cap,cur,hv,hg,(hk.block g (lt_of_block hh) (hS g hg (lt_of_block hh))).trans hh,r⟩
theorem iK.kept {w w':World}{B:Nat}{v:Value}{tv:List lR}{S:Nat→Prop}(h:iK w B v tv)(hk:aB S w w')(hS:∀ k,B≤k→k<w.heap.size→¬ S k):iK w' B v tv :=
 ⟨bM h.row hk hS,fun x hx=>bM (h.parts x hx) hk hS⟩
theorem iK.below {w w':World}{B:Nat}{v:Value}{tv:List lR}(h:iK w B v tv)(hb:Below w.heap.size w w'):iK w' B v tv :=
 h.kept (aB.ofBelow hb:aB bW w w') (fun _ _ _ e=>e)
theorem iK.mono {w:World}{B B':Nat}{v:Value}{tv:List lR}(h:iK w B v tv)(hB:B'≤B):iK w B' v tv:=by
 refine ⟨⟨h.row.1,?_⟩,fun x hx=>(h.parts x hx).mono hB⟩
 rcases h.row.2 with ⟨hv,h0⟩ | ⟨g,cap,cur,hv,hg,r⟩
 ·exact .inl ⟨hv,h0⟩
 ·exact .inr ⟨g,cap,cur,hv,Nat.le_trans hB hg,r⟩
theorem BF {w:World}{B B':Nat}{e e':TypeId}{m m':Nat}{v v':Value}{n n':Nat}{xs xs':List Value}(h:w.ownsRow B e m v n xs)(h':w.ownsRow B' e' m' v' n' xs')(he:e≠e')(k:Nat)(hk:v.ownBlock=some k):v'.ownBlock≠some k:=by
 intro hk'
 rcases h.2 with ⟨rfl,_⟩ | ⟨g,cap,cur,rfl,hg,hh,_⟩
 ·cases hk
 ·rcases h'.2 with ⟨rfl,_⟩ | ⟨g',cap',cur',rfl,hg',hh',_⟩
  ·cases hk'
  ·have e1:g=k:=by simpa [Value.ownBlock] using hk
   have e2:g'=k:=by simpa [Value.ownBlock] using hk'
   subst e1 e2;rw[hh] at hh';simp only[Option.some.injEq,Obj.cells.injEq] at hh';exact he hh'.2.1
def qV (L:List UInt8) (f k:Nat) (ts:List aG):Except (Nat×Nat) (List aG) :=
 match dA L f k with
 | .ok us=>.ok (ts++us)
 | .error e=>.error e
theorem Fk (L:List UInt8)(f k j:Nat)(ts:List aG)(hj:k+aU false (L.drop k)=j) :
  qV L (f+1) k ts=match gA L j with
   | .error e=>.error e
   | .ok (t,n)=>if t.kind=0 then .ok (ts++[t]) else qV L f n (ts++[t]):=by
 rw[qV,dA,hj]
 cases gA L j with
 | error e=>rfl
 | ok x =>
  obtain⟨t,n⟩:=x
  by_cases hk:t.kind=0
  ·simp only[hk,if_true]
  ·simp only[hk,if_false,qV]
   cases dA L f n with
   | error e=>rfl
   | ok us=>simp
theorem Dx (s:ByteArray)(w:World)(hs:s.size≤8192)(sent:Nat→Addr)(hE:Env w sent)
  (R:Ending→World→Prop) (T:Except (Nat×Nat) (List aG)) (hT:Hid (dA s.data.toList (s.size+1) 0=T))
  (hgood:Hid (∀ (tv:List lR) v w',T = .ok (tv.map (·.1))→iK w' w.heap.size v tv→Below w.heap.size w w'→R (.returned (.tuple #[v,.nilIface])) w'))
  (hbad:Hid (∀ c p b w',T = .error (c,p)→bJ w' b sent c p→Below w.heap.size w w'→R (.returned (.tuple #[.slice none 0 0,.iface 61 (.pointer (some ⟨b,0,none⟩))])) w')) :
  Calls Tryz.prog 40 #[.string s] w R:=by
 obtain⟨i0,hi0,hz0,hz1,hz2⟩:=info_parts LU;go_enter Tryz.func40,Tryz.ntmps40
 go_wp2_with (go_at_call 45;refine (D6 s _ hs).mono ?_;rintro e w1 ⟨rfl,hS1,hb1⟩)
 have l1:w.heap.size<w1.heap.size:=hS1.lt
 refine eJ (fun w2=>TRd w2 w1.heap.size w.heap.size s 0 (.slice none 0 0) false∧Below w.heap.size w w2∧w1.heap.size<w2.heap.size)
  ⟨⟨Blk.new w1 _ _,hS1.alloc _,by omega⟩,hb1.alloc (by omega) _,by simp⟩ ?_
 generalize w1.heap.size=rb at *;intro w2 ⟨hR2,hb2,l2⟩;clear hS1 hb1;go_loopg [7] (s.size+1) (fun n v wr=>∃ (k f:Nat) (tv:List lR) (vp:Value) (jp:Bool),n=s.size+1 - k∧k≤s.size∧s.size - k<f∧tv.length≤k∧TRd wr rb w.heap.size s k vp jp∧iK wr (rb+1) v tv∧Below w.heap.size w wr∧rb<wr.heap.size∧Hid (qV s.data.toList f k (tv.map (·.1))=T))
 case atStart =>
  refine ⟨0,s.size+1,[],_,_,rfl,by omega,by omega,by simp,hR2,iK.nil _ _,hb2,l2,Ng ?_⟩
  rw[← hT.out,qV];simp only[List.map_nil,List.nil_append]
  cases dA s.data.toList (s.size+1) 0 <;> rfl
 case round =>
  clear hR2 hb2 l2;obtain⟨k,f,tv,vp,jp,rfl,hk,hf,htl,hR,hO,hb,hl,hrest⟩:=hrel;obtain⟨ao,cap,rfl⟩:=hO.form;obtain⟨j,hj⟩:∃ j,k+aU false (s.data.toList.drop k)=j:=⟨_,rfl⟩
  have hjs:j≤s.size:=by
   have:=pQ false (s.data.toList.drop k)
   rw[List.length_drop,size_eq] at this;omega
  have hfront:=Ng (nM false (s.data.toList.drop k));rw[List.drop_drop,hj] at hfront;obtain⟨f,rfl⟩:∃ f',f=f'+1:=⟨f - 1,by omega⟩
  have HS:=Ng ((Fk s.data.toList f k j (tv.map (·.1)) hj).symm.trans hrest.out);have HJ:=Ng hj;have hE3:=hE.below hb;have hG3:∀ c g,(c,g)∈cH→g≠rb:=fun c g hg e=>by have:=hE.lt hg;omega
  clear hj hrest
  cases htk:gA s.data.toList j with
  | error e =>
   obtain⟨ec,ep⟩:=e;have HS2:=HS.out;rw[htk] at HS2;dsimp only at HS2;have HW:=Ng (BX rb w.heap.size s k j vp jp wr hs hk hR sent hE3 hG3 HJ (.error (ec,ep)) (Ng htk));have HB:=Ng fun b w' h1 h2=>hbad.out ec ep b w' HS2.symm h1 h2
   clear HS HS2 hgood hbad htk hfront HJ hR;go_wp2_with (go_at_call 85;refine HW.out.mono ?_;rintro e w4 hst;obtain⟨b,rfl,hE4,hK4⟩:=hst)
   have hb4:Below w.heap.size w w4:=hb.trans (hK4.below hb.size (fun i hi e=>by unfold At at e;omega))
   exact HB.out _ _ (by unfold bJ at hE4 ⊢;exact hE4.alloc _) (hb4.alloc hb4.size _)
  | ok x =>
   obtain⟨t,n⟩:=x;obtain⟨hn1,hn2,hn3,hn4,hn5⟩:=uQ s.data.toList j t n (by rw[size_eq];exact hjs) hfront.out htk
   rw[size_eq] at hn2 hn3;have HS2:=HS.out;rw[htk] at HS2;dsimp only at HS2;have HS2:=Ng HS2;have HW:=Ng (BX rb w.heap.size s k j vp jp wr hs hk hR sent hE3 hG3 HJ (.ok (t,n)) (Ng htk));have hjk:k≤j:=by have:=HJ.out;omega
   have HO5:=Ng hn5;obtain⟨tk,tp,tps⟩:=t;dsimp only at hn1 hn2 hn4;subst hn1;clear HS htk hfront HJ hR hn5;go_upto_region 9 with (go_at_call 85;refine HW.out.mono ?_;rintro e w4 hst;obtain⟨v4,j4,v2,rfl,hP4,hR4,hK4⟩:=hst;obtain⟨ao2,cap2,rfl⟩:=hP4.form)
   have hb4:Below w.heap.size w w4:=hb.trans (hK4.below hb.size (fun i hi e=>by unfold At at e;omega))
   have hO4:=hO.kept hK4 (fun i hi _ e=>by unfold At at e;omega)
   have hl4:rb<w4.heap.size:=Nat.lt_of_lt_of_le hl hK4.size;have hP4':bF w4 (rb+1) (.slice ao2 tps.length cap2) tps:=hP4.mono (by omega)
   have hOA:∀ o1 o2,iK ((w4.alloc o1).alloc o2) (rb+1) (.slice ao tv.length cap) tv:=fun o1 o2=>hO4.below (((Below.refl _ _).alloc (Nat.le_refl _) _).alloc (by simp) _)
   have hown4:∀ k',(Value.slice ao tv.length cap).ownBlock=some k'→rb+1≤k'∧k'<w4.heap.size:=hO4.row.lt;have hap:∀ x∈tv,∀ k',(Value.slice ao tv.length cap).ownBlock=some k'→x.2.ownBlock≠some k':=fun x hx k' hk'=>BF hO4.row (hO4.parts x hx) (by decide) k' hk'
   have hap2:∀ k',(Value.slice ao tv.length cap).ownBlock=some k'→(Value.slice ao2 tps.length cap2).ownBlock≠some k':=fun k' hk'=>BF hO4.row hP4' (by decide) k' hk'
   clear HW hb hO hl hK4 hP4 hE3 hG3;go_wp2_with (at_builtin;refine wpList_append_own _ rfl _ _ 71 rfl (rb+1) 113 i0 _ 3 40 Tryz.underlying71 hi0 hz0 hz1 hz2 rfl (by decide) _ _ _ rfl (hOA _ _).row ⟨w4.heap.size+1,0,none⟩ 1 1 [.int .i64 (tk:Int),.int .i64 (tp:Int),.slice ao2 tps.length cap2] rfl rfl ?c1 ?c2 ?c3 ?c4 ?c5 ?_)
   case c1=>exact cL (by simp)
   case c2 =>
    intro u hu;simp at hu
    rcases hu with rfl | rfl | rfl <;> rfl
   case c3=>unfold maxLen;omega
   case c4=>omega
   case c5=>simp;omega
   intro v' w5 hown' hgrow _;have hK5:aB (fun k'=>some k'=(Value.slice ao tv.length cap).ownBlock) w4 w5:=(((aB.refl _ _).alloc _).alloc _).grown hgrow (fun k' h _=>h.symm)
   have hR5:TRd w5 rb w.heap.size s n v4 j4:=⟨hR4.here.kept hK5 (fun e=>by have:=hown4 _ e.symm;omega),hR4.src.kept hK5 (fun e=>by have:=hown4 _ e.symm;omega),hR4.ne⟩
   have hb5:Below w.heap.size w w5:=hb4.trans (hK5.below hb4.size (fun i hi e=>by have:=hown4 _ e.symm;omega))
   have hO5:iK w5 (rb+1) v' (tv++[(⟨tk,tp,tps⟩,.slice ao2 tps.length cap2)]):=by
    refine ⟨?_,fun x hx=>?_⟩
    ·rw[List.length_append,List.flatMap_append];exact hown'
    ·rcases List.mem_append.1 hx with hx | hx
     ·exact (hO4.parts x hx).kept hK5 (fun k' hk' e=>hap x hx k' e.symm hk')
     ·rw[List.mem_singleton] at hx;subst hx;exact hP4'.kept hK5 (fun k' hk' e=>hap2 k' e.symm hk')
   have hc5:w5.cell? ⟨w4.heap.size,0,none⟩=some (.int .i64 (tk:Int)):=hgrow.cell (((Blk.newAt _ _ rfl).alloc _).cell 0 rfl) (fun e=>by have:=hown4 _ e.symm;exact absurd this.2 (by simp))
   have hl5:rb<w5.heap.size:=Nat.lt_of_lt_of_le hl4 hK5.size;clear hOA hown4 hown' hgrow hK5 hR4 hO4 hb4 hl4 hap hap2 hP4'
   by_cases hk0:tk=0
   ·subst hk0;have HT2:=(if_pos rfl).symm.trans HS2.out;have HR:=Ng (hgood.out _ v' w5 (by rw[← HT2,List.map_append];rfl) (hO5.mono (by omega)) hb5)
    go_wp2_with fail
    exact HR.out
   ·have hk1:((tk:Int)==0)=false:=by rw[beq_eq_false_iff_ne];omega
    have HT2:=Ng ((if_neg hk0).symm.trans HS2.out);have hn4':=hn4 hk0;go_wp2_with fail
    go_roundg (s.size+1 - n)
    case measure=>omega
    case rel=>exact⟨n,f,_,v4,j4,rfl,by omega,by omega,by simp;omega,hR5,hO5,hb5,hl5,Ng (by rw[← HT2.out,List.map_append];rfl)⟩
theorem L9 (s:ByteArray)(w:World)(hs:s.size≤8192)(sent:Nat→Addr)(hE:Env w sent)(ts:List aG)(hT:dA s.data.toList (s.size+1) 0 = .ok ts) :
  Calls Tryz.prog 40 #[.string s] w fun e w'=>∃ v tv,e = .returned (.tuple #[v,.nilIface])∧ts=tv.map (·.1)∧iK w' w.heap.size v tv∧Below w.heap.size w w' :=
 Dx s w hs sent hE _ (.ok ts) (Ng hT) (Ng fun tv v w' h1 h2 h3=>⟨v,tv,rfl,by cases h1;rfl,h2,h3⟩) (Ng fun c p b w' h1=>by cases h1)
theorem Lc (s:ByteArray)(w:World)(hs:s.size≤8192)(sent:Nat→Addr)(hE:Env w sent)(c p:Nat)(hT:dA s.data.toList (s.size+1) 0 = .error (c,p)) :
  Calls Tryz.prog 40 #[.string s] w fun e w'=>∃ b,e = .returned (.tuple #[.slice none 0 0,.iface 61 (.pointer (some ⟨b,0,none⟩))])∧bJ w' b sent c p∧Below w.heap.size w w' :=
 Dx s w hs sent hE _ (.error (c,p)) (Ng hT) (Ng fun tv v w' h1=>by cases h1) (Ng fun c' p' b w' h1 h2 h3=>by cases h1;exact⟨b,rfl,h2,h3⟩)
def qC (w:World) (g:Nat) (P:List aD):Prop:=∀ (i:Nat) (a:aD),P[i]?=some a→∀ (j:Nat) (u:Value),a.cells[j]?=some u→w.cell? ⟨g,i * 5+j,none⟩=some u
theorem qC.below {w w':World}{g:Nat}{P:List aD}(h:qC w g P)(hb:Below w.heap.size w w'):qC w' g P:=fun i a h1 j u h2=>aF hb (h i a h1 j u h2)
theorem qC.facts {w:World}{g:Nat}{P:List aD}(h:qC w g P)(i:Nat)(a:aD)(ha:P[i]?=some a) :
  w.cell? ⟨g,i * 5,none⟩=some (.int .i64 a.kind)∧w.cell? ⟨g,i * 5+1,none⟩=some (.int .i64 a.place)∧w.cell? ⟨g,i * 5+2,none⟩=some (.int .i64 a.num)∧w.cell? ⟨g,i * 5+3,none⟩=some (.bool a.quoted)∧w.cell? ⟨g,i * 5+4,none⟩=some (.string (bs a.text)) :=
 ⟨h i a ha 0 _ rfl,h i a ha 1 _ rfl,h i a ha 2 _ rfl,h i a ha 3 _ rfl,h i a ha 4 _ rfl⟩
def PSl (w:World) (v:Value) (P:List aD):Prop:=∃ ao cap,v = .slice ao P.length cap∧P.length≤cap∧cap≤maxLen∧(0<P.length→∃ g,ao=some ⟨g,0,none⟩∧g<w.heap.size∧qC w g P)
theorem PSl.below {w w':World}{v:Value}{P:List aD}(h:PSl w v P)(hb:Below w.heap.size w w'):PSl w' v P:=by
 obtain⟨ao,cap,h1,h2,h3,h4⟩:=h
 exact⟨ao,cap,h1,h2,h3,fun h0=>by
  obtain⟨g,e1,e2,e3⟩:=h4 h0;exact⟨g,e1,Nat.lt_of_lt_of_le e2 hb.size,e3.below hb⟩⟩
theorem bF.psl {w:World}{B:Nat}{v:Value}{P:List aD}(h:bF w B v P):PSl w v P:=by
 by_cases h0:0<P.length
 ·obtain⟨g,cap,hv,h1,h2,h3,h4,h5⟩:=kE h h0;refine ⟨_,cap,hv,h1,h2,fun _=>⟨g,rfl,h4,fun i a ha j u hu=>?_⟩⟩
  rw[Nat.mul_comm];exact h5 _ _ (mZ aD.cells 5 (fun _=>rfl) P i j a u ha hu)
 ·rcases h.2 with ⟨hv,hz⟩ | ⟨g,cap,cur,hv,_,_,hc1,hc2,_⟩
  ·exact⟨none,0,by rw[hv,hz],by omega,by unfold maxLen;omega,fun h=>absurd h h0⟩
  ·exact⟨_,cap,hv,hc1,hc2,fun h=>absurd h h0⟩
def rN (w:World) (g:Nat) (ts:List aG):Prop:=∀ (i:Nat) (t:aG),ts[i]?=some t→w.cell? ⟨g,i * 3,none⟩=some (.int .i64 t.kind)∧w.cell? ⟨g,i * 3+1,none⟩=some (.int .i64 t.place)∧∃ v2,w.cell? ⟨g,i * 3+2,none⟩=some v2∧PSl w v2 t.parts
theorem rN.below {w w':World}{g:Nat}{ts:List aG}(h:rN w g ts)(hb:Below w.heap.size w w'):rN w' g ts:=fun i t ht=>by
 obtain⟨h1,h2,v2,h3,h4⟩:=h i t ht;exact⟨aF hb h1,aF hb h2,v2,aF hb h3,h4.below hb⟩
theorem KR (s:ByteArray)(w:World)(hs:s.size≤8192)(sent:Nat→Addr)(hE:Env w sent)(ts:List aG)(hT:dA s.data.toList (s.size+1) 0 = .ok ts)(hne:0<ts.length) :
  Calls Tryz.prog 40 #[.string s] w fun e w'=>∃ g cap,e = .returned (.tuple #[.slice (some ⟨g,0,none⟩) ts.length cap,.nilIface])∧ts.length≤cap∧cap≤maxLen∧g<w'.heap.size∧rN w' g ts∧Below w.heap.size w w':=by
 refine (L9 s w hs sent hE ts hT).mono ?_;rintro e w' ⟨v,tv,rfl,rfl,hA,hb⟩;rw[List.length_map] at hne ⊢;obtain⟨g,cap,rfl,h1,h2,h3,h4,h5⟩:=kE hA.row hne;refine ⟨g,cap,rfl,h1,h2,h4,fun i t ht=>?_,hb⟩
 rw[List.getElem?_map] at ht
 cases hx:tv[i]? with
 | none=>rw[hx] at ht;cases ht
 | some x =>
  rw[hx] at ht
  cases ht
  have hc:∀ j u,(lR.cells x)[j]?=some u→w'.cell? ⟨g,i * 3+j,none⟩=some u:=fun j u hu=>by
   rw[Nat.mul_comm];exact h5 _ _ (mZ lR.cells 3 (fun _=>rfl) tv i j x u hx hu)
  exact⟨hc 0 _ rfl,hc 1 _ rfl,x.2,hc 2 _ rfl,(hA.parts x (List.mem_of_getElem? hx)).psl⟩
end Go.Proofs.YtbpjobmpacjgcaaGreatDoor
