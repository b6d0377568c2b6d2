/- The document's parser of dialect B: commands. -/
import Derived.Test.YtbplbehhlbkklaaGreatDoorGZSwitch
namespace Go.Proofs.YtbplbehhlbkklaaGreatDoor
open Go Go.RowKit
structure ZParts (b g cap:Nat) (ts:List BTok) (f0:Nat):Prop where
 block:∀ f',f'≤f0→ZDoes b g cap ts 112 0 (fun d=>zS d - 14) (pBlock ts f')
 betw:∀ f',f'≤f0→ZDoes b g cap ts 115 0 (fun d=>zS d - 14) (pBetw ts f')
 below:∀ f',f'≤f0→ZDoes b g cap ts 116 0 (fun d=>zS d - 19) (pBody ts f')
 list:∀ f',f'≤f0→ZDoes b g cap ts 20 1 (fun d=>zS d - 14) (pList ts f')
 simple:∀ f',f'≤f0→ZDoes b g cap ts 114 0 zS (pSimple ts f')
 turns:∀ f',f'≤f0→ZDoesT b g cap ts f'
 words:∀ f',f'≤f0→ZDoesWs b g cap ts f'
 word:∀ f',f'≤f0→ZDoesW b g cap ts f'
def choiceK (ts:List BTok) (f d:Nat) (c:Prog) (j:Nat):PRes Prog:=(pBody ts f d j).go fun yes k =>
   if keyAt ts k [101,108,115,101]=true then (pBody ts f d (skP ts k)).go fun no e=>pOk (newP 24 0 [] [c,yes,no]) e
   else pOk (newP 24 0 [] [c,yes,seqP []]) k
section
variable {b g cap:Nat} {ts:List BTok}
set_option maxHeartbeats 16000000
set_option maxRecDepth 100000
theorem zcommand_bad (w:World)(i _d:Nat)(dz:Int)(x:Nat×Nat)(s:Nat)(X:PRes Prog)(hi:i<ts.length)(hS:ZIn w b g cap ts i (some x)):Calls Tryz.prog 87 #[.pointer (some ⟨b,0,none⟩),.int .i64 dz] w (ZOutW w b g cap ts i (some x) s X):=by
 go_enter Tryz.func87,Tryz.ntmps87
 go_wp2_with fail
 refine (zbad_any hS).mono ?_;rintro e w1 ⟨rfl,rfl⟩;go_wp2_with fail
 refine (z12nop_any hS.blt).mono ?_;rintro e w2 ⟨v2,rfl,hN2,hb2⟩;obtain⟨g2,c2,rfl,-⟩:=id hN2;go_wp2_with fail
 go_ret;exact ZOutW.mk rfl hN2 (Tree.leaf _ _ _) (hS.below hb2) (Nat.le_refl _) hi (Kept.ofBelow hb2) ⟨rfl,by simp [newP]⟩
theorem zcommand_walk (F:ZFix cap ts)(f0:Nat)(hP:ZParts b g cap ts f0):ZDoes b g cap ts 87 0 zS (pCommand ts (f0+1)):=by
 intro w i d dz f hdz hi hS hX
 cases f with
 | some x=>exact zcommand_bad w i d dz x _ _ hi hS
 | none =>
  have hbl:=hS.blt;have hgl:=hS.glt;have hf3:=ztok_f3;have HP:=Lib.hid hP;clear hP;obtain⟨rfl,hd⟩:dz=(d:Int)∧d≤30:=by have:=hdz rfl;omega
  clear hdz;obtain⟨Y,hY⟩:∃ Y,pCommand ts (f0+1) d i=Y:=⟨_,rfl⟩;have HXN:=Lib.hid (show Y≠none from by rw[← hY];exact hX.out rfl)
  rw[hY];rw[pCommand] at hY;clear hX
  cases h8:isK ts i [8] with
  | true =>
   rw[h8,if_pos rfl] at hY;have H8:=Lib.hid (show ((none:Option (Nat×Nat)).isNone&&isK ts i [8])=true from h8)
   have HY:=Lib.hid hY
   have hbp:∀ a j,pBlock ts f0 d i=some (.ok (a,j))→a.length≤6 * (j - i):=fun a j h=>by
    have:=((postAll F.T.fix.good f0).block d i hi).1 a j h
    omega
   have HBP:=Lib.hid hbp;have HQ:=Lib.hid (show pBlock ts f0 d i≠none from go_ne (by rw[hY];exact HXN.out))
   have HB:=Lib.hid (HP.out.block f0 (Nat.le_refl _));have HT:=Lib.hid (HP.out.turns f0 (Nat.le_refl _));clear h8 hY hbp HP;go_enter Tryz.func87,Tryz.ntmps87
   go_wp2_with fail
   refine (zbad_any hS).mono ?_;rintro e w1 ⟨rfl,rfl⟩;rename World=>w
   go_wp2_with fail
   refine (zkind_any F hS hi 8 _ rfl).mono ?_;rintro e w1 ⟨rfl,hb1⟩;rw[H8.out];have h1:=hS.below hb1;have hK1:=Kept.ofBelow (S:=At b) hb1;clear hS hb1;go_wp2_with fail
   refine (HB.out w1 i d _ none (fun _=>⟨by omega,hd⟩) hi h1 (Lib.hid fun _=>HQ.out)).mono ?_
   rintro e w2 ⟨v2,c,i2,f2,rfl,hN2,hT2,h2,hle2,hlt2,hK2,hR2⟩;have hK12:=hK1.same hK2;obtain⟨g2,c2,rfl,-⟩:=id hN2;have HR2:=Lib.hid hR2
   have HT2:=Lib.hid (HT.out w2 i2 d _ f2 c _ (fun _=>⟨rfl,hd⟩) hlt2 h2 hN2 hT2 (by have h9:c.length≤6 * (i2 - i)+(zS d - 14):=rel_len hR2 HBP.out;have:=F.few;unfold zS at h9;omega) (Lib.hid fun e=>by
    subst e
    cases hq:pBlock ts f0 d i with
    | none=>exact absurd hq HQ.out
    | some r =>
     rw[hq] at hR2;have hy:=HY.out;rw[hq] at hy
     cases r with
     | error x=>exact absurd hR2.1 (by simp)
     | ok p =>
      obtain⟨a,j⟩:=p;obtain⟨-,rfl,rfl⟩:=hR2;rw[show pTurns ts f0 d i2 c []=Y from hy]
      exact HXN.out))
   clear h1 hK1 hK2 hN2 hR2 hT2;go_wp2_with fail
   refine HT2.out.mono ?_;rintro e w3 ⟨v3,l,i3,f3,rfl,hN3,hT3,h3,hle3,hlt3,hK3,hl3,hm3⟩;have HR:=Lib.hid (turns_rel hd HR2.out HBP.out hle2 hle3 (by omega) hl3 hm3)
   rw[HY.out] at HR;obtain⟨g3,c3,rfl,-⟩:=id hN3;clear hm3;go_wp2_with fail
   go_ret;exact ZOutW.mk rfl hN3 hT3 h3 (by omega) hlt3 (hK12.same hK3) HR.out
  | false =>
   rw[h8,if_neg (by simp)] at hY
   have H8:=Lib.hid (show ((none:Option (Nat×Nat)).isNone&&isK ts i [8])=false from h8)
   clear h8
   cases h18:isK ts i [18] with
   | false =>
    rw[h18,if_pos (.inl rfl)] at hY;have H18:=Lib.hid (show ((none:Option (Nat×Nat)).isNone&&isK ts i [18])=false from h18)
    have HY:=Lib.hid hY;clear hY h18;go_enter Tryz.func87,Tryz.ntmps87
    go_wp2_with fail
    refine (zbad_any hS).mono ?_;rintro e w1 ⟨rfl,rfl⟩;rename World=>w
    go_wp2_with fail
    refine (zkind_any F hS hi 8 _ rfl).mono ?_;rintro e w1 ⟨rfl,hb1⟩;rw[H8.out];have h1:=hS.below hb1;have hK1:=Kept.ofBelow (S:=At b) hb1;clear hS hb1;go_wp2_with fail
    refine (zkind_any F h1 hi 18 _ rfl).mono ?_;rintro e w3 ⟨rfl,hb3⟩;rw[(H18).out];have h3:=h1.below hb3;have hK3:=hK1.andBelow hb3;clear h1 hK1 hb3;go_wp2_with fail
    refine (HP.out.simple f0 (Nat.le_refl _) w3 i d _ none (fun _=>⟨by omega,hd⟩) hi h3 (Lib.hid fun _=>by rw[HY.out];exact HXN.out)).mono ?_
    rintro e w4 ⟨v4,l,i4,f4,rfl,hN4,hT4,h4,hle4,hlt4,hK4,hR4⟩;obtain⟨g4,c4,rfl,-⟩:=id hN4;rw[HY.out] at hR4;have HR4:=Lib.hid hR4;clear hR4;go_wp2_with fail
    go_ret;exact ZOutW.mk rfl hN4 hT4 h4 hle4 hlt4 (hK3.same hK4) HR4.out
   | true =>
    have H18:=Lib.hid (show ((none:Option (Nat×Nat)).isNone&&isK ts i [18])=true from h18)
    obtain⟨tx,htx⟩:∃ tx,(tkAt ts i).text=tx:=⟨_,rfl⟩;have HTX:=Lib.hid htx;rw[h18,htx] at hY;have hi0:(tkAt ts i).kind≠0:=by rw[isK_one,decide_eq_true_eq] at h18;omega
    obtain⟨hsk,hi1⟩:=skP_eq F.T.fix.good hi hi0
    cases hkb:keyB tx with
    | false =>
     rw[hkb,if_pos (.inr rfl)] at hY;have HY:=Lib.hid hY;have HKB:=Lib.hid hkb;clear hY h18 hkb htx;go_enter Tryz.func87,Tryz.ntmps87
     go_wp2_with fail
     refine (zbad_any hS).mono ?_;rintro e w1 ⟨rfl,rfl⟩;rename World=>w
     go_wp2_with fail
     refine (zkind_any F hS hi 8 _ rfl).mono ?_;rintro e w1 ⟨rfl,hb1⟩;rw[H8.out];have h1:=hS.below hb1;have hK1:=Kept.ofBelow (S:=At b) hb1;clear hS hb1;go_wp2_with fail
     refine (zkind_any F h1 hi 18 _ rfl).mono ?_;rintro e w3 ⟨rfl,hb3⟩;rw[(H18).out];have h3:=h1.below hb3;have hK3:=hK1.andBelow hb3;clear h1 hK1 hb3;go_wp2_with fail
     refine (znow_any F h3 hi).mono ?_;rintro e w4 ⟨rfl,hb4⟩;have h4:=h3.below hb4;have hK4:=hK3.andBelow hb4;unfold BTok.cells;rw[HTX.out];clear h3 hK3 hb4;go_wp2_with fail
     refine (z12Key_any _ w4).mono ?_;rintro e w3 ⟨rfl,rfl⟩;rename World=>w3
     rw[HKB.out];have h3:=h4;have hK3:=hK4;clear h4 hK4;go_wp2_with fail
     refine (HP.out.simple f0 (Nat.le_refl _) w3 i d _ none (fun _=>⟨by omega,hd⟩) hi h3 (Lib.hid fun _=>by rw[HY.out];exact HXN.out)).mono ?_
     rintro e w4 ⟨v4,l,i4,f4,rfl,hN4,hT4,h4,hle4,hlt4,hK4,hR4⟩;obtain⟨g4,c4,rfl,-⟩:=id hN4;rw[HY.out] at hR4;have HR4:=Lib.hid hR4;clear hR4;go_wp2_with fail
     go_ret;exact ZOutW.mk rfl hN4 hT4 h4 hle4 hlt4 (hK3.same hK4) HR4.out
    | true =>
     rw[hkb,if_neg (by simp)] at hY
     have HKB:=Lib.hid hkb;have HI0:=Lib.hid hi0;have HSK:=Lib.hid hsk;clear h18 hkb htx hi0
     by_cases q1:tx=[105,102]
     ·rw[if_pos q1] at hY;have HY:=Lib.hid hY;clear hY;subst q1;have hself:=bs_self [105,102];go_enter Tryz.func87,Tryz.ntmps87
      go_wp2_with fail
      refine (zbad_any hS).mono ?_;rintro e w1 ⟨rfl,rfl⟩;rename World=>w
      go_wp2_with fail
      refine (zkind_any F hS hi 8 _ rfl).mono ?_;rintro e w1 ⟨rfl,hb1⟩;rw[H8.out];have h1:=hS.below hb1;have hK1:=Kept.ofBelow (S:=At b) hb1;clear hS hb1;go_wp2_with fail
      refine (zkind_any F h1 hi 18 _ rfl).mono ?_;rintro e w3 ⟨rfl,hb3⟩;rw[(H18).out];have h3:=h1.below hb3;have hK3:=hK1.andBelow hb3;clear h1 hK1 hb3;go_wp2_with fail
      refine (znow_any F h3 hi).mono ?_;rintro e w4 ⟨rfl,hb4⟩;have h4:=h3.below hb4;have hK4:=hK3.andBelow hb4;unfold BTok.cells;rw[HTX.out];clear h3 hK3 hb4;go_wp2_with fail
      refine (z12Key_any _ w4).mono ?_;rintro e w3 ⟨rfl,rfl⟩;rename World=>w3
      rw[HKB.out];have h3:=h4;have hK3:=hK4;clear h4 hK4;go_wp2_with fail
      refine (znow_any F h3 hi).mono ?_;rintro e w4 ⟨rfl,hb4⟩;have h4:=h3.below hb4;have hK4:=hK3.andBelow hb4;unfold BTok.cells;rw[HTX.out];clear h3 hK3 hb4;rename World=>w3
      have h3:=h4;have hK3:=hK4;clear h4 hK4;go_wp2_with fail
      cases f0 with
      | zero=>exact absurd (HY.out.symm.trans (by rw[pChoice])) HXN.out
      | succ q =>
       cases q with
       | zero=>exact absurd (HY.out.symm.trans (by rw[pChoice,pTest];rfl)) HXN.out
       | succ r =>
        have A0:=(ZAcc.start (s:=0) hi HXN.out).next.same (fun _=>show Y=(pBetw ts r d (skP ts i)).go (choiceK ts (r+1) d) from by rw[← HY.out,pChoice,pTest_eq];rfl)
        rw[hsk] at A0;have hbp:=betw_post (f:=r) (d:=d) F hi HI0.out;rw[hsk] at hbp;have HBP:=Lib.hid hbp;have A0:=Lib.hid A0;clear hbp;refine (znext_any F h3 hi).mono ?_;rintro e w4 ⟨rfl,h4,hK4⟩;rw[HSK.out] at h4;have hK34:=hK3.same hK4;clear h3 hK3 hK4;go_wp2_with fail
        refine (HP.out.betw r (by omega) w4 (i+1) d _ none (fun _=>⟨by omega,hd⟩) hi1 h4 (Lib.hid A0.out.ask)).mono ?_
        rintro e w5 ⟨v5,a5,i5,f5,rfl,hN5,hT5,h5,hle5,hlt5,hK5,hR5⟩;obtain⟨g5,c5,rfl,-⟩:=id hN5;have A5:=Lib.hid (show ZAcc ts i Y (zS d - 14) i5 f5 [a5] (((choiceK ts (r+1) d)) a5 i5) from A0.out.call (zS d - 14) hR5 hT5 hle5 hlt5 HBP.out (by unfold zS;omega) (Nat.le_refl _))
        have hK35:=hK34.same hK5;have HN5:=Lib.hid hN5;clear h4 hK34 hK5 hR5 A0 hN5;go_wp2_with fail
        refine (HP.out.below (r+1) (by omega) w5 i5 d _ f5 (fun _=>⟨by omega,hd⟩) hlt5 h5 (Lib.hid (show f5=none→pBody ts (r+1) d i5≠none from A5.out.ask))).mono ?_
        rintro e w6 ⟨v6,a6,i6,f6,rfl,hN6,hT6,h6,hle6,hlt6,hK6,hR6⟩;obtain⟨g6,c6,rfl,-⟩:=id hN6;have hN56:=HN5.out.kept hK6;have hK36:=hK35.same hK6;have A5:=A5.out;clear h5 hK35 hK6 HN5;have A6:=Lib.hid (show ZAcc ts i Y (zS d - 13) i6 f6 [a5,a6] (if keyAt ts i6 [101,108,115,101]=true then (pBody ts (r+1) d (skP ts i6)).go fun no e=>pOk (newP 24 0 [] [a5,a6,no]) e else pOk (newP 24 0 [] [a5,a6,seqP []]) i6) from A5.call (zS d - 13) hR6 hT6 hle6 hlt6 (body_post F hlt5) (by unfold zS;omega) (by dsimp only;omega))
        have hle:=A6.out.le;have HN6:=Lib.hid hN6;have HN56:=Lib.hid hN56;clear A5 hR6 hN56 hN6;go_wp2_with fail
        refine (z12nop_any h6.blt).mono ?_;rintro e w7 ⟨v7,rfl,hN7,hb7⟩;have h7:=h6.below hb7;have hK7:=hK36.andBelow hb7;have HN6:=Lib.hid (HN6.out.below hb7);have HN56:=Lib.hid (HN56.out.below hb7);clear h6 hK36 hb7;obtain⟨g7,c7,rfl,-⟩:=id hN7;go_wp2_with fail
        refine (zkey_any F h7 hlt6 [101,108,115,101]).mono ?_;rintro e w8 ⟨rfl,hb8⟩;have h8:=h7.below hb8;have hK8:=hK7.andBelow hb8;have HN6:=Lib.hid (HN6.out.below hb8);have HN56:=Lib.hid (HN56.out.below hb8);have HN7:=Lib.hid (hN7.below hb8);clear h7 hK7 hb8 hN7
        by_cases hel:(f6.isNone&&keyAt ts i6 [101,108,115,101])=true
        ·rw[hel];have hel2:f6=none∧keyAt ts i6 [101,108,115,101]=true:=by simpa using hel
         obtain⟨rfl,hke⟩:=hel2;have A7:=Lib.hid ((A6.out.same (fun _=>if_pos hke)).next)
         clear A6 hel hke HN7;go_wp2_with fail
         refine (znext_any F h8 hlt6).mono ?_;rintro e w9 ⟨rfl,h9,hK9⟩;have hK89:=hK8.same hK9;have hlt7:=A7.out.lt;have HN6:=Lib.hid (HN6.out.kept hK9);have HN56:=Lib.hid (HN56.out.kept hK9);clear h8 hK8 hK9;go_wp2_with fail
         refine (HP.out.below (r+1) (by omega) w9 _ d _ none (fun _=>⟨by omega,hd⟩) hlt7 h9 (Lib.hid A7.out.ask)).mono ?_
         rintro e wA ⟨vA,aA,iA,fA,rfl,hNA,hTA,hA,hleA,hltA,hKA,hRA⟩;obtain⟨gA,cA,rfl,-⟩:=id hNA;have hK8A:=hK89.same hKA;have AA:ZAcc ts i Y (zS d - 12) iA fA [a5,a6,aA] (pOk (newP 24 0 [] [a5,a6,aA]) iA):=A7.out.call (zS d - 12) hRA hTA hleA hltA (body_post F hlt7) (by unfold zS;omega) (by dsimp only;omega)
         have HR:=Lib.hid ((AA.node (kd:=24) (n:=0) (t:=[]) fun _=>rfl).mono (show zS d - 12+1≤zS d from by unfold zS;omega))
         have HC:=Lib.hid (z12node_any 24 0 [] [a5,a6,aA] _ (by have:=hA.blt;simp;omega) (KSl.new3 (w:=wA) hA.blt (.inl (HN56.out.kept hKA)) (.inl (HN6.out.kept hKA)) (.inl hNA)) (by have:=AA.small F (by unfold zS;omega);omega) (by simp))
         have hle9:=AA.le;have HTR:=Lib.hid (Tree.three (kind:=24) (n:=0) (s:=[]) hT5 hT6 hTA);clear A7 AA hRA HN6 HN56 hNA;go_wp2_with fail
         refine HC.out.mono ?_;rintro e wB ⟨vB,rfl,hNB,hbB⟩;have hbB:=bNext ((Below.refl _ _).alloc (Nat.le_refl _) _) hbB;obtain⟨gB,cB,rfl,-⟩:=id hNB;go_wp2_with fail
         go_ret;exact ZOutW.mk rfl hNB HTR.out (hA.below hbB) hle9 hltA (hK8A.andBelow hbB) HR.out
        ·have hel:(f6.isNone&&keyAt ts i6 [101,108,115,101])=false:=by simpa using hel
         rw[hel]
         have HR:=Lib.hid ((A6.out.leaf (a:=newP 20 0 [] []) (kd:=24) (n:=0) (t:=[]) rfl (fun e=>by
          subst e;rw[if_neg (by simpa using hel)]
          rfl)).mono (show zS d - 13+2≤zS d from by unfold zS;omega))
         have HC:=Lib.hid (z12node_any 24 0 [] [a5,a6,newP 20 0 [] []] _ (by have:=h8.blt;simp;omega) (KSl.new3 (w:=w8) h8.blt (.inl HN56.out) (.inl HN6.out) (.inl HN7.out)) (by have:=A6.out.small F (by unfold zS;omega);simp [newP] at this ⊢;omega) (by simp))
         have HTR:=Lib.hid (Tree.three (kind:=24) (n:=0) (s:=[]) hT5 hT6 (Tree.leaf 20 0 []));clear A6 hel HN6 HN56 HN7;generalize (newP 20 0 [] []).length=ln at *;go_wp2_with fail
         refine HC.out.mono ?_;rintro e wB ⟨vB,rfl,hNB,hbB⟩;have hbB:=bNext ((Below.refl _ _).alloc (Nat.le_refl _) _) hbB;obtain⟨gB,cB,rfl,-⟩:=id hNB;go_wp2_with fail
         go_ret;exact ZOutW.mk rfl hNB HTR.out (h8.below hbB) hle hlt6 (hK8.andBelow hbB) HR.out
     ·rw[if_neg q1] at hY;have e1:=bs_is q1;clear q1
      by_cases q2:tx=[119,104,105,108,101]
      ·rw[if_pos q2] at hY;have HY:=Lib.hid hY;clear hY;subst q2;have hself:=bs_self [119,104,105,108,101];go_enter Tryz.func87,Tryz.ntmps87
       go_wp2_with fail
       refine (zbad_any hS).mono ?_;rintro e w1 ⟨rfl,rfl⟩;rename World=>w
       go_wp2_with fail
       refine (zkind_any F hS hi 8 _ rfl).mono ?_;rintro e w1 ⟨rfl,hb1⟩;rw[H8.out];have h1:=hS.below hb1;have hK1:=Kept.ofBelow (S:=At b) hb1;clear hS hb1;go_wp2_with fail
       refine (zkind_any F h1 hi 18 _ rfl).mono ?_;rintro e w3 ⟨rfl,hb3⟩;rw[(H18).out];have h3:=h1.below hb3;have hK3:=hK1.andBelow hb3;clear h1 hK1 hb3;go_wp2_with fail
       refine (znow_any F h3 hi).mono ?_;rintro e w4 ⟨rfl,hb4⟩;have h4:=h3.below hb4;have hK4:=hK3.andBelow hb4;unfold BTok.cells;rw[HTX.out];clear h3 hK3 hb4;go_wp2_with fail
       refine (z12Key_any _ w4).mono ?_;rintro e w3 ⟨rfl,rfl⟩;rename World=>w3
       rw[HKB.out];have h3:=h4;have hK3:=hK4;clear h4 hK4;go_wp2_with fail
       refine (znow_any F h3 hi).mono ?_;rintro e w4 ⟨rfl,hb4⟩;have h4:=h3.below hb4;have hK4:=hK3.andBelow hb4;unfold BTok.cells;rw[HTX.out];clear h3 hK3 hb4;rename World=>w3
       have h3:=h4;have hK3:=hK4;clear h4 hK4;go_wp2_with fail
       cases f0 with
       | zero=>exact absurd (HY.out.symm.trans (by rw[pWhile])) HXN.out
       | succ q =>
        cases q with
        | zero=>exact absurd (HY.out.symm.trans (by rw[pWhile,pTest];rfl)) HXN.out
        | succ r =>
         have A0:=(ZAcc.start (s:=0) hi HXN.out).next.same (fun _=>show Y=(pBetw ts r d (skP ts i)).go (fun c j=>(pBody ts (r+1) d j).go fun l e=>pOk (newP 28 0 [] [c,l]) e) from by rw[← HY.out,pWhile,pTest_eq])
         rw[hsk] at A0;have hbp:=betw_post (f:=r) (d:=d) F hi HI0.out;rw[hsk] at hbp;have HBP:=Lib.hid hbp;have A0:=Lib.hid A0;clear hbp;refine (znext_any F h3 hi).mono ?_;rintro e w4 ⟨rfl,h4,hK4⟩;rw[HSK.out] at h4;have hK34:=hK3.same hK4;clear h3 hK3 hK4;go_wp2_with fail
         refine (HP.out.betw r (by omega) w4 (i+1) d _ none (fun _=>⟨by omega,hd⟩) hi1 h4 (Lib.hid A0.out.ask)).mono ?_
         rintro e w5 ⟨v5,a5,i5,f5,rfl,hN5,hT5,h5,hle5,hlt5,hK5,hR5⟩;obtain⟨g5,c5,rfl,-⟩:=id hN5;have A5:=Lib.hid (show ZAcc ts i Y (zS d - 14) i5 f5 [a5] (((fun c j=>(pBody ts (r+1) d j).go fun l e=>pOk (newP 28 0 [] [c,l]) e)) a5 i5) from A0.out.call (zS d - 14) hR5 hT5 hle5 hlt5 HBP.out (by unfold zS;omega) (Nat.le_refl _))
         have hK35:=hK34.same hK5;have HN5:=Lib.hid hN5;clear h4 hK34 hK5 hR5 A0 hN5;go_wp2_with fail
         refine (HP.out.below (r+1) (by omega) w5 i5 d _ f5 (fun _=>⟨by omega,hd⟩) hlt5 h5 (Lib.hid (show f5=none→pBody ts (r+1) d i5≠none from A5.out.ask))).mono ?_
         rintro e w6 ⟨v6,a6,i6,f6,rfl,hN6,hT6,h6,hle6,hlt6,hK6,hR6⟩;obtain⟨g6,c6,rfl,-⟩:=id hN6;have hN56:=HN5.out.kept hK6;have hK36:=hK35.same hK6;have A5:=A5.out;clear h5 hK35 hK6 HN5;have A6:ZAcc ts i Y (zS d - 13) i6 f6 [a5,a6] (pOk (newP 28 0 [] [a5,a6]) i6):=A5.call (zS d - 13) hR6 hT6 hle6 hlt6 (body_post F hlt5) (by unfold zS;omega) (by dsimp only;omega)
         have HR:=Lib.hid ((A6.node (kd:=28) (n:=0) (t:=[]) fun _=>rfl).mono (show zS d - 13+1≤zS d from by unfold zS;omega))
         have HC:=Lib.hid (z12node_any 28 0 [] [a5,a6] _ (by have:=h6.blt;simp;omega) (KSl.new2 (w:=w6) h6.blt (.inl hN56) (.inl hN6)) (by have:=A6.small F (by unfold zS;omega);omega) (by simp))
         have hle:=A6.le;have HTR:=Lib.hid (Tree.two (kind:=28) (n:=0) (s:=[]) hT5 hT6);clear A5 A6 hR6 hN56;go_wp2_with fail
         refine HC.out.mono ?_;rintro e w7 ⟨v7,rfl,hN7,hb7⟩;have hb7:=bNext ((Below.refl _ _).alloc (Nat.le_refl _) _) hb7;obtain⟨g7,c7,rfl,-⟩:=id hN7;go_wp2_with fail
         go_ret;exact ZOutW.mk rfl hN7 HTR.out (h6.below hb7) hle hlt6 (hK36.andBelow hb7) HR.out
      ·rw[if_neg q2] at hY;have e2:=bs_is q2;clear q2
       by_cases q3:tx=[102,111,114]
       ·rw[if_pos q3] at hY;have HY:=Lib.hid hY;clear hY;subst q3;have hself:=bs_self [102,111,114];go_enter Tryz.func87,Tryz.ntmps87
        go_wp2_with fail
        refine (zbad_any hS).mono ?_;rintro e w1 ⟨rfl,rfl⟩;rename World=>w
        go_wp2_with fail
        refine (zkind_any F hS hi 8 _ rfl).mono ?_;rintro e w1 ⟨rfl,hb1⟩;rw[H8.out];have h1:=hS.below hb1;have hK1:=Kept.ofBelow (S:=At b) hb1;clear hS hb1;go_wp2_with fail
        refine (zkind_any F h1 hi 18 _ rfl).mono ?_;rintro e w3 ⟨rfl,hb3⟩;rw[(H18).out];have h3:=h1.below hb3;have hK3:=hK1.andBelow hb3;clear h1 hK1 hb3;go_wp2_with fail
        refine (znow_any F h3 hi).mono ?_;rintro e w4 ⟨rfl,hb4⟩;have h4:=h3.below hb4;have hK4:=hK3.andBelow hb4;unfold BTok.cells;rw[HTX.out];clear h3 hK3 hb4;go_wp2_with fail
        refine (z12Key_any _ w4).mono ?_;rintro e w3 ⟨rfl,rfl⟩;rename World=>w3
        rw[HKB.out];have h3:=h4;have hK3:=hK4;clear h4 hK4;go_wp2_with fail
        refine (znow_any F h3 hi).mono ?_;rintro e w4 ⟨rfl,hb4⟩;have h4:=h3.below hb4;have hK4:=hK3.andBelow hb4;unfold BTok.cells;rw[HTX.out];clear h3 hK3 hb4;rename World=>w3
        have h3:=h4;have hK3:=hK4;clear h4 hK4;go_wp2_with fail
        cases f0 with
        | zero=>exact absurd (HY.out.symm.trans (by rw[pEach])) HXN.out
        | succ q =>
         have A0:=(ZAcc.start (s:=0) hi HXN.out).next.same (fun _=>show Y=takeP ts (skP ts i) [6] (fun a=>if isK ts a [18]=true∧nameB (tkAt ts a).text=true then eachK ts q d (tkAt ts a).text (skP ts a) else formP ts a) from by rw[← HY.out,pEach];rfl)
         rw[hsk] at A0;have A1:=A0.want F;have A2:=A1.named F (K:=eachK ts q d);have hle4:=wantI_le F hi1 none 6;have hle5:=named_le (ts:=ts) hle4.2 (wantF ts (i+1) none 6);have hlt5:=A2.lt;have A2:=Lib.hid A2;clear A0 A1;refine (znext_any F h3 hi).mono ?_;rintro e w4 ⟨rfl,h4,hK4⟩;rw[HSK.out] at h4;have hK34:=hK3.same hK4;clear h3 hK3 hK4;go_wp2_with fail
         refine (zwant_any F h4 hi1 6 _ rfl).mono ?_;rintro e w5 ⟨rfl,h5,hK5⟩;have hK35:=hK34.same hK5;generalize wantI ts (i+1) none 6=i4 at *;generalize wantF ts (i+1) none 6=f4 at *;clear h4 hK34 hK5;go_wp2_with fail
         refine (znamed_any F h5 hle4.2).mono ?_;rintro e w6 ⟨rfl,h6,hK6⟩;have hK36:=hK35.same hK6;generalize namedI ts i4 f4=i5 at *;generalize namedF ts i4 f4=f5 at *;generalize namedS ts i4 f4=nm at *;clear h5 hK35 hK6;go_wp2_with fail
         refine (zkey_any F h6 hlt5 [105,110]).mono ?_;rintro e w7 ⟨rfl,hb7⟩;have h7:=h6.below hb7;have hK7:=hK36.andBelow hb7;clear h6 hK36 hb7
         by_cases hin:(f5.isNone&&keyAt ts i5 [105,110])=true
         ·rw[hin];have hin2:f5=none∧keyAt ts i5 [105,110]=true:=by simpa using hin
          obtain⟨rfl,hke⟩:=hin2;have A3:=Lib.hid (A2.out.same (fun _=>if_pos hke)).next
          clear A2 hin hke;go_wp2_with fail
          refine (znext_any F h7 hlt5).mono ?_;rintro e w9 ⟨rfl,h9,hK9⟩;have hK79:=hK7.same hK9;have hlt7:=A3.out.lt;have hle7:i5≤skP ts i5:=by have:=skP_le (ts:=ts) hlt5;unfold skP at this ⊢;omega
          have A3:=Lib.hid (A3.out.same (R':=((pWords ts q d (skP ts i5) 0 []).go fun l j=>pOk (catP l) j).go fun a j2=>takeP ts j2 [7] fun b=>(pBody ts q d b).go fun l e=>pOk (newP 29 0 nm [a,l]) e) fun _=>by rw[go_go];rfl)
          generalize skP ts i5=i7 at *;clear h7 hK7 hK9;go_wp2_with fail
          refine (HP.out.words q (by omega) w9 i7 d _ none 0 (by omega) (fun _=>⟨rfl,hd⟩) hlt7 h9 (Lib.hid fun e=>go_ne (A3.out.ask e))).mono ?_
          rintro e wA ⟨vA,aA,iA,fA,rfl,hNA,hTA,hA,hleA,hltA,hKA,hRA⟩;obtain⟨gA,cA,rfl,-⟩:=id hNA;have hK7A:=hK79.same hKA;have AA:=(A3.out.callW (zS d - 10) hRA hTA hleA hltA (fun a j _ h=>by have:=cat_post F hlt7 a j h;simp;omega) (by unfold zS;omega) (Nat.le_refl _)).want F
          have HAA:=Lib.hid (show ZAcc ts i Y (zS d - 10) (wantI ts iA fA 7) (wantF ts iA fA 7) [aA] ((pBody ts q d (wantI ts iA fA 7)).go fun l e=>pOk (newP 29 0 nm [aA,l]) e) from AA)
          have hltB:=AA.lt;clear A3 hRA hK79 hKA h9 AA;go_wp2_with fail
          refine (zwant_any F hA hltA 7 _ rfl).mono ?_;rintro e wB ⟨rfl,hB,hKB⟩;have hK7B:=hK7A.same hKB;have HNB:=Lib.hid (hNA.kept hKB);generalize wantI ts iA fA 7=iB at *;generalize wantF ts iA fA 7=fB at *;clear hA hK7A hKB hNA;go_wp2_with fail
          refine (HP.out.below q (by omega) wB iB d _ fB (fun _=>⟨by omega,hd⟩) hltB hB (Lib.hid HAA.out.ask)).mono ?_
          rintro e wC ⟨vC,aC,iC,fC,rfl,hNC,hTC,hC,hleC,hltC,hKC,hRC⟩;obtain⟨gC,cC,rfl,-⟩:=id hNC;have hK7C:=hK7B.same hKC;have AC:ZAcc ts i Y (zS d - 9) iC fC [aA,aC] (pOk (newP 29 0 nm [aA,aC]) iC):=HAA.out.call (zS d - 9) hRC hTC hleC hltC (body_post F hltB) (by unfold zS;omega) (by dsimp only;omega)
          have HR:=Lib.hid ((AC.node (kd:=29) (n:=0) (t:=nm) fun _=>rfl).mono (show zS d - 9+1≤zS d from by unfold zS;omega))
          have HC:=Lib.hid (z12node_any 29 0 nm [aA,aC] _ (by have:=hC.blt;simp;omega) (KSl.new2 (w:=wC) hC.blt (.inl (HNB.out.kept hKC)) (.inl hNC)) (by have:=AC.small F (by unfold zS;omega);omega) (by simp))
          have hle:=AC.le;have HTR:=Lib.hid (Tree.two (kind:=29) (n:=0) (s:=nm) hTA hTC);clear AC HAA hRC HNB hNC hB hK7B hKC;go_wp2_with fail
          refine HC.out.mono ?_;rintro e wD ⟨vD,rfl,hND,hbD⟩;have hbD:=bNext ((Below.refl _ _).alloc (Nat.le_refl _) _) hbD;obtain⟨gD,cD,rfl,-⟩:=id hND;go_wp2_with fail
          go_ret;exact ZOutW.mk rfl hND HTR.out (hC.below hbD) hle hltC (hK7C.andBelow hbD) HR.out
         ·have hin:(f5.isNone&&keyAt ts i5 [105,110])=false:=by simpa using hin
          rw[hin]
          have A3:=Lib.hid (A2.out.fail (R':=(pWords ts q d (skP ts i5) 0 []).go fun ws j2=>takeP ts j2 [7] fun b=>(pBody ts q d b).go fun l e=>pOk (newP 29 0 nm [catP ws,l]) e) (fun e=>by
           subst e;exact if_neg (by simpa using hin))).next
          clear A2 hin;go_wp2_with fail
          refine (zwrong_any F h7 hlt5).mono ?_;rintro e w8 ⟨rfl,h8,hK8⟩;have hK78:=hK7.same hK8;clear h7 hK7 hK8;rename World=>w7
          have h7:=h8;have hK7:=hK78;clear h8 hK78;generalize f5.or (some (formF ts i5))=f6 at *;go_wp2_with fail
          refine (znext_any F h7 hlt5).mono ?_;rintro e w9 ⟨rfl,h9,hK9⟩;have hK79:=hK7.same hK9;have hlt7:=A3.out.lt;have hle7:i5≤skP ts i5:=by have:=skP_le (ts:=ts) hlt5;unfold skP at this ⊢;omega
          have A3:=Lib.hid (A3.out.same (R':=((pWords ts q d (skP ts i5) 0 []).go fun l j=>pOk (catP l) j).go fun a j2=>takeP ts j2 [7] fun b=>(pBody ts q d b).go fun l e=>pOk (newP 29 0 nm [a,l]) e) fun _=>by rw[go_go];rfl)
          generalize skP ts i5=i7 at *;clear h7 hK7 hK9;go_wp2_with fail
          refine (HP.out.words q (by omega) w9 i7 d _ f6 0 (by omega) (fun _=>⟨rfl,hd⟩) hlt7 h9 (Lib.hid fun e=>go_ne (A3.out.ask e))).mono ?_
          rintro e wA ⟨vA,aA,iA,fA,rfl,hNA,hTA,hA,hleA,hltA,hKA,hRA⟩;obtain⟨gA,cA,rfl,-⟩:=id hNA;have hK7A:=hK79.same hKA;have AA:=(A3.out.callW (zS d - 10) hRA hTA hleA hltA (fun a j _ h=>by have:=cat_post F hlt7 a j h;simp;omega) (by unfold zS;omega) (Nat.le_refl _)).want F
          have HAA:=Lib.hid (show ZAcc ts i Y (zS d - 10) (wantI ts iA fA 7) (wantF ts iA fA 7) [aA] ((pBody ts q d (wantI ts iA fA 7)).go fun l e=>pOk (newP 29 0 nm [aA,l]) e) from AA)
          have hltB:=AA.lt;clear A3 hRA hK79 hKA h9 AA;go_wp2_with fail
          refine (zwant_any F hA hltA 7 _ rfl).mono ?_;rintro e wB ⟨rfl,hB,hKB⟩;have hK7B:=hK7A.same hKB;have HNB:=Lib.hid (hNA.kept hKB);generalize wantI ts iA fA 7=iB at *;generalize wantF ts iA fA 7=fB at *;clear hA hK7A hKB hNA;go_wp2_with fail
          refine (HP.out.below q (by omega) wB iB d _ fB (fun _=>⟨by omega,hd⟩) hltB hB (Lib.hid HAA.out.ask)).mono ?_
          rintro e wC ⟨vC,aC,iC,fC,rfl,hNC,hTC,hC,hleC,hltC,hKC,hRC⟩;obtain⟨gC,cC,rfl,-⟩:=id hNC;have hK7C:=hK7B.same hKC;have AC:ZAcc ts i Y (zS d - 9) iC fC [aA,aC] (pOk (newP 29 0 nm [aA,aC]) iC):=HAA.out.call (zS d - 9) hRC hTC hleC hltC (body_post F hltB) (by unfold zS;omega) (by dsimp only;omega)
          have HR:=Lib.hid ((AC.node (kd:=29) (n:=0) (t:=nm) fun _=>rfl).mono (show zS d - 9+1≤zS d from by unfold zS;omega))
          have HC:=Lib.hid (z12node_any 29 0 nm [aA,aC] _ (by have:=hC.blt;simp;omega) (KSl.new2 (w:=wC) hC.blt (.inl (HNB.out.kept hKC)) (.inl hNC)) (by have:=AC.small F (by unfold zS;omega);omega) (by simp))
          have hle:=AC.le;have HTR:=Lib.hid (Tree.two (kind:=29) (n:=0) (s:=nm) hTA hTC);clear AC HAA hRC HNB hNC hB hK7B hKC;go_wp2_with fail
          refine HC.out.mono ?_;rintro e wD ⟨vD,rfl,hND,hbD⟩;have hbD:=bNext ((Below.refl _ _).alloc (Nat.le_refl _) _) hbD;obtain⟨gD,cD,rfl,-⟩:=id hND;go_wp2_with fail
          go_ret;exact ZOutW.mk rfl hND HTR.out (hC.below hbD) hle hltC (hK7C.andBelow hbD) HR.out
       ·rw[if_neg q3] at hY;have e3:=bs_is q3;clear q3
        by_cases q4:tx=[115,119,105,116,99,104]
        ·rw[if_pos q4] at hY;have HY:=Lib.hid hY;clear hY;subst q4;have hself:=bs_self [115,119,105,116,99,104];go_enter Tryz.func87,Tryz.ntmps87
         go_wp2_with fail
         refine (zbad_any hS).mono ?_;rintro e w1 ⟨rfl,rfl⟩;rename World=>w
         go_wp2_with fail
         refine (zkind_any F hS hi 8 _ rfl).mono ?_;rintro e w1 ⟨rfl,hb1⟩;rw[H8.out];have h1:=hS.below hb1;have hK1:=Kept.ofBelow (S:=At b) hb1;clear hS hb1;go_wp2_with fail
         refine (zkind_any F h1 hi 18 _ rfl).mono ?_;rintro e w3 ⟨rfl,hb3⟩;rw[(H18).out];have h3:=h1.below hb3;have hK3:=hK1.andBelow hb3;clear h1 hK1 hb3;go_wp2_with fail
         refine (znow_any F h3 hi).mono ?_;rintro e w4 ⟨rfl,hb4⟩;have h4:=h3.below hb4;have hK4:=hK3.andBelow hb4;unfold BTok.cells;rw[HTX.out];clear h3 hK3 hb4;go_wp2_with fail
         refine (z12Key_any _ w4).mono ?_;rintro e w3 ⟨rfl,rfl⟩;rename World=>w3
         rw[HKB.out];have h3:=h4;have hK3:=hK4;clear h4 hK4;go_wp2_with fail
         refine (znow_any F h3 hi).mono ?_;rintro e w4 ⟨rfl,hb4⟩;have h4:=h3.below hb4;have hK4:=hK3.andBelow hb4;unfold BTok.cells;rw[HTX.out];clear h3 hK3 hb4;rename World=>w3
         have h3:=h4;have hK3:=hK4;clear h4 hK4;go_wp2_with fail
         cases f0 with
         | zero=>exact absurd (HY.out.symm.trans (by rw[pChoose])) HXN.out
         | succ q =>
          obtain⟨k0,hk0,hk1,hk2,hk3⟩:=info_parts infoNodes;have A0:=(ZAcc.start (s:=0) hi HXN.out).next.same (fun _=>show Y=takeP ts (skP ts i) [6] (chooseK ts q d) from by rw[← HY.out,pChoose];rfl)
          rw[hsk] at A0;have A1:=Lib.hid (A0.want F);have hle4:=wantI_le F hi1 none 6;clear A0;refine (znext_any F h3 hi).mono ?_;rintro e w4 ⟨rfl,h4,hK4⟩;rw[HSK.out] at h4;have hK34:=hK3.same hK4;clear h3 hK3 hK4;go_wp2_with fail
          refine (zwant_any F h4 hi1 6 _ rfl).mono ?_;rintro e w5 ⟨rfl,h5,hK5⟩;have hK35:=hK34.same hK5;generalize wantI ts (i+1) none 6=i4 at *;generalize wantF ts (i+1) none 6=f4 at *;clear h4 hK34 hK5;go_wp2_with fail
          refine (HP.out.word q (by omega) w5 i4 d _ f4 0 (by omega) (fun _=>⟨rfl,hd⟩) hle4.2 h5 (Lib.hid A1.out.ask)).mono ?_
          rintro e wA ⟨vA,aA,iA,fA,rfl,hNA,hTA,hA,hleA,hltA,hKA,hRA⟩;obtain⟨gA,cA,rfl,-⟩:=id hNA;have hK3A:=hK35.same hKA
          have hwp:∀ a j,pWord ts q d i4 0=some (.ok (a,j))→a.length+1≤6 * (j - i4):=fun a j h=>by
           have:=((postAll F.T.fix.good q).word d i4 0 hle4.2).1 a j h
           omega
          have A2:=Lib.hid ((A1.out.call (zS d - 11) hRA hTA hleA hltA (fun a j h=>by have:=hwp a j h;omega) (by unfold zS;omega) (Nat.le_refl _)).flat (fun e=>by
           subst e;have:=hwp _ _ (rel_none hRA)
           omega))
          have A3:=Lib.hid (show ZAcc ts i Y (zS d - 11+1) (wantI ts iA fA 7) (wantF ts iA fA 7) [newP 9 0 [] [aA]] (takeP ts (passT ts [1] (wantI ts iA fA 7)) [8] fun c=>(pCases ts q d (passT ts [1,2] c) [newP 9 0 [] [aA]]).go (caseK ts q d)) from A2.out.want F)
          have hleB:=wantI_le F hltA fA 7;have HC1:=Lib.hid (z12node_any 9 0 [] [aA] _ (by have:=hA.blt;simp;omega) (KSl.new1 hA.blt (.inl hNA)) (by have:=A2.out.size;have:=A2.out.lt;have:=F.few;rw[List.flatten_cons,List.length_append,len_newP] at *;simp at *;unfold zS at *;split at * <;> omega) (by simp))
          clear A1 A2 hRA hwp h5 hK35 hKA hNA;go_wp2_with fail
          refine HC1.out.mono ?_;rintro e wB ⟨vB,rfl,hNB,hbB⟩;have hbB:=bNext ((Below.refl _ _).alloc (Nat.le_refl _) _) hbB;have hB:=hA.below hbB;have hK3B:=hK3A.andBelow hbB;obtain⟨gB,cB,rfl,-⟩:=id hNB;have hOB:=KOwn.only (B:=w.heap.size) hK3B.size hNB;have hbC:Below wB.heap.size wB (wB.alloc (.cells #[.slice (some ⟨gB,0,none⟩) (newP 9 0 [] [aA]).length cB] 23)):=(Below.refl _ wB).alloc (Nat.le_refl _) _;have hC:=hB.below hbC;have hK3C:=hK3B.andBelow hbC;clear hA hK3A hbB hB hK3B hbC HC1 hNB;have A4:=Lib.hid (A3.out.lines (R:=fun b=>takeP ts b [8] fun c=>(pCases ts q d (passT ts [1,2] c) [newP 9 0 [] [aA]]).go (caseK ts q d)) [1])
          have hleC:=lines_le hleB.2 (wantF ts iA fA 7) [1];have hltC:=A4.out.lt;have A5:=Lib.hid (A4.out.want F);have hleD:=wantI_le F hltC (wantF ts iA fA 7) 8;clear A3 A4;go_wp2_with fail
          refine (zwant_any F hC hltA 7 _ rfl).mono ?_;rintro e wD ⟨rfl,hD,hKD⟩;have hOD:=hOB.kept hbl hKD;have hK3D:=hK3C.same hKD;generalize wantI ts iA fA 7=iB at *;generalize wantF ts iA fA 7=fB at *;clear hC hOB hK3C hKD;go_wp2_with fail
          refine (zlines_any F hD hleB.2 false).mono ?_;rintro e wE ⟨rfl,hE,hKE⟩;replace hE:ZIn wE b g cap ts (linesI ts iB fB [1]) fB:=hE;have hOE:=hOD.kept hbl hKE;have hK3E:=hK3D.same hKE;generalize linesI ts iB fB [1]=iC at *;clear hD hOD hK3D hKE;have A6:=A5.out.lines (R:=fun c=>(pCases ts q d c [newP 9 0 [] [aA]]).go (caseK ts q d)) [1,2]
          have hleF:=lines_le hleD.2 (wantF ts iC fB 8) [1,2];have HCA0:=Lib.hid (show CasesAt ts q d i Y (linesI ts (wantI ts iC fB 8) (wantF ts iC fB 8) [1,2]) (wantF ts iC fB 8) [newP 9 0 [] [aA]] from ⟨by omega,by simp;omega,q,Nat.le_refl _,A6.mono (by unfold zS;omega)⟩)
          clear A5 A6;go_wp2_with fail
          refine (zwant_any F hE hltC 8 _ rfl).mono ?_;rintro e wF ⟨rfl,hF,hKF⟩;have hOF:=hOE.kept hbl hKF;have hK3F:=hK3E.same hKF;generalize wantI ts iC fB 8=iD at *;generalize wantF ts iC fB 8=fD at *;clear hE hOE hK3E hKF;go_wp2_with fail
          refine (zlines_any F hF hleD.2 true).mono ?_;rintro e wG ⟨rfl,hG,hKG⟩;replace hG:ZIn wG b g cap ts (linesI ts iD fD [1,2]) fD:=hG;have hOG:=hOF.kept hbl hKG;have hK3G:=hK3F.same hKG;generalize linesI ts iD fD [1,2]=k1 at *;clear hF hOF hK3F hKG;go_wp2_with fail
          go_loopg [12] (if fD=none then ts.length - k1+1 else 0) (fun m s12 wr=>∃ (k:Nat) (f1:Option (Nat×Nat)) (L:List Prog),m=(if f1=none then ts.length - k+1 else 0)∧KOwn wr w.heap.size b s12 L∧ZIn wr b g cap ts k f1∧Kept (At b) w wr∧Hid (CasesAt ts q d i Y k f1 L))
          case atStart=>exact⟨k1,fD,[newP 9 0 [] [aA]],rfl,hOG,hG,hK3G,HCA0⟩
          case round =>
           clear hOG hG hK3G HCA0;obtain⟨k,f1,L,rfl,hO4,h4,hK4,HCA⟩:=hrel;obtain⟨ra,rc,rfl⟩:=hO4.form;have hge4:=HCA.out.1
           have hlt4:k<ts.length:=by
            obtain⟨-,-,fk,-,hz⟩:=HCA.out;exact hz.lt
           have hnum4:L.length≤2000:=by have:=HCA.out.2.1;have:=F.few;omega
           go_wp2_with fail
           refine (zkey_any F h4 hlt4 [99,97,115,101]).mono ?_;rintro e w5 ⟨rfl,hb5⟩;have h5:=h4.below hb5;have hO5:=hO4.below hbl hb5;have hK5:=hK4.andBelow hb5;clear h4 hO4 hK4 hb5
           by_cases hit:(f1.isNone&&keyAt ts k [99,97,115,101])=true
           ·rw[hit];obtain⟨rfl,hsk2,hkn,p,hp,hW⟩:=CasesAt.more F HCA.out hit;obtain⟨hA1,hA2,fk0,hA3,hA4⟩:=HCA.out;have HW:=Lib.hid hW;have H4:=Lib.hid hA4;clear hit HCA hW hA4;go_wp2_with fail
            refine (znext_any F h5 hlt4).mono ?_;rintro e w6 ⟨rfl,h6,hK6⟩;rw[hsk2] at h6;have hO6:=hO5.kept hbl hK6;have hK56:=hK5.same hK6;clear h5 hO5 hK5 hK6;go_wp2_with fail
            refine (HP.out.words p (by omega) w6 (k+1) d _ none 1 (by omega) (fun _=>⟨rfl,hd⟩) hkn h6 (Lib.hid fun e=>go_ne (HW.out.ask e))).mono ?_
            rintro e w9 ⟨v9,l,k',f',rfl,hN9,hT9,h9,hle9,hlt9,hK9,hR9⟩;have A9:=Lib.hid (case_words F hd hkn H4.out HW.out hR9 hT9 hle9 hlt9);have HSZ:=Lib.hid (show f'=none→(L++[l]).flatten.length≤6 * (k' - i) from fun e=>by have h:=A9.out.size;rw[if_pos e] at h;exact h)
            have HN:=Lib.hid hN9;obtain⟨g9,cp9,rfl,-⟩:=hN9;have hK59:=hK56.same hK9;have HO:=Lib.hid (hO6.kept hbl hK9);have hsz1:=hK59.size;clear h6 hO6 hK56 hK9 hR9 HW H4;obtain⟨us,u1,u2,u3⟩:=HO.out;have U1:=Lib.hid u1;have U2:=Lib.hid u2;have U3:=Lib.hid u3;have hOA:∀ o,(w9.alloc o).ownsRow w.heap.size 23 1 (.slice ra L.length rc) L.length us:=fun o=>ownsRow_kept U2.out (Kept.ofBelow (S:=Nowhere) ((Below.refl _ w9).alloc (Nat.le_refl _) o)) (fun _ _ _ e=>e)
            clear u1 u2 u3;go_wp2_with (at_builtin;refine wpList_append_own _ rfl _ _ 99 rfl w.heap.size 23 k0 _ 1 24 Tryz.underlying99 hk0 hk1 hk2 hk3 rfl (by decide) _ L.length _ rfl (hOA _) ⟨w9.heap.size,0,none⟩ 1 1 [.slice (some ⟨g9,0,none⟩) (l).length cp9] rfl rfl ?c1 ?c2 ?c3 ?c4 ?c5 ?_)
            case c1=>exact cells_new (by simp)
            case c2=>intro u9 hu9;simp at hu9;subst hu9;rfl
            case c3=>unfold maxLen;omega
            case c4=>omega
            case c5=>simp;omega
            intro v6 w6 hown' hgrow _;have hS6:=(h9).grown hgrow (row_tag U2.out (by decide)) hbl hgl
            obtain⟨hO6,hb6⟩:=KOwn.grown hsz1 U1.out U2.out U3.out HN.out hown' hgrow;clear hOA hown' hgrow U1 U2 U3;have hKA:=hK59.belowB hb6 (Nat.le_refl _);obtain⟨ra6,rc6,rfl⟩:=hO6.form;have HNUM:=Lib.hid (show (L++[l]).length=L.length+1 from by simp)
            obtain⟨M,hM⟩:∃ M,L++[l]=M:=⟨_,rfl⟩;have HM:=Lib.hid hM;rw[hM] at hO6 HNUM ⊢;clear hM h9 hK59 hb6 HO HN hsz1;go_wp2_with fail
            refine (zkind_any F hS6 hlt9 1 _ rfl).mono ?_;rintro e wB ⟨rfl,hbB⟩;have hB:=hS6.below hbB;have hOB:=hO6.below hbl hbB;have hKB:=hKA.andBelow hbB;clear hS6 hO6 hKA hbB
            by_cases x1:(f'.isNone&&isK ts k' [1])=true
            ·have hit:(f'.isNone&&isK ts k' [1,2])=true:=by
              rw[isK_two];simp at x1
              simp [x1.1,x1.2]
             rw[x1];clear x1;obtain⟨wC,hwC⟩:∃ wC,wC=wB:=⟨_,rfl⟩;subst hwC;rename World=>wC
             have hCi:=hB;have hOC:=hOB;have hKC:=hKB;clear hB hOB hKB;have A10:=Lib.hid (A9.out.line.1 hit);have HS7:=Lib.hid (fun (_:f'=none)=>(skip_of F.T.fix.good hlt9 (ks:=[1,2]) (by decide) (by simp at hit;exact hit.2)).1)
             clear hit A9;go_wp2_with fail
             refine (znext_any F hCi hlt9).mono ?_;rintro e w7 ⟨rfl,h7,hK7⟩;have hO7:=hOC.kept hbl hK7;have hKC7:=hKC.same hK7;have hle7:k'≤skP ts k':=by have:=skP_le (ts:=ts) hlt9;unfold skP at this ⊢;omega
             have hlt7:=A10.out.lt;have HSZ7:=Lib.hid (show f'=none→(L++[l]).flatten.length+1≤6 * (skP ts k' - i) from fun e=>by have h1:=HSZ.out e;have h2:=HS7.out e;omega)
             clear hCi hOC hKC hK7 HSZ HS7;generalize skP ts k'=i7 at *;go_wp2_with fail
             refine (HP.out.list p (by omega) w7 i7 d _ f' (fun _=>⟨rfl,hd⟩) hlt7 h7 (Lib.hid fun e=>A10.out.ask e)).mono ?_
             rintro e wD ⟨vD,lD,kD,fD,rfl,hND,hTD,hDi,hleD,hltD,hKD,hRD⟩
             have HCD:=Lib.hid (show CasesAt ts q d i Y kD fD (M++[lD]) from by
              have h:=case_list F hd (by omega) hA1 hA2 (by omega) HSZ7.out A10.out hRD hTD hleD hltD
              rw[← HM.out,List.append_assoc];exact h)
             have HN:=Lib.hid hND;obtain⟨gD,cD,rfl,-⟩:=hND;have hKD9:=hKC7.same hKD;have HO:=Lib.hid (hO7.kept hbl hKD);have hsz1:=hKD9.size;have hMn:M.length≤2001:=by have:=HNUM.out;omega
             clear h7 hO7 hKC7 hKD hRD A10 HSZ7;obtain⟨us,u1,u2,u3⟩:=HO.out;have U1:=Lib.hid u1;have U2:=Lib.hid u2;have U3:=Lib.hid u3;have hOA:∀ o,(wD.alloc o).ownsRow w.heap.size 23 1 (.slice ra6 M.length rc6) M.length us:=fun o=>ownsRow_kept U2.out (Kept.ofBelow (S:=Nowhere) ((Below.refl _ wD).alloc (Nat.le_refl _) o)) (fun _ _ _ e=>e)
             clear u1 u2 u3;go_wp2_with (at_builtin;refine wpList_append_own _ rfl _ _ 99 rfl w.heap.size 23 k0 _ 1 24 Tryz.underlying99 hk0 hk1 hk2 hk3 rfl (by decide) _ M.length _ rfl (hOA _) ⟨wD.heap.size,0,none⟩ 1 1 [.slice (some ⟨gD,0,none⟩) lD.length cD] rfl rfl ?c1 ?c2 ?c3 ?c4 ?c5 ?_)
             case c1=>exact cells_new (by simp)
             case c2=>intro u9 hu9;simp at hu9;subst hu9;rfl
             case c3=>unfold maxLen;omega
             case c4=>omega
             case c5=>simp;omega
             intro v6 w6 hown' hgrow _;have hS6:=hDi.grown hgrow (row_tag U2.out (by decide)) hbl hgl
             obtain⟨hO6,hb6⟩:=KOwn.grown hsz1 U1.out U2.out U3.out HN.out hown' hgrow;clear hOA hown' hgrow U1 U2 U3;have hKE:=hKD9.belowB hb6 (Nat.le_refl _);go_wp2_with fail
             go_roundg (if fD=none then ts.length - kD+1 else 0)
             case measure =>
              by_cases hf':fD=none
              ·rw[if_pos hf'];omega
              ·rw[if_neg hf'];omega
             case rel=>exact⟨kD,fD,M++[lD],rfl,hO6,hS6,hKE,HCD⟩
            ·have x1:(f'.isNone&&isK ts k' [1])=false:=by simpa using x1
             rw[x1];go_wp2_with fail
             refine (zkind_any F hB hlt9 2 _ rfl).mono ?_;rintro e wC ⟨rfl,hbC⟩;have hCi:=hB.below hbC;have hOC:=hOB.below hbl hbC;have hKC:=hKB.andBelow hbC;clear hB hOB hKB hbC
             by_cases x2:(f'.isNone&&isK ts k' [2])=true
             ·have hit:(f'.isNone&&isK ts k' [1,2])=true:=by
               rw[isK_two];simp at x2
               simp [x2.1,x2.2]
              rw[x2];clear x1 x2;have A10:=Lib.hid (A9.out.line.1 hit);have HS7:=Lib.hid (fun (_:f'=none)=>(skip_of F.T.fix.good hlt9 (ks:=[1,2]) (by decide) (by simp at hit;exact hit.2)).1)
              clear hit A9;go_wp2_with fail
              refine (znext_any F hCi hlt9).mono ?_;rintro e w7 ⟨rfl,h7,hK7⟩;have hO7:=hOC.kept hbl hK7;have hKC7:=hKC.same hK7;have hle7:k'≤skP ts k':=by have:=skP_le (ts:=ts) hlt9;unfold skP at this ⊢;omega
              have hlt7:=A10.out.lt;have HSZ7:=Lib.hid (show f'=none→(L++[l]).flatten.length+1≤6 * (skP ts k' - i) from fun e=>by have h1:=HSZ.out e;have h2:=HS7.out e;omega)
              clear hCi hOC hKC hK7 HSZ HS7;generalize skP ts k'=i7 at *;go_wp2_with fail
              refine (HP.out.list p (by omega) w7 i7 d _ f' (fun _=>⟨rfl,hd⟩) hlt7 h7 (Lib.hid fun e=>A10.out.ask e)).mono ?_
              rintro e wD ⟨vD,lD,kD,fD,rfl,hND,hTD,hDi,hleD,hltD,hKD,hRD⟩
              have HCD:=Lib.hid (show CasesAt ts q d i Y kD fD (M++[lD]) from by
               have h:=case_list F hd (by omega) hA1 hA2 (by omega) HSZ7.out A10.out hRD hTD hleD hltD
               rw[← HM.out,List.append_assoc];exact h)
              have HN:=Lib.hid hND;obtain⟨gD,cD,rfl,-⟩:=hND;have hKD9:=hKC7.same hKD;have HO:=Lib.hid (hO7.kept hbl hKD);have hsz1:=hKD9.size;have hMn:M.length≤2001:=by have:=HNUM.out;omega
              clear h7 hO7 hKC7 hKD hRD A10 HSZ7;obtain⟨us,u1,u2,u3⟩:=HO.out;have U1:=Lib.hid u1;have U2:=Lib.hid u2;have U3:=Lib.hid u3;have hOA:∀ o,(wD.alloc o).ownsRow w.heap.size 23 1 (.slice ra6 M.length rc6) M.length us:=fun o=>ownsRow_kept U2.out (Kept.ofBelow (S:=Nowhere) ((Below.refl _ wD).alloc (Nat.le_refl _) o)) (fun _ _ _ e=>e)
              clear u1 u2 u3;go_wp2_with (at_builtin;refine wpList_append_own _ rfl _ _ 99 rfl w.heap.size 23 k0 _ 1 24 Tryz.underlying99 hk0 hk1 hk2 hk3 rfl (by decide) _ M.length _ rfl (hOA _) ⟨wD.heap.size,0,none⟩ 1 1 [.slice (some ⟨gD,0,none⟩) lD.length cD] rfl rfl ?c1 ?c2 ?c3 ?c4 ?c5 ?_)
              case c1=>exact cells_new (by simp)
              case c2=>intro u9 hu9;simp at hu9;subst hu9;rfl
              case c3=>unfold maxLen;omega
              case c4=>omega
              case c5=>simp;omega
              intro v6 w6 hown' hgrow _;have hS6:=hDi.grown hgrow (row_tag U2.out (by decide)) hbl hgl
              obtain⟨hO6,hb6⟩:=KOwn.grown hsz1 U1.out U2.out U3.out HN.out hown' hgrow;clear hOA hown' hgrow U1 U2 U3;have hKE:=hKD9.belowB hb6 (Nat.le_refl _);go_wp2_with fail
              go_roundg (if fD=none then ts.length - kD+1 else 0)
              case measure =>
               by_cases hf':fD=none
               ·rw[if_pos hf'];omega
               ·rw[if_neg hf'];omega
              case rel=>exact⟨kD,fD,M++[lD],rfl,hO6,hS6,hKE,HCD⟩
             ·have x2:(f'.isNone&&isK ts k' [2])=false:=by simpa using x2
              have hit:(f'.isNone&&isK ts k' [1,2])=false:=by
               rw[isK_two,Bool.and_or_distrib_left,x1,x2];rfl
              rw[x2];have A10:=Lib.hid (A9.out.line.2 hit);clear x1 x2 hit A9;go_wp2_with fail
              refine (zwrong_any F hCi hlt9).mono ?_;rintro e wE ⟨rfl,hE,hKE⟩;have hOE:=hOC.kept hbl hKE;have hKCE:=hKC.same hKE;clear hCi hOC hKC hKE;rename World=>wC
              have hCi:=hE;have hOC:=hOE;have hKC:=hKCE;clear hE hOE hKCE;have HS7:=Lib.hid (show f'.or (some (formF ts k'))=none→skP ts k'=k'+1 from fun e=>by cases f' <;> cases e)
              have HSZ:=Lib.hid (show f'.or (some (formF ts k'))=none→(L++[l]).flatten.length≤6 * (k' - i) from fun e=>by cases f' <;> cases e)
              generalize f'.or (some (formF ts k'))=f7 at *;go_wp2_with fail
              refine (znext_any F hCi hlt9).mono ?_;rintro e w7 ⟨rfl,h7,hK7⟩;have hO7:=hOC.kept hbl hK7;have hKC7:=hKC.same hK7;have hle7:k'≤skP ts k':=by have:=skP_le (ts:=ts) hlt9;unfold skP at this ⊢;omega
              have hlt7:=A10.out.lt;have HSZ7:=Lib.hid (show f7=none→(L++[l]).flatten.length+1≤6 * (skP ts k' - i) from fun e=>by have h1:=HSZ.out e;have h2:=HS7.out e;omega)
              clear hCi hOC hKC hK7 HSZ HS7;generalize skP ts k'=i7 at *;go_wp2_with fail
              refine (HP.out.list p (by omega) w7 i7 d _ f7 (fun _=>⟨rfl,hd⟩) hlt7 h7 (Lib.hid fun e=>A10.out.ask e)).mono ?_
              rintro e wD ⟨vD,lD,kD,fD,rfl,hND,hTD,hDi,hleD,hltD,hKD,hRD⟩
              have HCD:=Lib.hid (show CasesAt ts q d i Y kD fD (M++[lD]) from by
               have h:=case_list F hd (by omega) hA1 hA2 (by omega) HSZ7.out A10.out hRD hTD hleD hltD
               rw[← HM.out,List.append_assoc];exact h)
              have HN:=Lib.hid hND;obtain⟨gD,cD,rfl,-⟩:=hND;have hKD9:=hKC7.same hKD;have HO:=Lib.hid (hO7.kept hbl hKD);have hsz1:=hKD9.size;have hMn:M.length≤2001:=by have:=HNUM.out;omega
              clear h7 hO7 hKC7 hKD hRD A10 HSZ7;obtain⟨us,u1,u2,u3⟩:=HO.out;have U1:=Lib.hid u1;have U2:=Lib.hid u2;have U3:=Lib.hid u3;have hOA:∀ o,(wD.alloc o).ownsRow w.heap.size 23 1 (.slice ra6 M.length rc6) M.length us:=fun o=>ownsRow_kept U2.out (Kept.ofBelow (S:=Nowhere) ((Below.refl _ wD).alloc (Nat.le_refl _) o)) (fun _ _ _ e=>e)
              clear u1 u2 u3;go_wp2_with (at_builtin;refine wpList_append_own _ rfl _ _ 99 rfl w.heap.size 23 k0 _ 1 24 Tryz.underlying99 hk0 hk1 hk2 hk3 rfl (by decide) _ M.length _ rfl (hOA _) ⟨wD.heap.size,0,none⟩ 1 1 [.slice (some ⟨gD,0,none⟩) lD.length cD] rfl rfl ?c1 ?c2 ?c3 ?c4 ?c5 ?_)
              case c1=>exact cells_new (by simp)
              case c2=>intro u9 hu9;simp at hu9;subst hu9;rfl
              case c3=>unfold maxLen;omega
              case c4=>omega
              case c5=>simp;omega
              intro v6 w6 hown' hgrow _;have hS6:=hDi.grown hgrow (row_tag U2.out (by decide)) hbl hgl
              obtain⟨hO6,hb6⟩:=KOwn.grown hsz1 U1.out U2.out U3.out HN.out hown' hgrow;clear hOA hown' hgrow U1 U2 U3;have hKE:=hKD9.belowB hb6 (Nat.le_refl _);go_wp2_with fail
              go_roundg (if fD=none then ts.length - kD+1 else 0)
              case measure =>
               by_cases hf':fD=none
               ·rw[if_pos hf'];omega
               ·rw[if_neg hf'];omega
              case rel=>exact⟨kD,fD,M++[lD],rfl,hO6,hS6,hKE,HCD⟩
           ·have hit:(f1.isNone&&keyAt ts k [99,97,115,101])=false:=by simpa using hit
            rw[hit];have AE:=Lib.hid ((show ZAcc ts i Y (zS d - 9) k f1 L (takeP ts k [9] fun e=>pTurns ts q d e (newP 30 0 [] L) []) from HCA.out.done hit).want F)
            have hle9:=wantI_le F hlt4 f1 9;clear hit HCA;go_wp2_with fail
            refine (zwant_any F h5 hlt4 9 _ rfl).mono ?_;rintro e w6 ⟨rfl,h6,hK6⟩;have hO6:=hO5.kept hbl hK6;have hK56:=hK5.same hK6;generalize wantI ts k f1 9=i6 at *;generalize wantF ts k f1 9=f6 at *;have HSM:=Lib.hid (show L.flatten.length≤90000 from by have h9:=AE.out.size;have:=AE.out.lt;have:=F.few;unfold zS at h9;split at h9 <;> omega)
            have HC6:=Lib.hid (z12node_any 30 0 [] L _ h6.blt (hO6.ksl hbl) (by have:=HSM.out;omega) (by omega))
            clear h5 hO5 hK5 hK6 hO6;generalize L.length=ll at *;go_wp2_with fail
            refine HC6.out.mono ?_;rintro e w7 ⟨v7,rfl,hN7,hb7⟩;have h7:=h6.below hb7;have hK7:=hK56.andBelow hb7;obtain⟨g7,c7,rfl,-⟩:=id hN7
            have HTT:=Lib.hid (HP.out.turns q (by omega) w7 i6 d _ f6 (newP 30 0 [] L) _ (fun _=>⟨rfl,hd⟩) hle9.2 h7 hN7 (.node _ _ _ _ AE.out.trees) (by rw[len_newP];have:=HSM.out;omega) (Lib.hid fun e=>by
             subst e;rw[show pTurns ts q d i6 (newP 30 0 [] L) []=Y from AE.out.res]
             exact HXN.out))
            clear h6 hK56 hN7 h7;go_wp2_with fail
            refine HTT.out.mono ?_;rintro e w8 ⟨v8,l,i8,f8,rfl,hN8,hT8,h8,hle8,hlt8,hK8,hl8,hm8⟩;have HR:=Lib.hid (AE.out.turns hd (by unfold zS;omega) hle8 hl8 hm8)
            have hle:=AE.out.le;obtain⟨g8,c8,rfl,-⟩:=id hN8;clear hm8 hl8;go_wp2_with fail
            go_ret;exact ZOutW.mk rfl hN8 hT8 h8 (by omega) hlt8 (hK7.same hK8) HR.out
        ·rw[if_neg q4] at hY;have e4:=bs_is q4;clear q4
         by_cases q5:tx=[102,110]
         ·rw[if_pos q5] at hY;have HY:=Lib.hid hY;clear hY;subst q5;have hself:=bs_self [102,110];go_enter Tryz.func87,Tryz.ntmps87
          go_wp2_with fail
          refine (zbad_any hS).mono ?_;rintro e w1 ⟨rfl,rfl⟩;rename World=>w
          go_wp2_with fail
          refine (zkind_any F hS hi 8 _ rfl).mono ?_;rintro e w1 ⟨rfl,hb1⟩;rw[H8.out];have h1:=hS.below hb1;have hK1:=Kept.ofBelow (S:=At b) hb1;clear hS hb1;go_wp2_with fail
          refine (zkind_any F h1 hi 18 _ rfl).mono ?_;rintro e w3 ⟨rfl,hb3⟩;rw[(H18).out];have h3:=h1.below hb3;have hK3:=hK1.andBelow hb3;clear h1 hK1 hb3;go_wp2_with fail
          refine (znow_any F h3 hi).mono ?_;rintro e w4 ⟨rfl,hb4⟩;have h4:=h3.below hb4;have hK4:=hK3.andBelow hb4;unfold BTok.cells;rw[HTX.out];clear h3 hK3 hb4;go_wp2_with fail
          refine (z12Key_any _ w4).mono ?_;rintro e w3 ⟨rfl,rfl⟩;rename World=>w3
          rw[HKB.out];have h3:=h4;have hK3:=hK4;clear h4 hK4;go_wp2_with fail
          refine (znow_any F h3 hi).mono ?_;rintro e w4 ⟨rfl,hb4⟩;have h4:=h3.below hb4;have hK4:=hK3.andBelow hb4;unfold BTok.cells;rw[HTX.out];clear h3 hK3 hb4;rename World=>w3
          have h3:=h4;have hK3:=hK4;clear h4 hK4;go_wp2_with fail
          cases f0 with
          | zero=>exact absurd (HY.out.symm.trans (by rw[pFunction])) HXN.out
          | succ q =>
           have HFA:=Lib.hid (fun (f:Option (Nat×Nat)) hf=>fun_acc F (i:=i) (i1:=i+1) (q:=q) (d:=d) (Y:=Y) (f:=f) (by omega) hi1 HXN.out (by rw[← HY.out,pFunction,HSK.out]) hf)
           refine (znext_any F h3 hi).mono ?_;rintro e w4 ⟨rfl,h4,hK4⟩;rw[HSK.out] at h4;have hK34:=hK3.same hK4;clear h3 hK3 hK4;go_wp2_with fail
           refine (zkind_any F h4 hi1 18 _ rfl).mono ?_;rintro e w5 ⟨rfl,hb5⟩;have h5:=h4.below hb5;have hK5:=hK34.andBelow hb5;clear h4 hK34 hb5
           cases hc:isK ts (i+1) [18] with
           | false =>
            have HA:=Lib.hid (HFA.out none (.inl ⟨rfl,fun e=>by rw[e.1] at hc;cases hc⟩))
            rw[show ((none:Option (Nat×Nat)).isNone&&false)=false from rfl]
            clear hc HFA;go_wp2_with fail
            refine (znamed_any F h5 hi1).mono ?_;rintro e w7 ⟨rfl,h7,hK7⟩;have hK57:=hK5.same hK7;have hlt7:=HA.out.lt;generalize namedI ts (i+1) _=i7 at *;generalize namedF ts (i+1) _=f7 at *;generalize namedS ts (i+1) _=nm at *;clear h5 hK5 hK7;go_wp2_with fail
            refine (HP.out.block q (by omega) w7 i7 d _ f7 (fun _=>⟨by omega,hd⟩) hlt7 h7 (Lib.hid HA.out.ask)).mono ?_
            rintro e w8 ⟨v8,a8,i8,f8,rfl,hN8,hT8,h8,hle8,hlt8,hK8,hR8⟩;obtain⟨g8,c8,rfl,-⟩:=id hN8;have hK58:=hK57.same hK8;have A8:ZAcc ts i Y (zS d - 14) i8 f8 [a8] (pOk (newP 31 0 nm [a8]) i8):=HA.out.call (zS d - 14) hR8 hT8 hle8 hlt8 (fun a j h=>by have:=((postAll F.T.fix.good q).block d i7 hlt7).1 a j h;omega) (by unfold zS;omega) (Nat.le_refl _)
            have HR:=Lib.hid ((A8.node (kd:=31) (n:=0) (t:=nm) fun _=>rfl).mono (show zS d - 14+1≤zS d from by unfold zS;omega))
            have HC:=Lib.hid (z12node_any 31 0 nm [a8] _ (by have:=h8.blt;simp;omega) (KSl.new1 h8.blt (.inl hN8)) (by have:=A8.small F (by unfold zS;omega);omega) (by simp))
            have hle:=A8.le;clear A8 hR8 HA hN8 h7 hK57 hK8;go_wp2_with fail
            refine HC.out.mono ?_;rintro e w9 ⟨v9,rfl,hN9,hb9⟩;have hb9:=bNext ((Below.refl _ _).alloc (Nat.le_refl _) _) hb9;obtain⟨g9,c9,rfl,-⟩:=id hN9;go_wp2_with fail
            go_ret;exact ZOutW.mk rfl hN9 (Tree.one hT8) (h8.below hb9) hle hlt8 (hK58.andBelow hb9) HR.out
           | true =>
            rw[show ((none:Option (Nat×Nat)).isNone&&true)=true from rfl]
            go_wp2_with fail
            refine (znow_any F h5 hi1).mono ?_;rintro e w6 ⟨rfl,hb6⟩;have h6:=h5.below hb6;have hK6:=hK5.andBelow hb6;unfold BTok.cells;clear h5 hK5 hb6;go_wp2_with fail
            refine (z12Key_any _ w6).mono ?_;rintro e w5 ⟨rfl,rfl⟩;rename World=>w5
            have h5:=h6;have hK5:=hK6;clear h6 hK6
            cases hk:keyB (tkAt ts (i+1)).text with
            | false =>
             have HA:=Lib.hid (HFA.out none (.inl ⟨rfl,fun e=>by rw[e.2] at hk;cases hk⟩))
             clear hc hk HFA;go_wp2_with fail
             refine (znamed_any F h5 hi1).mono ?_;rintro e w7 ⟨rfl,h7,hK7⟩;have hK57:=hK5.same hK7;have hlt7:=HA.out.lt;generalize namedI ts (i+1) _=i7 at *;generalize namedF ts (i+1) _=f7 at *;generalize namedS ts (i+1) _=nm at *;clear h5 hK5 hK7;go_wp2_with fail
             refine (HP.out.block q (by omega) w7 i7 d _ f7 (fun _=>⟨by omega,hd⟩) hlt7 h7 (Lib.hid HA.out.ask)).mono ?_
             rintro e w8 ⟨v8,a8,i8,f8,rfl,hN8,hT8,h8,hle8,hlt8,hK8,hR8⟩;obtain⟨g8,c8,rfl,-⟩:=id hN8;have hK58:=hK57.same hK8;have A8:ZAcc ts i Y (zS d - 14) i8 f8 [a8] (pOk (newP 31 0 nm [a8]) i8):=HA.out.call (zS d - 14) hR8 hT8 hle8 hlt8 (fun a j h=>by have:=((postAll F.T.fix.good q).block d i7 hlt7).1 a j h;omega) (by unfold zS;omega) (Nat.le_refl _)
             have HR:=Lib.hid ((A8.node (kd:=31) (n:=0) (t:=nm) fun _=>rfl).mono (show zS d - 14+1≤zS d from by unfold zS;omega))
             have HC:=Lib.hid (z12node_any 31 0 nm [a8] _ (by have:=h8.blt;simp;omega) (KSl.new1 h8.blt (.inl hN8)) (by have:=A8.small F (by unfold zS;omega);omega) (by simp))
             have hle:=A8.le;clear A8 hR8 HA hN8 h7 hK57 hK8;go_wp2_with fail
             refine HC.out.mono ?_;rintro e w9 ⟨v9,rfl,hN9,hb9⟩;have hb9:=bNext ((Below.refl _ _).alloc (Nat.le_refl _) _) hb9;obtain⟨g9,c9,rfl,-⟩:=id hN9;go_wp2_with fail
             go_ret;exact ZOutW.mk rfl hN9 (Tree.one hT8) (h8.below hb9) hle hlt8 (hK58.andBelow hb9) HR.out
            | true =>
             have HA:=Lib.hid (HFA.out (some (formF ts (i+1))) (.inr ⟨rfl,hc,hk⟩));clear hc hk HFA;go_wp2_with fail
             refine (zwrong_any F h5 hi1).mono ?_;rintro e w6 ⟨rfl,h6,hK6⟩;have hK56:=hK5.same hK6;clear h5 hK5 hK6;rename World=>w5
             have h5:ZIn w5 b g cap ts (i+1) (some (formF ts (i+1))):=h6;have hK5:=hK56;clear h6 hK56;go_wp2_with fail
             refine (znamed_any F h5 hi1).mono ?_;rintro e w7 ⟨rfl,h7,hK7⟩;have hK57:=hK5.same hK7;have hlt7:=HA.out.lt;generalize namedI ts (i+1) _=i7 at *;generalize namedF ts (i+1) _=f7 at *;generalize namedS ts (i+1) _=nm at *;clear h5 hK5 hK7;go_wp2_with fail
             refine (HP.out.block q (by omega) w7 i7 d _ f7 (fun _=>⟨by omega,hd⟩) hlt7 h7 (Lib.hid HA.out.ask)).mono ?_
             rintro e w8 ⟨v8,a8,i8,f8,rfl,hN8,hT8,h8,hle8,hlt8,hK8,hR8⟩;obtain⟨g8,c8,rfl,-⟩:=id hN8;have hK58:=hK57.same hK8;have A8:ZAcc ts i Y (zS d - 14) i8 f8 [a8] (pOk (newP 31 0 nm [a8]) i8):=HA.out.call (zS d - 14) hR8 hT8 hle8 hlt8 (fun a j h=>by have:=((postAll F.T.fix.good q).block d i7 hlt7).1 a j h;omega) (by unfold zS;omega) (Nat.le_refl _)
             have HR:=Lib.hid ((A8.node (kd:=31) (n:=0) (t:=nm) fun _=>rfl).mono (show zS d - 14+1≤zS d from by unfold zS;omega))
             have HC:=Lib.hid (z12node_any 31 0 nm [a8] _ (by have:=h8.blt;simp;omega) (KSl.new1 h8.blt (.inl hN8)) (by have:=A8.small F (by unfold zS;omega);omega) (by simp))
             have hle:=A8.le;clear A8 hR8 HA hN8 h7 hK57 hK8;go_wp2_with fail
             refine HC.out.mono ?_;rintro e w9 ⟨v9,rfl,hN9,hb9⟩;have hb9:=bNext ((Below.refl _ _).alloc (Nat.le_refl _) _) hb9;obtain⟨g9,c9,rfl,-⟩:=id hN9;go_wp2_with fail
             go_ret;exact ZOutW.mk rfl hN9 (Tree.one hT8) (h8.below hb9) hle hlt8 (hK58.andBelow hb9) HR.out
         ·rw[if_neg q5] at hY;have e5:=bs_is q5;have HY:=Lib.hid hY;clear q5 hY;go_enter Tryz.func87,Tryz.ntmps87
          go_wp2_with fail
          refine (zbad_any hS).mono ?_;rintro e w1 ⟨rfl,rfl⟩;rename World=>w
          go_wp2_with fail
          refine (zkind_any F hS hi 8 _ rfl).mono ?_;rintro e w1 ⟨rfl,hb1⟩;rw[H8.out];have h1:=hS.below hb1;have hK1:=Kept.ofBelow (S:=At b) hb1;clear hS hb1;go_wp2_with fail
          refine (zkind_any F h1 hi 18 _ rfl).mono ?_;rintro e w3 ⟨rfl,hb3⟩;rw[(H18).out];have h3:=h1.below hb3;have hK3:=hK1.andBelow hb3;clear h1 hK1 hb3;go_wp2_with fail
          refine (znow_any F h3 hi).mono ?_;rintro e w4 ⟨rfl,hb4⟩;have h4:=h3.below hb4;have hK4:=hK3.andBelow hb4;unfold BTok.cells;rw[HTX.out];clear h3 hK3 hb4;go_wp2_with fail
          refine (z12Key_any _ w4).mono ?_;rintro e w3 ⟨rfl,rfl⟩;rename World=>w3
          rw[HKB.out];have h3:=h4;have hK3:=hK4;clear h4 hK4;go_wp2_with fail
          refine (znow_any F h3 hi).mono ?_;rintro e w4 ⟨rfl,hb4⟩;have h4:=h3.below hb4;have hK4:=hK3.andBelow hb4;unfold BTok.cells;rw[HTX.out];clear h3 hK3 hb4;rename World=>w3
          have h3:=h4;have hK3:=hK4;clear h4 hK4;go_wp2_with fail
          refine (zwrong_any F h3 hi).mono ?_;rintro e w4 ⟨rfl,h4,hK4⟩;have hK34:=hK3.same hK4;go_wp2_with fail
          refine (z12nop_any h4.blt).mono ?_;rintro e w5 ⟨v5,rfl,hN5,hb5⟩;obtain⟨g5,c5,rfl,-⟩:=id hN5;go_wp2_with fail
          go_ret;exact ZOutW.mk rfl hN5 (Tree.leaf _ _ _) (h4.below hb5) (Nat.le_refl _) hi (hK34.andBelow hb5) (by rw[← HY.out];exact⟨rfl,by unfold zS;simp [newP];omega⟩)
end
end Go.Proofs.YtbplbehhlbkklaaGreatDoor
