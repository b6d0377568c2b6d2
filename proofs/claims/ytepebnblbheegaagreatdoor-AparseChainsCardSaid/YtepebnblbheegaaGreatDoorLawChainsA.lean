/- AparseChains. -/
import Derived.Test.YtepebnblbheegaaGreatDoorChainInv
import Derived.Test.YtepebnblbheegaaGreatDoorZG
namespace Go.Proofs.YtepebnblbheegaaGreatDoor
set_option maxHeartbeats 16000000
set_option maxRecDepth 100000
open Go Go.RowKit
theorem rep_all (n : Nat) : ∀ l ∈ List.replicate n Go.Proofs.YtepebnblbheegaaGreatDoor.oneC, 0 < l.length := fun l hl => by
 rw [List.eq_of_mem_replicate hl]
 decide
theorem rep_flat (n : Nat) : (List.replicate n Go.Proofs.YtepebnblbheegaaGreatDoor.oneC).flatten.length = 2 * n := by
 induction n with
 | zero => rfl
 | succ n ih =>
  rw [List.replicate_succ, List.flatten_cons, List.length_append, ih, show Go.Proofs.YtepebnblbheegaaGreatDoor.oneC.length = 2 from rfl]
  omega
theorem rep_head (n : Nat) (h : 1 ≤ n) : (List.replicate n Go.Proofs.YtepebnblbheegaaGreatDoor.oneC).headD [] = Go.Proofs.YtepebnblbheegaaGreatDoor.oneC := by
 obtain ⟨m, rfl⟩ : ∃ m, n = m + 1 := ⟨n - 1, by omega⟩
 rfl
def ChainV (w : World) (v : Value) (kd : Nat) (l : Prog) : Prop := (kd = 0 ∧ v = .slice none 0 0) ∨ (kd ≠ 0 ∧ NSl w 9 v l)
theorem ChainV.below {w w' : World} {v : Value} {kd : Nat} {l : Prog} (h : ChainV w v kd l) (hb : Below w.heap.size w w') : ChainV w' v kd l := by
 rcases h with h | ⟨h, h2⟩
 ·exact .inl h
 ·exact .inr ⟨h, h2.below hb⟩
theorem ChainV.form {w : World} {v : Value} {kd : Nat} {l : Prog} (h : ChainV w v kd l) : ∃ ao n c, v = .slice ao n c := by
 rcases h with ⟨-, rfl⟩ | ⟨-, g, c, rfl, -⟩
 ·exact ⟨_, _, _, rfl⟩
 ·exact ⟨_, _, _, rfl⟩
theorem NSl.over {w w' : World} {b B n : Nat} {x v : Value} {m : Prog} {us : List Value} {o : Obj} (h : NSl w b x m) (h2 : w.ownsRow B 23 1 v n us) (hg : (w.alloc o).grownBy w' v.ownBlock) : NSl w' b x m := by
 have hb1 := (Below.refl w.heap.size w).alloc (Nat.le_refl _) o
 have hrow : ∀ k, v.ownBlock = some k → ∃ cur fz t, (w.alloc o).heap[k]? = some (.cells cur t fz) ∧ t ≠ 82 := fun k hk => by
  obtain ⟨cur, fz, e⟩ := ownsRow_tag h2 k hk
  exact ⟨cur, fz, 23, (hb1.block k (lt_of_block e)).trans e, by decide⟩
 exact (h.below hb1).grown hg hrow
theorem ChainV.over {w w' : World} {B n kd : Nat} {x v : Value} {m : Prog} {us : List Value} {o : Obj} (h : ChainV w x kd m) (h2 : w.ownsRow B 23 1 v n us) (hg : (w.alloc o).grownBy w' v.ownBlock) : ChainV w' x kd m := by
 rcases h with h | ⟨h, h3⟩
 ·exact .inl h
 ·exact .inr ⟨h, h3.over h2 hg⟩
theorem ext_front (S T : List UInt8) : (bs S ++ bs T).extract 0 (bs S).size = bs S := by
 rw [bs_app9, extract_bs, bs_list, bs_size, List.drop_zero, List.take_left]
def opOf (Z : Nat → Int) (ln k : Nat) : Int := if k < ln then (kindOf (Z k) : Int) else -1
theorem chainsLawA_in (ao : Option Addr) (ln cap : Nat) (Z : Nat → Int) (ao2 : Option Addr) (ln2 cap2 : Nat) (Y : Nat → Bool) (w : World) (sent : Nat → Addr) (hS : Sents w sent) (hmx : ∃ m, w.cell? ⟨9, 0, none⟩ = some (.int .i64 m)) (het : w.cell? ⟨18, 0, none⟩ = some (.iface 162 (.agg #[.pointer (some ⟨19, 25, none⟩)]))) (hln : ln ≤ cap) (_hcap : cap ≤ maxLen) (hB : IntsOf w ao ln Z) (h12 : ln ≤ 12) (_hln2 : ln2 ≤ cap2) (_hcap2 : cap2 ≤ maxLen) (hY : BoolsOf w ao2 ln2 Y) :
  Calls Tryz.prog 11 #[.slice ao ln cap, .slice ao2 ln2 cap2] w fun e w' => e = .returned (.bool true) ∧ Below w.heap.size w w' := by
 obtain ⟨k0, hk0, hk1, hk2, hk3⟩ := info_parts infoNodes
 have HB := Lib.hid hB
 have HY := Lib.hid hY
 clear hB hY
 go_enter Tryz.func11, Tryz.ntmps11
 go_wp2_with fail
 refine (first11_any _ sent hS hmx het).mono ?_
 rintro e w1 ⟨rfl, hb1⟩
 have hgm : 9 < w1.heap.size := hmx.elim fun m hm => block_lt_of_cell (bSome hb1 hm)
 go_wp2_with fail
 refine (cLit_any [99] 9 _ hgm).mono ?_
 rintro e w2 ⟨va, rfl, hva, hb2⟩
 have z2 : 9 < w2.heap.size := Nat.lt_of_lt_of_le hgm hb2.size
 have HVA := Lib.hid hva
 obtain ⟨ga, ca, rfl, -⟩ := id hva
 clear hva
 go_wp2_with fail
 refine (oneP_any 21 0 [] (litP [99]) 9 _ w2 z2 HVA.out (by decide)).mono ?_
 rintro e w3 ⟨vp, rfl, hvp, hb3⟩
 have z3 : 9 < w3.heap.size := Nat.lt_of_lt_of_le z2 hb3.size
 have HVP := Lib.hid (show NSl w3 9 vp Go.Proofs.YtepebnblbheegaaGreatDoor.oneC from hvp)
 obtain ⟨gp, cp, rfl, -⟩ := id HVP.out
 have hB3 := bNext hb1 (bNext hb2 hb3)
 have HB3 := Lib.hid (HB.out.below hB3)
 have HY3 := Lib.hid (HY.out.below hB3)
 clear hvp HVA hb1 hb2 hb3 z2 hgm HB HY
 obtain ⟨ops, hops⟩ : ∃ ops, kindsOf Z ln = ops := ⟨_, rfl⟩
 have HML := Lib.hid (show ops.length = ln from by rw [← hops]; exact kinds_len Z ln)
 have HMT := Lib.hid (show ∀ m ∈ ops, m < 3 from by rw [← hops]; exact kinds_lt Z ln)
 have HMG : Hid (∀ k, k < ln → ops[k]? = some (kindOf (Z k))) := Lib.hid fun k hk => by rw [← hops]; exact kinds_get Z ln k hk
 clear hops
 obtain ⟨nots, hnots⟩ : ∃ nots, notsOf Y ln2 = nots := ⟨_, rfl⟩
 have HNT : Hid (∀ k, k < ln2 → nots k = Y k) := Lib.hid fun k hk => by rw [← hnots]; exact notsOf_in Y ln2 k hk
 have HNF : Hid (∀ k, ¬ k < ln2 → nots k = false) := Lib.hid fun k hk => by rw [← hnots]; exact notsOf_out Y ln2 k hk
 clear hnots
 go_upto_region 9 with fail
 obtain ⟨w4, hw4⟩ : ∃ w4, w3.alloc (.cells #[.slice (some ⟨gp, 0, none⟩) Go.Proofs.YtepebnblbheegaaGreatDoor.oneC.length cp] 23) = w4 := ⟨_, rfl⟩
 have hb4 : Below w3.heap.size w3 w4 := by rw [← hw4]; exact (Below.refl _ w3).alloc (Nat.le_refl _) _
 have HO4 := Lib.hid (show KOwn w4 w3.heap.size 9 (.slice (some ⟨w3.heap.size, 0, none⟩) 1 1) (List.replicate 1 Go.Proofs.YtepebnblbheegaaGreatDoor.oneC) from by rw [← hw4]; exact KOwn.new1 (Nat.le_refl _) HVP.out)
 rw [hw4]
 clear hw4
 have HY4 := Lib.hid (HY3.out.below hb4)
 go_cut [38] (fun s38 w9 => s38 = .bool (nots 0) ∧ w4 = w9)
 case first =>
  by_cases hl2 : 0 < ln2
  ·obtain ⟨a2, rfl, hz⟩ := HY4.out 0 hl2
   have e0 := Lib.hid (HNT.out 0 hl2)
   have hz : w4.cell? a2 = some (.bool (Y 0)) := hz
   have y1 : decide ((0 : Int) < (ln2 : Int)) = true := by rw [decide_eq_true_eq]; omega
   go_wp2_with fail
   go_meet
   case rel => exact ⟨by rw [e0.out], rfl⟩
  ·have e0 := Lib.hid (HNF.out 0 hl2)
   have y1 : decide ((0 : Int) < (ln2 : Int)) = false := by rw [decide_eq_false_iff_not]; omega
   go_wp2_with fail
   go_meet
   case rel => exact ⟨by rw [e0.out], rfl⟩
 case rest =>
  obtain ⟨rfl, rfl⟩ := hcut
  clear HY4
  have HI0 := Lib.hid (CInv.start nots ops)
  go_upto_if 38 with fail
  go_cut [6, 10] (fun s6 s10 w9 => s6 = .string (bs (if nots 0 = true then [33, 32, 99] else [99])) ∧ s10 = .bool (nots 0) ∧ w4 = w9)
  case first =>
   cases hn : nots 0 with
   | true =>
    have HN0 := Lib.hid hn
    clear hn
    go_wp2_with fail
    go_meet
    case rel => exact ⟨by rw [HN0.out]; rfl, by rw [HN0.out], rfl⟩
   | false =>
    have HN0 := Lib.hid hn
    clear hn
    go_wp2_with fail
    go_meet
    case rel => exact ⟨by rw [HN0.out]; rfl, by rw [HN0.out], rfl⟩
  case rest =>
   obtain ⟨rfl, rfl, rfl⟩ := hcut
   obtain ⟨S0, hS0⟩ : ∃ S0 : List UInt8, (if nots 0 = true then [33, 32, 99] else [99]) = S0 := ⟨_, rfl⟩
   rw [hS0] at HI0
   rw [hS0]
   obtain ⟨b0, hb0⟩ : ∃ b0, nots 0 = b0 := ⟨_, rfl⟩
   rw [hb0] at HI0
   rw [hb0]
   clear hS0 hb0
   go_upto_block 0 with fail
   go_cut [6, 8] (fun s6 s8 w9 => ∃ (S : List UInt8) (C : Prog) (v : Value), s6 = .string (bs S) ∧ parseA S = .ok C ∧ S.length ≤ 90 ∧ C.length ≤ 403 ∧ s8 = v ∧ NSl w9 9 v C ∧ Below w3.heap.size w3 w9)
   case first =>
    go_wp2_with fail
    go_loopg [6, 8, 9, 10, 11, 12] (ln + 1) (fun m s6 s8 s9 s10 s11 s12 wr => ∃ (k : Nat) (S : List UInt8) (chain : Prog) (kd : Nat) (bang : Bool) (n : Nat), m = ln + 1 - k ∧ k ≤ ln ∧ Hid (CInv nots ops k S chain kd bang n) ∧ s6 = .string (bs S) ∧ ChainV wr s8 kd chain ∧ KOwn wr w3.heap.size 9 s9 (List.replicate n Go.Proofs.YtepebnblbheegaaGreatDoor.oneC) ∧ s10 = .bool bang ∧ s11 = .int .i64 kd ∧ s12 = .int .i64 k ∧ Below w3.heap.size w3 wr)
    case atStart => exact ⟨0, S0, [], 0, b0, 1, rfl, Nat.zero_le _, HI0, rfl, .inl ⟨rfl, rfl⟩, HO4.out, rfl, rfl, rfl, hb4⟩
    case round =>
     obtain ⟨k, S, chain, kd, bang, n, rfl, hk, HI, rfl, hch, hO, rfl, rfl, rfl, hbr⟩ := hrel
     have hrl : (List.replicate n Go.Proofs.YtepebnblbheegaaGreatDoor.oneC).length = n := List.length_replicate
     have hn1 := HI.out.n1
     have hn2 := HI.out.n2
     have hcl := HI.out.cl
     have hsl := HI.out.sl
     have hkd := HI.out.kd
     have HCH := Lib.hid hch
     obtain ⟨ca, cn, cc, rfl⟩ := hch.form
     have HO := Lib.hid hO
     obtain ⟨g1, cap1, hd1, e0, hc1, hu1, hN1⟩ := (hO.ksl z3).first (by rw [hrl]; omega) (rep_all n)
     rw [hrl] at e0 hc1
     rw [rep_head n hn1] at hN1
     subst e0
     clear hch hO
     have HN1 := Lib.hid hN1
     obtain ⟨gh, ch, rfl, -⟩ := id hN1
     clear hN1
     have hbs : (bs S).size ≤ 87 := by rw [bs_size]; omega
     obtain ⟨sb, hsb⟩ : ∃ sb, bs S = sb := ⟨_, rfl⟩
     have HSB := Lib.hid hsb
     rw [hsb] at hbs
     rw [hsb]
     clear hsb
     go_upto_if 48 with fail
     go_cut [13] (fun s13 w9 => s13 = .int .i64 (opOf Z ln k) ∧ wr = w9)
     case first =>
      by_cases h1 : k < ln
      ·obtain ⟨a, rfl, hz, hz1, hz2⟩ := HB3.out k h1
       have hz := bSome hbr hz
       obtain ⟨u, hu, hu1, hu2, hu3, hu4⟩ := kind_is (Z k)
       have hop := Lib.hid (show opOf Z ln k = Int.tmod (u + 3) 3 from (if_pos h1).trans hu3.symm)
       generalize opOf Z ln k = op0 at *
       clear HMG
       generalize Z k = z at *
       have hu7 : u = -2 ∨ u = -1 ∨ u = 0 ∨ u = 1 ∨ u = 2 := by omega
       rcases hu7 with rfl | rfl | rfl | rfl | rfl
       all_goals (go_wp2_with fail)
       all_goals go_meet
       all_goals exact ⟨by rw [hop.out]; rfl, rfl⟩
      ·have hop := Lib.hid (show opOf Z ln k = -1 from if_neg h1)
       go_wp2_with fail
       go_meet
       case rel => exact ⟨by rw [hop.out], rfl⟩
     case rest =>
      obtain ⟨rfl, rfl⟩ := hcut
      have HOP : (opOf Z ln k = -1 ∧ k = ln) ∨ (∃ o : Nat, opOf Z ln k = (o : Int) ∧ k < ln ∧ ops[k]? = some o ∧ o < 3) := by
       by_cases h1 : k < ln
       ·exact .inr ⟨kindOf (Z k), if_pos h1, h1, HMG.out k h1, HMT.out _ (List.mem_of_getElem? (HMG.out k h1))⟩
       ·exact .inl ⟨if_neg h1, by omega⟩
      generalize opOf Z ln k = op at *
      by_cases h0 : op = 0
      ·subst h0
       have hg0 : k < ln ∧ ops[k]? = some 0 := by
        rcases HOP with ⟨e, -⟩ | ⟨o, e, h1, h2, -⟩
        ·omega
        ·obtain rfl : o = 0 := by omega
         exact ⟨h1, h2⟩
       have HI2 := Lib.hid (HI.out.pipe hg0.2)
       have ES : sb ++ { data := #[32, 124, 32, 99] } = bs (S ++ [32, 124, 32, 99]) := by
        rw [← HSB.out, show ({ data := #[32, 124, 32, 99] } : ByteArray) = bs [32, 124, 32, 99] from rfl, bs_app9]
       have HES := Lib.hid ES
       clear ES HOP
       obtain ⟨us, u1, u2, u3⟩ := HO.out
       have u2' := u2
       rw [hrl] at u2'
       have hOA : ∀ o, (wr.alloc o).ownsRow w3.heap.size 23 1 (.slice (some ⟨g1, 0, none⟩) n cap1) n us := fun o => ownsRow_kept u2' (Kept.ofBelow (S := Nowhere) ((Below.refl _ wr).alloc (Nat.le_refl _) o)) (fun _ _ _ e => e)
       have hVPr := HVP.out.below hbr
       have hszr := hbr.size
       go_wp2_with (at_builtin; refine wpList_append_own _ rfl _ _ 39 rfl w3.heap.size 23 k0 _ 1 24 Tryz.underlying39 hk0 hk1 hk2 hk3 rfl (by decide) _ _ _ rfl (hOA _) ⟨wr.heap.size, 0, none⟩ 1 1 [.slice (some ⟨gp, 0, none⟩) Go.Proofs.YtepebnblbheegaaGreatDoor.oneC.length cp] rfl rfl ?c1 ?c2 ?c3 ?c4 ?c5 ?_)
       case c1 => exact cells_new (by simp)
       case c2 =>
        intro u hu
        simp at hu
        subst hu
        rfl
       case c3 => unfold maxLen; omega
       case c4 => omega
       case c5 => simp; omega
       intro v6 w6 hown' hgrow _
       obtain ⟨hO6, hb6⟩ := KOwn.grown (L := List.replicate n Go.Proofs.YtepebnblbheegaaGreatDoor.oneC) hszr u1 u2 u3 hVPr (by rw [hrl]; exact hown') hgrow
       rw [rep_snoc] at hO6
       have hch6 := HCH.out.over u2 hgrow
       go_wp2_with fail
       go_roundg (ln + 1 - (k + 1))
       case measure => omega
       case rel => exact ⟨k + 1, _, chain, kd, bang, n + 1, rfl, by omega, HI2, by rw [HES.out], hch6, hO6, rfl, rfl, by go_num, hbr.trans hb6⟩
      ·have zr : 9 < wr.heap.size := Nat.lt_of_lt_of_le z3 hbr.size
       go_upto_if 69 with fail
       go_cut [14] (fun s14 w9 => ∃ v, s14 = v ∧ NSl w9 9 v (pipeOf (List.replicate n Go.Proofs.YtepebnblbheegaaGreatDoor.oneC)) ∧ Below wr.heap.size wr w9)
       case first =>
        by_cases hp : 1 < n
        ·have y1 : decide ((1 : Int) < (n : Int)) = true := by rw [decide_eq_true_eq]; omega
         have HNW := Lib.hid (cNewS_any 32 0 [] (List.replicate n Go.Proofs.YtepebnblbheegaaGreatDoor.oneC) 9 _ wr zr (HO.out.ksl z3) (by rw [rep_flat]; omega) (by rw [hrl]; omega))
         have HPO := Lib.hid (show pipeOf (List.replicate n Go.Proofs.YtepebnblbheegaaGreatDoor.oneC) = newP 32 0 [] (List.replicate n Go.Proofs.YtepebnblbheegaaGreatDoor.oneC) from if_pos (by rw [hrl]; exact hp))
         go_wp2_with fail
         refine HNW.out.mono ?_
         rintro e w5 ⟨v5, rfl, hN5, hb5⟩
         go_wp2_with fail
         go_meet
         case rel => exact ⟨_, rfl, by rw [HPO.out]; exact hN5, hb5⟩
        ·have y1 : decide ((1 : Int) < (n : Int)) = false := by rw [decide_eq_false_iff_not]; omega
         have HPO := Lib.hid (show pipeOf (List.replicate n Go.Proofs.YtepebnblbheegaaGreatDoor.oneC) = Go.Proofs.YtepebnblbheegaaGreatDoor.oneC from (if_neg (by rw [hrl]; exact hp)).trans (rep_head n hn1))
         go_wp2_with fail
         go_meet
         case rel => exact ⟨_, rfl, by rw [HPO.out]; exact HN1.out, Below.refl _ _⟩
       case rest =>
        rename World => w5
        obtain ⟨v5, rfl, hN5, hb5⟩ := hcut
        have HN5 := Lib.hid hN5
        obtain ⟨g5, c5, rfl, -⟩ := id hN5
        have hPL := (pOf_wfp bang n hn1 (by omega)).2
        have hPL5 : (pipeOf (List.replicate n Go.Proofs.YtepebnblbheegaaGreatDoor.oneC)).length ≤ 30 := (pOf_wfp false n hn1 (by omega)).2
        have z5 : 9 < w5.heap.size := Nat.lt_of_lt_of_le zr hb5.size
        have HCH5 := Lib.hid (HCH.out.below hb5)
        have hB5 := bNext hbr hb5
        clear hN5 HN1 hc1 hu1 HO HCH
        go_upto_if 72 with fail
        go_cut [14] (fun s14 w9 => ∃ v, s14 = v ∧ NSl w9 9 v (pOf bang n) ∧ Below w5.heap.size w5 w9)
        case first =>
         cases bang with
         | true =>
          have HOP1 := Lib.hid (oneP_any 27 0 [] (pipeOf (List.replicate n Go.Proofs.YtepebnblbheegaaGreatDoor.oneC)) 9 _ w5 z5 HN5.out (by omega))
          generalize (pipeOf (List.replicate n Go.Proofs.YtepebnblbheegaaGreatDoor.oneC)).length = pl5 at *
          go_wp2_with fail
          refine HOP1.out.mono ?_
          rintro e w6 ⟨v6, rfl, hN6, hb6⟩
          go_wp2_with fail
          go_meet
          case rel => exact ⟨_, rfl, hN6, hb6⟩
         | false =>
          go_wp2_with fail
          go_meet
          case rel => exact ⟨_, rfl, HN5.out, Below.refl _ _⟩
        case rest =>
         rename World => w6
         obtain ⟨v6, rfl, hN6, hb6⟩ := hcut
         have HN6 := Lib.hid hN6
         obtain ⟨g6, c6, rfl, -⟩ := id hN6
         have z6 : 9 < w6.heap.size := Nat.lt_of_lt_of_le z5 hb6.size
         have HCH6 := Lib.hid (HCH5.out.below hb6)
         have hB6 := bNext hB5 hb6
         have hCO : (cOf kd chain (pOf bang n)).length ≤ chain.length + 31 := cOf_len hPL
         clear hN6 HN5 HCH5 hPL5
         go_upto_if 77 with fail
         go_cut [8] (fun s8 w9 => ∃ v, s8 = v ∧ NSl w9 9 v (cOf kd chain (pOf bang n)) ∧ Below w6.heap.size w6 w9)
         case first =>
          by_cases hk0 : kd = 0
          ·subst hk0
           have HCO := Lib.hid (show cOf 0 chain (pOf bang n) = pOf bang n from if_pos rfl)
           generalize (pOf bang n).length = pl6 at *
           go_wp2_with fail
           go_meet
           case rel => exact ⟨_, rfl, by rw [HCO.out]; exact HN6.out, Below.refl _ _⟩
          ·have HCO := Lib.hid (show cOf kd chain (pOf bang n) = newP (kd : Int) 0 [] [chain, pOf bang n] from if_neg hk0)
           have hNC : NSl w6 9 (.slice ca cn cc) chain := by
            rcases HCH6.out with ⟨e, -⟩ | ⟨-, h⟩
            ·exact absurd e hk0
            ·exact h
           have HTW := Lib.hid (twoP_any (kd : Int) 0 chain (pOf bang n) 9 _ _ w6 z6 hNC HN6.out (by omega))
           have y1 : ((kd : Int) == 0) = false := by rw [beq_eq_false_iff_ne]; omega
           generalize (pOf bang n).length = pl6 at *
           go_wp2_with fail
           refine HTW.out.mono ?_
           rintro e w7 ⟨v7, rfl, hN7, hb7⟩
           go_wp2_with fail
           go_meet
           case rel => exact ⟨_, rfl, by rw [HCO.out]; exact hN7, hb7⟩
         case rest =>
          rename World => w7
          obtain ⟨v7, rfl, hN7, hb7⟩ := hcut
          have HN7 := Lib.hid hN7
          obtain ⟨g7, c7, rfl, -⟩ := id hN7
          have z7 : 9 < w7.heap.size := Nat.lt_of_lt_of_le z6 hb7.size
          have hB7 := bNext hB6 hb7
          clear hN7 HN6 HCH6
          rcases HOP with ⟨rfl, rfl⟩ | ⟨o, rfl, h1, h2, h3⟩
          ·have HD := Lib.hid (show parseA S = .ok (cOf kd chain (pOf bang n)) ∧ (cOf kd chain (pOf bang n)).length ≤ 31 * 13 from by
            have h := HI.out
            have e := HML.out
            rw [← e] at h
            exact h.done (by omega) HMT.out)
           obtain ⟨cl7, hcl7⟩ : ∃ m, (cOf kd chain (pOf bang n)).length = m := ⟨_, rfl⟩
           have HCL7 := Lib.hid hcl7
           rw [hcl7]
           clear hcl7 hCO hPL
           go_wp2_with fail
           go_meet
           case rel => exact ⟨S, _, _, by rw [HSB.out], HD.out.1, by omega, by have := HD.out.2; omega, by rw [HCL7.out], HN7.out, hB7⟩
          ·obtain ⟨q, rfl⟩ : ∃ q, o = q + 1 := ⟨o - 1, by omega⟩
           have hq : q = 0 ∨ q = 1 := by omega
           have HI2 := Lib.hid (HI.out.op (by have := HML.out; omega) h2)
           have HEX := Lib.hid (show (sb ++ { data := #[32, 38, 38, 32] }).extract 0 sb.size = sb from by rw [← HSB.out]; exact ext_front S [32, 38, 38, 32])
           obtain ⟨cl7, hcl7⟩ : ∃ m, (cOf kd chain (pOf bang n)).length = m := ⟨_, rfl⟩
           have HCL7 := Lib.hid hcl7
           rw [hcl7]
           clear hcl7 hCO hPL h0 h2 h3 HI
           go_upto_if 89 with fail
           go_cut [6, 11] (fun s6 s11 w9 => s6 = .string (bs (S ++ (if q = 0 then [32, 38, 38, 32] else [32, 124, 124, 32]))) ∧ s11 = .int .i64 ((if q = 0 then 25 else 26 : Nat) : Int) ∧ w7 = w9)
           case first =>
            rcases hq with rfl | rfl
            ·go_wp2_with fail
             go_meet
             case rel => exact ⟨by rw [← HSB.out]; exact congrArg Value.string (bs_app9 S [32, 38, 38, 32]), rfl, rfl⟩
            ·go_wp2_with fail
             go_meet
             case rel => exact ⟨(congrArg (fun x => Value.string (x ++ { data := #[32, 124, 124, 32] })) HEX.out).trans (by rw [← HSB.out]; exact congrArg Value.string (bs_app9 S [32, 124, 124, 32])), rfl, rfl⟩
           case rest =>
            obtain ⟨rfl, rfl, rfl⟩ := hcut
            clear HEX hbs
            obtain ⟨S1, hS1⟩ : ∃ S1 : List UInt8, S ++ (if q = 0 then [32, 38, 38, 32] else [32, 124, 124, 32]) = S1 := ⟨_, rfl⟩
            obtain ⟨kd1, hkd1⟩ : ∃ kd1 : Nat, (if q = 0 then 25 else 26) = kd1 := ⟨_, rfl⟩
            have hl1 : S1.length ≤ 91 := by
             rw [← hS1, List.length_append]
             have h4 : (if q = 0 then [32, 38, 38, 32] else [32, 124, 124, 32] : List UInt8).length = 4 := by split <;> rfl
             omega
            have HKN : kd1 ≠ 0 := by
             rw [← hkd1]
             split <;> decide
            have HS1 := Lib.hid hS1
            rw [hkd1] at HI2
            rw [hS1, hkd1]
            clear hS1 hkd1
            go_upto_region 36 with fail
            go_cut [10] (fun s10 w9 => s10 = .bool (nots (k + 1)) ∧ w7 = w9)
            case first =>
             by_cases hl2 : k + 1 < ln2
             ·obtain ⟨a2, rfl, hz⟩ := HY3.out (k + 1) hl2
              have hz := bSome hB7 hz
              rw [show a2.add (k + 1) = ⟨a2.block, a2.off + (k + 1), none⟩ from if_neg (by omega)] at hz
              have e0 := Lib.hid (HNT.out (k + 1) hl2)
              have y1 : decide ((k : Int) + 1 < (ln2 : Int)) = true := by rw [decide_eq_true_eq]; omega
              go_wp2_with fail
              go_meet
              case rel => exact ⟨by rw [e0.out], rfl⟩
             ·have e0 := Lib.hid (HNF.out (k + 1) hl2)
              have y1 : decide ((k : Int) + 1 < (ln2 : Int)) = false := by rw [decide_eq_false_iff_not]; omega
              go_wp2_with fail
              go_meet
              case rel => exact ⟨by rw [e0.out], rfl⟩
            case rest =>
             obtain ⟨rfl, rfl⟩ := hcut
             obtain ⟨b1, hb1⟩ : ∃ b1, nots (k + 1) = b1 := ⟨_, rfl⟩
             rw [hb1] at HI2
             rw [hb1]
             clear hb1
             have hbs1 : (bs S1).size ≤ 91 := by rw [bs_size]; exact hl1
             obtain ⟨sb1, hsb1⟩ : ∃ sb, bs S1 = sb := ⟨_, rfl⟩
             have HSB1 := Lib.hid hsb1
             rw [hsb1] at hbs1
             rw [hsb1]
             clear hsb1
             go_upto_if 108 with fail
             go_cut [6] (fun s6 w9 => s6 = .string (bs (S1 ++ (if b1 = true then [33, 32] else []))) ∧ w7 = w9)
             case first =>
              cases b1 with
              | true =>
               go_wp2_with fail
               go_meet
               case rel => exact ⟨by rw [← HSB1.out]; exact congrArg Value.string (bs_app9 S1 [33, 32]), rfl⟩
              | false =>
               go_wp2_with fail
               go_meet
               case rel => exact ⟨by rw [← HSB1.out]; exact congrArg (fun x => Value.string (bs x)) (List.append_nil S1).symm, rfl⟩
             case rest =>
              obtain ⟨rfl, rfl⟩ := hcut
              obtain ⟨S2, hS2⟩ : ∃ S2 : List UInt8, S1 ++ (if b1 = true then [33, 32] else []) = S2 := ⟨_, rfl⟩
              have HS2 := Lib.hid hS2
              have hl2 : S2.length ≤ 93 := by
               rw [← hS2, List.length_append]
               have h4 : (if b1 = true then [33, 32] else [] : List UInt8).length ≤ 2 := by split <;> decide
               omega
              rw [hS2]
              clear hS2
              have HS3 := Lib.hid (show S2 ++ [99] = S ++ ((if q = 0 then [32, 38, 38, 32] else [32, 124, 124, 32]) ++ ((if b1 = true then [33, 32] else []) ++ [99])) from by
               rw [← HS2.out, ← HS1.out]
               simp only [List.append_assoc])
              have HSE := Lib.hid (bs_app9 S2 [99])
              have hbs2 : (bs S2).size ≤ 93 := by rw [bs_size]; exact hl2
              generalize bs S2 = sb2 at *
              have hVP7 := HVP.out.below hB7
              have hO8 := KOwn.new1 (B := w3.heap.size) (by have := hB7.size; omega) hVP7
              have hb8 := (Below.refl w7.heap.size w7).alloc (Nat.le_refl _) (.cells #[.slice (some ⟨gp, 0, none⟩) Go.Proofs.YtepebnblbheegaaGreatDoor.oneC.length cp] 23)
              have hB8 := bNext hB7 hb8
              have hN8 := HN7.out.below hb8
              go_wp2_with fail
              go_roundg (ln + 1 - (k + 1))
              case measure => omega
              case rel => exact ⟨k + 1, _, cOf kd chain (pOf bang n), kd1, b1, 1, rfl, by omega, HI2, by rw [← HS3.out, ← HSE.out]; rfl, .inr ⟨HKN, by rw [← HCL7.out]; exact hN8⟩, hO8, rfl, rfl, by go_num, hB8⟩
   case rest =>
    rename World => w5
    obtain ⟨S, C, v, rfl, hp, hs, hc, rfl, hv, hb5⟩ := hcut
    have HV := Lib.hid hv
    obtain ⟨gv, cv, rfl, -⟩ := id hv
    have hB5 := bNext hB3 hb5
    have hS5 := hS.below hB5
    have hm5 := hmx.elim fun m hm => (⟨m, bSome hB5 hm⟩ : ∃ m, w5.cell? ⟨9, 0, none⟩ = some (.int .i64 m))
    have ht5 := bSome hB5 het
    have HP := Lib.hid hp
    clear hv hp HB3 HY3 HVP HML HMT HMG HNT HNF HO4 HI0 hS hmx het hB3 hb5 hb4
    go_wp2_with fail
    refine (parse_okA S C HP.out (by omega) w5 sent hS5 hm5 ht5).mono ?_
    rintro e w6 ⟨g6, c6, b6, rfl, hN6, hb6⟩
    have HN6 := Lib.hid hN6
    have HV6 := Lib.hid (HV.out.below hb6)
    have hB6 := bNext hB5 hb6
    have hcl : C.length ≤ 100000000 := by omega
    have HCL := Lib.hid hcl
    clear hcl
    clear hN6 HV hS5 hm5 ht5 hB5 hb6 HP
    generalize hpq : C.length = pl at *
    have HPQ := Lib.hid hpq
    clear hpq
    go_wp2_with fail
    refine (cSame_eq C b6 9 _ _ w6 HN6.out HV6.out (by rw [HPQ.out]; exact HCL.out)).mono ?_
    rintro e w7 ⟨rfl, hb7⟩
    have hB7 := bNext hB6 hb7
    go_wp2_with fail
    go_ret
    exact ⟨rfl, hB7⟩
theorem chainsLawA_all (ao : Option Addr) (ln cap : Nat) (ao2 : Option Addr) (ln2 cap2 : Nat) (w : World) (sent : Nat → Addr) (hS : Sents w sent) (hmx : ∃ m, w.cell? ⟨9, 0, none⟩ = some (.int .i64 m)) (het : w.cell? ⟨18, 0, none⟩ = some (.iface 162 (.agg #[.pointer (some ⟨19, 25, none⟩)]))) (hln : ln ≤ cap) (hcap : cap ≤ maxLen) (hB : IntsAt w ao ln) (hln2 : ln2 ≤ cap2) (hcap2 : cap2 ≤ maxLen) (hY : BoolsAt w ao2 ln2) :
  Calls Tryz.prog 11 #[.slice ao ln cap, .slice ao2 ln2 cap2] w fun e w' => e = .returned (.bool true) ∧ Below w.heap.size w w' := by
 by_cases h12 : ln ≤ 12
 ·obtain ⟨Z, hZ⟩ := hB.of
  obtain ⟨Y, hY⟩ := hY.of
  exact chainsLawA_in ao ln cap Z ao2 ln2 cap2 Y w sent hS hmx het hln hcap hZ h12 hln2 hcap2 hY
 ·have h13 : 12 < ln := by omega
  clear hB h12 hY
  go_enter Tryz.func11, Tryz.ntmps11
  go_wp2_with fail
  refine (first11_any _ sent hS hmx het).mono ?_
  rintro e w1 ⟨rfl, hb1⟩
  go_wp2_with fail
  go_ret
  exact ⟨rfl, hb1⟩
end Go.Proofs.YtepebnblbheegaaGreatDoor
