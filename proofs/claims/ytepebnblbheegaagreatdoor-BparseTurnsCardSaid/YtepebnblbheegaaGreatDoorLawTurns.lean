/- BparseTurns. -/
import Derived.Test.YtepebnblbheegaaGreatDoorLawKit
import Derived.Test.YtepebnblbheegaaGreatDoorParseTG
namespace Go.Proofs.YtepebnblbheegaaGreatDoor
open Go Go.RowKit

/-- A mode, as a number below four. -/
def modeOf (z : Int) : Nat := (Int.tmod (Int.tmod z 4 + 4) 4).toNat
theorem mode_is (z : Int) : ∃ u : Int, Int.tmod z 4 = u ∧ -3 ≤ u ∧ u ≤ 3 ∧ Int.tmod (u + 4) 4 = modeOf z ∧ modeOf z < 4 := by
  have h1 := Int.tmod_lt_of_pos z (show (0 : Int) < 4 by omega)
  have h2 := Int.lt_tmod_of_pos z (show (0 : Int) < 4 by omega)
  have h3 : Int.tmod (Int.tmod z 4 + 4) 4 = (Int.tmod z 4 + 4) % 4 := Int.tmod_eq_emod_of_nonneg (by omega)
  exact ⟨_, rfl, by omega, by omega, by unfold modeOf; rw [h3]; omega, by unfold modeOf; rw [h3]; omega⟩
def modesOf (Z : Nat → Int) (n : Nat) : List Nat := (List.range n).map fun i => modeOf (Z i)
theorem modes_len (Z : Nat → Int) (n : Nat) : (modesOf Z n).length = n := by simp [modesOf]
theorem modes_get (Z : Nat → Int) (n k : Nat) (h : k < n) : (modesOf Z n)[k]? = some (modeOf (Z k)) := by
  unfold modesOf
  rw [List.getElem?_map, List.getElem?_range h]
  rfl
theorem turns_snoc (ms : List Nat) (k m : Nat) (h : ms[k]? = some m) : turnsSrc (ms.take k) ++ turnSrc m = turnsSrc (ms.take (k + 1)) := by
  obtain ⟨hk, e⟩ := List.getElem?_eq_some_iff.1 h
  rw [List.take_succ_eq_append_getElem hk, e]
  simp [turnsSrc]
theorem turns_size : ∀ (ms : List Nat), (turnsSrc ms).length ≤ 7 * ms.length
  | [] => Nat.le_refl _
  | m :: ms => by
    have ih := turns_size ms
    have h : turnsSrc (m :: ms) = turnSrc m ++ turnsSrc ms := by simp [turnsSrc]
    have h2 : (turnSrc m).length ≤ 7 := by
      unfold turnSrc
      (repeat' split) <;> simp
    rw [h, List.length_append, List.length_cons]
    omega
theorem around_cons (ms : List Nat) (k m : Nat) (h : ms[k]? = some m) : aroundP ((ms.drop k).map turnP) callA = (if m = 3 then newP 34 0 [] [newP 2 0 [102] [], aroundP ((ms.drop (k + 1)).map turnP) callA] else newP 33 ((turnK m : Int) - 10) [] [newP 2 0 [102] [], aroundP ((ms.drop (k + 1)).map turnP) callA]) ∨ 3 < m := by
  by_cases h3 : 3 < m
  · exact .inr h3
  refine .inl ?_
  obtain ⟨hk, e⟩ := List.getElem?_eq_some_iff.1 h
  rw [List.drop_eq_getElem_cons hk, e, List.map_cons]
  unfold aroundP
  rw [List.foldr_cons]
  have hm : (turnP m).1 = 14 ↔ m = 3 := by
    unfold turnP turnK
    dsimp only
    (repeat' split) <;> omega
  by_cases h0 : m = 3
  · rw [if_pos (hm.2 h0), if_pos h0]
    rfl
  · rw [if_neg (fun x => h0 (hm.1 x)), if_neg h0]
    rfl
theorem around_lenT (ms : List Nat) (k : Nat) : (aroundP ((ms.drop k).map turnP) callA).length ≤ 2 * ms.length + 2 := by
  rw [around_size]
  have := List.length_drop (i := k) (l := ms)
  omega

set_option maxRecDepth 100000 in
set_option maxHeartbeats 16000000 in
theorem turnsLaw_in (ao : Option Addr) (ln cap : Nat) (Z : Nat → Int) (pipe : Bool) (w : World) (sent : Nat → Addr) (hS : Sents w sent) (hmx : ∃ m, w.cell? ⟨9, 0, none⟩ = some (.int .i64 m)) (hln : ln ≤ cap) (_hcap : cap ≤ maxLen) (hB : IntsOf w ao ln Z) (h10 : ln ≤ 10) :
    Calls Tryz.prog 7 #[.slice ao ln cap, .bool pipe] w fun e w' => e = .returned (.bool true) ∧ Below w.heap.size w w' := by
  have HB := Lib.hid hB
  clear hB
  go_enter Tryz.func7, Tryz.ntmps7
  go_wp2_with fail
  refine (first13_any _ sent hS hmx).mono ?_
  rintro e w1 ⟨rfl, hb1⟩
  have hm1 := hmx.elim fun m hm => (⟨m, bSome hb1 hm⟩ : ∃ m, w1.cell? ⟨9, 0, none⟩ = some (.int .i64 m))
  have hS1 := hS.below hb1
  have HB1 := Lib.hid (HB.out.below hb1)
  have hgm : 9 < w1.heap.size := hm1.elim fun m hm => block_lt_of_cell hm
  clear hS hmx HB
  go_wp2_with fail
  refine (cLit_any [97] 9 _ hgm).mono ?_
  rintro e w2 ⟨vb, rfl, hvb, hb2⟩
  have z2 : 9 < w2.heap.size := Nat.lt_of_lt_of_le hgm hb2.size
  have HVB := Lib.hid hvb
  obtain ⟨gb, cb, rfl, -⟩ := id hvb
  clear hvb
  go_wp2_with fail
  refine (callP_any [97] 9 _ w2 z2 HVB.out).mono ?_
  rintro e w3 ⟨va, rfl, hva, hb3⟩
  have z3 : 9 < w3.heap.size := Nat.lt_of_lt_of_le z2 hb3.size
  have HVA := Lib.hid (show NSl w3 9 va callA from hva)
  obtain ⟨ga, ca, rfl, -⟩ := id HVA.out
  have hB3 := bNext hb2 hb3
  have HB3 := Lib.hid (HB1.out.below hB3)
  have hS3 := hS1.below hB3
  have hm3 := hm1.elim fun m hm => (⟨m, bSome hB3 hm⟩ : ∃ m, w3.cell? ⟨9, 0, none⟩ = some (.int .i64 m))
  have hB := bNext hb1 hB3
  clear hva HVB hb2 hb3 HB1 hS1 hm1 hb1 hB3 z2 hgm
  obtain ⟨ms, hms⟩ : ∃ ms, modesOf Z ln = ms := ⟨_, rfl⟩
  have HML := Lib.hid (show ms.length = ln from by rw [← hms]; exact modes_len Z ln)
  have HMG : Hid (∀ k, k < ln → ms[k]? = some (modeOf (Z k))) := Lib.hid fun k hk => by rw [← hms]; exact modes_get Z ln k hk
  clear hms
  have HE : Hid (∀ k, k < ln → bs (turnsSrc (ms.take k)) ++ bs (turnSrc (modeOf (Z k))) = bs (turnsSrc (ms.take (k + 1))) ∧ (bs (turnsSrc (ms.take k))).size ≤ 70 ∧ (bs (turnsSrc (ms.take (k + 1)))).size ≤ 70) := Lib.hid fun k hk => by
    have l0 := turns_size (ms.take k)
    have l1 := turns_size (ms.take (k + 1))
    rw [List.length_take] at l0 l1
    have := HML.out
    rw [bs_size, bs_size]
    refine ⟨?_, by omega, by omega⟩
    rw [bs_app9, turns_snoc ms k _ (HMG.out k hk)]
  go_upto_block 0 with fail
  go_cut [6] (fun s6 w9 => s6 = .string (bs (turnsSrc ms)) ∧ Below w3.heap.size w3 w9)
  case first =>
    go_wp2_with fail
    go_loopg [6, 9] ln (fun m s i wr => ∃ k : Nat, m = ln - k ∧ k ≤ ln ∧ s = .string (bs (turnsSrc (ms.take k))) ∧ i = .int .i64 k ∧ Below w3.heap.size w3 wr)
    case atStart => exact ⟨0, rfl, Nat.zero_le _, rfl, rfl, Below.refl _ _⟩
    case round =>
      obtain ⟨k, rfl, hk, rfl, rfl, hbr⟩ := hrel
      by_cases h1 : k < ln
      · obtain ⟨a, rfl, hz, hz1, hz2⟩ := HB3.out k h1
        have hz := bSome hbr hz
        obtain ⟨u, hu, hu1, hu2, hu3, hu4⟩ := mode_is (Z k)
        obtain ⟨E, y1, y2⟩ := HE.out k h1
        generalize Z k = z at *
        generalize modeOf z = md at *
        obtain ⟨du, hdu⟩ : ∃ du, bs (turnsSrc (ms.take (k + 1))) = du := ⟨_, rfl⟩
        rw [hdu] at E y2
        have HDU := Lib.hid hdu
        clear hdu
        generalize bs (turnsSrc (ms.take k)) = dt at *
        have hbz := hbr.alloc hbr.size (.cells #[.string { data := #[60] }, .string { data := #[32, 62, 32] }, .string { data := #[62, 62] }, .string { data := #[32, 60, 60, 60, 32] }] 9)
        have hz9 := bSome ((Below.refl _ wr).alloc (Nat.le_refl _) (.cells #[.string { data := #[60] }, .string { data := #[32, 62, 32] }, .string { data := #[62, 62] }, .string { data := #[32, 60, 60, 60, 32] }] 9)) hz
        have h4 : md = 0 ∨ md = 1 ∨ md = 2 ∨ md = 3 := by omega
        rcases h4 with rfl | rfl | rfl | rfl
        · have E2 : dt ++ { data := #[60] } ++ { data := #[36, 102] } = du := by
            rw [← E, show bs (turnSrc 0) = ({ data := #[60] } ++ { data := #[36, 102] } : ByteArray) from rfl, ByteArray.append_assoc]
          have HE2 := Lib.hid E2
          clear E E2
          go_wp2_with fail
          go_roundg (ln - (k + 1))
          case measure => omega
          case rel => exact ⟨k + 1, rfl, by omega, by rw [HE2.out, HDU.out], by go_num, hbz⟩
        · have E2 : dt ++ { data := #[32, 62, 32] } ++ { data := #[36, 102] } = du := by
            rw [← E, show bs (turnSrc 1) = ({ data := #[32, 62, 32] } ++ { data := #[36, 102] } : ByteArray) from rfl, ByteArray.append_assoc]
          have HE2 := Lib.hid E2
          clear E E2
          go_wp2_with fail
          go_roundg (ln - (k + 1))
          case measure => omega
          case rel => exact ⟨k + 1, rfl, by omega, by rw [HE2.out, HDU.out], by go_num, hbz⟩
        · have E2 : dt ++ { data := #[62, 62] } ++ { data := #[36, 102] } = du := by
            rw [← E, show bs (turnSrc 2) = ({ data := #[62, 62] } ++ { data := #[36, 102] } : ByteArray) from rfl, ByteArray.append_assoc]
          have HE2 := Lib.hid E2
          clear E E2
          go_wp2_with fail
          go_roundg (ln - (k + 1))
          case measure => omega
          case rel => exact ⟨k + 1, rfl, by omega, by rw [HE2.out, HDU.out], by go_num, hbz⟩
        · have E2 : dt ++ { data := #[32, 60, 60, 60, 32] } ++ { data := #[36, 102] } = du := by
            rw [← E, show bs (turnSrc 3) = ({ data := #[32, 60, 60, 60, 32] } ++ { data := #[36, 102] } : ByteArray) from rfl, ByteArray.append_assoc]
          have HE2 := Lib.hid E2
          clear E E2
          go_wp2_with fail
          go_roundg (ln - (k + 1))
          case measure => omega
          case rel => exact ⟨k + 1, rfl, by omega, by rw [HE2.out, HDU.out], by go_num, hbz⟩
      · obtain rfl : k = ln := by omega
        go_wp2_with fail
        go_meet
        case rel => exact ⟨by rw [List.take_of_length_le (by have := HML.out; omega)], hbr⟩
  case rest =>
    rename World => w4
    obtain ⟨rfl, hb4⟩ := hcut
    have HB4 := Lib.hid (HB3.out.below hb4)
    have hS4 := hS3.below hb4
    have hm4 := hm3.elim fun m hm => (⟨m, bSome hb4 hm⟩ : ∃ m, w4.cell? ⟨9, 0, none⟩ = some (.int .i64 m))
    have hB4 := bNext hB hb4
    have HVA4 := Lib.hid (HVA.out.below hb4)
    have z4 : 9 < w4.heap.size := Nat.lt_of_lt_of_le z3 hb4.size
    clear HB3 hS3 hm3 hB hb4 HVA z3 HE
    have HSZ := Lib.hid (turns_size ms)
    obtain ⟨S, hS0⟩ : ∃ S, turnsSrc ms = S := ⟨_, rfl⟩
    have PA := Lib.hid (parse_a ms (by have := HML.out; omega))
    have PB := Lib.hid (parse_b ms (by have := HML.out; omega))
    have PN := Lib.hid (parse_n ms (by have := HML.out; omega))
    have PX := Lib.hid (parse_x ms)
    rw [hS0] at HSZ PA PB PN PX ⊢
    have hSl : S.length ≤ 70 := by have := HSZ.out; have := HML.out; omega
    clear hS0 HSZ
    go_upto_block 2 with fail
    go_cut [8] (fun s8 w9 => ∃ v, s8 = v ∧ NSl w9 9 v (aroundP ((ms.drop 0).map turnP) callA) ∧ Below w4.heap.size w4 w9)
    case first =>
      go_wp2_with fail
      go_loopg [8, 10] ln (fun m p i wr => ∃ (k : Nat) (v : Value), k = m ∧ k ≤ ln ∧ p = v ∧ NSl wr 9 v (aroundP ((ms.drop k).map turnP) callA) ∧ i = .int .i64 ((k : Int) - 1) ∧ Below w4.heap.size w4 wr)
      case atStart => exact ⟨ln, _, rfl, Nat.le_refl _, rfl, by rw [List.drop_of_length_le (by have := HML.out; omega)]; exact HVA4.out, rfl, Below.refl _ _⟩
      case round =>
        clear HVA4
        obtain ⟨k, v, rfl, hk, rfl, hv, rfl, hbr⟩ := hrel
        have HV := Lib.hid hv
        obtain ⟨gv, cv, rfl, -⟩ := id hv
        clear hv
        by_cases h1 : 0 < k
        · obtain ⟨q, rfl⟩ : ∃ q, k = q + 1 := ⟨k - 1, by omega⟩
          have hkk : ((q + 1 : Nat) : Int) - 1 = (q : Int) := by omega
          rw [hkk]
          obtain ⟨a, rfl, hz, hz1, hz2⟩ := HB4.out q (by omega)
          have hz := bSome hbr hz
          obtain ⟨u, hu, hu1, hu2, hu3, hu4⟩ := mode_is (Z q)
          have HAC := Lib.hid (around_cons ms q _ (HMG.out q (by omega)))
          have HAL := Lib.hid (around_lenT ms (q + 1))
          generalize Z q = z at *
          generalize modeOf z = md at *
          generalize hlv : (aroundP ((ms.drop (q + 1)).map turnP) callA).length = lv at *
          have HLV := Lib.hid hlv
          clear hlv hkk
          have zr : 9 < wr.heap.size := Nat.lt_of_lt_of_le z4 hbr.size
          have h4 : md = 0 ∨ md = 1 ∨ md = 2 ∨ md = 3 := by omega
          rcases h4 with rfl | rfl | rfl | rfl
          · have HA2 := Lib.hid (HAC.out.resolve_right (by omega))
            clear HAC
            go_wp2_with fail
            refine (cNewS_any 2 0 [102] [] 9 _ wr zr (KSl.nil _ _) (by simp) (by simp)).mono ?_
            rintro e w6 ⟨vf, rfl, hvf, hb6⟩
            have HVF := Lib.hid hvf
            obtain ⟨gf, cf, rfl, -⟩ := id hvf
            have z6 : 9 < w6.heap.size := Nat.lt_of_lt_of_le zr hb6.size
            have HV6 := Lib.hid (HV.out.below hb6)
            have hB6 := bNext hbr hb6
            clear hvf hb6 HV hbr
            go_wp2_with fail
            refine (twoP_any 33 1 (newP 2 0 [102] []) (aroundP ((ms.drop (q + 1)).map turnP) callA) 9 _ _ w6 z6 HVF.out HV6.out (by rw [HLV.out, show (newP 2 0 [102] []).length = 1 from rfl]; have := HAL.out; have := HML.out; omega)).mono ?_
            rintro e w7 ⟨vn, rfl, hvn, hb7⟩
            have HVN := Lib.hid (show NSl w7 9 vn (aroundP ((ms.drop q).map turnP) callA) from by rw [HA2.out]; exact hvn)
            obtain ⟨gn, cn, rfl, -⟩ := id HVN.out
            have hB7 := bNext hB6 hb7
            clear hvn hb7 hB6 HV6 HVF HA2
            generalize (aroundP ((ms.drop q).map turnP) callA).length = ll at *
            go_wp2_with fail
            go_roundg q
            case measure => omega
            case rel => exact ⟨q, _, rfl, by omega, rfl, HVN.out, by go_num, hB7⟩
          · have HA2 := Lib.hid (HAC.out.resolve_right (by omega))
            clear HAC
            go_wp2_with fail
            refine (cNewS_any 2 0 [102] [] 9 _ wr zr (KSl.nil _ _) (by simp) (by simp)).mono ?_
            rintro e w6 ⟨vf, rfl, hvf, hb6⟩
            have HVF := Lib.hid hvf
            obtain ⟨gf, cf, rfl, -⟩ := id hvf
            have z6 : 9 < w6.heap.size := Nat.lt_of_lt_of_le zr hb6.size
            have HV6 := Lib.hid (HV.out.below hb6)
            have hB6 := bNext hbr hb6
            clear hvf hb6 HV hbr
            go_wp2_with fail
            refine (twoP_any 33 2 (newP 2 0 [102] []) (aroundP ((ms.drop (q + 1)).map turnP) callA) 9 _ _ w6 z6 HVF.out HV6.out (by rw [HLV.out, show (newP 2 0 [102] []).length = 1 from rfl]; have := HAL.out; have := HML.out; omega)).mono ?_
            rintro e w7 ⟨vn, rfl, hvn, hb7⟩
            have HVN := Lib.hid (show NSl w7 9 vn (aroundP ((ms.drop q).map turnP) callA) from by rw [HA2.out]; exact hvn)
            obtain ⟨gn, cn, rfl, -⟩ := id HVN.out
            have hB7 := bNext hB6 hb7
            clear hvn hb7 hB6 HV6 HVF HA2
            generalize (aroundP ((ms.drop q).map turnP) callA).length = ll at *
            go_wp2_with fail
            go_roundg q
            case measure => omega
            case rel => exact ⟨q, _, rfl, by omega, rfl, HVN.out, by go_num, hB7⟩
          · have HA2 := Lib.hid (HAC.out.resolve_right (by omega))
            clear HAC
            go_wp2_with fail
            refine (cNewS_any 2 0 [102] [] 9 _ wr zr (KSl.nil _ _) (by simp) (by simp)).mono ?_
            rintro e w6 ⟨vf, rfl, hvf, hb6⟩
            have HVF := Lib.hid hvf
            obtain ⟨gf, cf, rfl, -⟩ := id hvf
            have z6 : 9 < w6.heap.size := Nat.lt_of_lt_of_le zr hb6.size
            have HV6 := Lib.hid (HV.out.below hb6)
            have hB6 := bNext hbr hb6
            clear hvf hb6 HV hbr
            go_wp2_with fail
            refine (twoP_any 33 3 (newP 2 0 [102] []) (aroundP ((ms.drop (q + 1)).map turnP) callA) 9 _ _ w6 z6 HVF.out HV6.out (by rw [HLV.out, show (newP 2 0 [102] []).length = 1 from rfl]; have := HAL.out; have := HML.out; omega)).mono ?_
            rintro e w7 ⟨vn, rfl, hvn, hb7⟩
            have HVN := Lib.hid (show NSl w7 9 vn (aroundP ((ms.drop q).map turnP) callA) from by rw [HA2.out]; exact hvn)
            obtain ⟨gn, cn, rfl, -⟩ := id HVN.out
            have hB7 := bNext hB6 hb7
            clear hvn hb7 hB6 HV6 HVF HA2
            generalize (aroundP ((ms.drop q).map turnP) callA).length = ll at *
            go_wp2_with fail
            go_roundg q
            case measure => omega
            case rel => exact ⟨q, _, rfl, by omega, rfl, HVN.out, by go_num, hB7⟩
          · have HA2 := Lib.hid (HAC.out.resolve_right (by omega))
            clear HAC
            go_wp2_with fail
            refine (cNewS_any 2 0 [102] [] 9 _ wr zr (KSl.nil _ _) (by simp) (by simp)).mono ?_
            rintro e w6 ⟨vf, rfl, hvf, hb6⟩
            have HVF := Lib.hid hvf
            obtain ⟨gf, cf, rfl, -⟩ := id hvf
            have z6 : 9 < w6.heap.size := Nat.lt_of_lt_of_le zr hb6.size
            have HV6 := Lib.hid (HV.out.below hb6)
            have hB6 := bNext hbr hb6
            clear hvf hb6 HV hbr
            go_wp2_with fail
            refine (twoP_any 34 0 (newP 2 0 [102] []) (aroundP ((ms.drop (q + 1)).map turnP) callA) 9 _ _ w6 z6 HVF.out HV6.out (by rw [HLV.out, show (newP 2 0 [102] []).length = 1 from rfl]; have := HAL.out; have := HML.out; omega)).mono ?_
            rintro e w7 ⟨vn, rfl, hvn, hb7⟩
            have HVN := Lib.hid (show NSl w7 9 vn (aroundP ((ms.drop q).map turnP) callA) from by rw [HA2.out]; exact hvn)
            obtain ⟨gn, cn, rfl, -⟩ := id HVN.out
            have hB7 := bNext hB6 hb7
            clear hvn hb7 hB6 HV6 HVF HA2
            generalize (aroundP ((ms.drop q).map turnP) callA).length = ll at *
            go_wp2_with fail
            go_roundg q
            case measure => omega
            case rel => exact ⟨q, _, rfl, by omega, rfl, HVN.out, by go_num, hB7⟩
        · obtain rfl : k = 0 := by omega
          go_wp2_with fail
          go_meet
          case rel => exact ⟨_, rfl, HV.out, hbr⟩
    case rest =>
      rename World => w5
      obtain ⟨v, rfl, hv, hb5⟩ := hcut
      rw [List.drop_zero] at hv
      have HV := Lib.hid hv
      obtain ⟨gv, cv, rfl, -⟩ := id hv
      have hS5 := hS4.below hb5
      have hm5 := hm4.elim fun m hm => (⟨m, bSome hb5 hm⟩ : ∃ m, w5.cell? ⟨9, 0, none⟩ = some (.int .i64 m))
      have hB5 := bNext hB4 hb5
      have HVA5 := Lib.hid (HVA4.out.below hb5)
      have HPL := Lib.hid (show (aroundP (ms.map turnP) callA).length ≤ 22 from by have := around_size ms; have := HML.out; omega)
      generalize aroundP (ms.map turnP) callA = P at *
      clear hv HB4 hS4 hm4 hB4 hb5 HVA4 HMG
      have EA := Lib.hid (show ({ data := #[123, 97, 125] } : ByteArray) ++ bs S = bs (123 :: 97 :: 125 :: S) from by rw [show ({ data := #[123, 97, 125] } : ByteArray) = bs [123, 97, 125] from rfl, bs_app9]; rfl)
      have EB := Lib.hid (show ({ data := #[97, 32] } : ByteArray) ++ bs S = bs (97 :: 32 :: S) from by rw [show ({ data := #[97, 32] } : ByteArray) = bs [97, 32] from rfl, bs_app9]; rfl)
      have EC := Lib.hid (show ({ data := #[97, 32, 124, 32, 97, 32] } : ByteArray) ++ bs S ++ { data := #[32, 124, 32, 33, 97] } = bs (97 :: 32 :: 124 :: 32 :: 97 :: 32 :: (S ++ [32, 124, 32, 33, 97])) from by
        rw [show ({ data := #[97, 32, 124, 32, 97, 32] } : ByteArray) = bs [97, 32, 124, 32, 97, 32] from rfl, show ({ data := #[32, 124, 32, 33, 97] } : ByteArray) = bs [32, 124, 32, 33, 97] from rfl, bs_app9, bs_app9]; rfl)
      have ED := Lib.hid (show ({ data := #[33, 97, 32, 124, 32, 97, 32] } : ByteArray) ++ bs S ++ { data := #[10] } = bs (33 :: 97 :: 32 :: 124 :: 32 :: 97 :: 32 :: (S ++ [10])) from by
        rw [show ({ data := #[33, 97, 32, 124, 32, 97, 32] } : ByteArray) = bs [33, 97, 32, 124, 32, 97, 32] from rfl, show ({ data := #[10] } : ByteArray) = bs [10] from rfl, bs_app9, bs_app9]; rfl)
      have hbl : (bs S).size ≤ 70 := by rw [bs_size]; exact hSl
      generalize bs S = sb at *
      go_wp2_with fail
      rw [EA.out]
      refine (parse_ok9 _ P PB.out (by simp; omega) w5 sent hS5 hm5).mono ?_
      rintro e w6 ⟨g6, c6, b6, rfl, hN6, hb6⟩
      have HN6 := Lib.hid hN6
      have HV6 := Lib.hid (HV.out.below hb6)
      have HVA6 := Lib.hid (HVA5.out.below hb6)
      have hS6 := hS5.below hb6
      have hm6 := hm5.elim fun m hm => (⟨m, bSome hb6 hm⟩ : ∃ m, w6.cell? ⟨9, 0, none⟩ = some (.int .i64 m))
      have hB6 := bNext hB5 hb6
      have z6 : 9 < w6.heap.size := by have := hb6.size; have := hm6.elim fun m hm => block_lt_of_cell hm; exact this
      clear hN6 HV HVA5 hS5 hm5 hB5 hb6 EA PB
      go_wp2_with fail
      rw [EB.out]
      refine (parse_ok9 _ P PA.out (by simp; omega) w6 sent hS6 hm6).mono ?_
      rintro e w7 ⟨g7, c7, b7, rfl, hN7, hb7⟩
      have HN7 := Lib.hid hN7
      have HN6' := Lib.hid (HN6.out.below hb7)
      have HV7 := Lib.hid (HV6.out.below hb7)
      have HVA7 := Lib.hid (HVA6.out.below hb7)
      have hS7 := hS6.below hb7
      have hm7 := hm6.elim fun m hm => (⟨m, bSome hb7 hm⟩ : ∃ m, w7.cell? ⟨9, 0, none⟩ = some (.int .i64 m))
      have hB7 := bNext hB6 hb7
      clear hN7 HN6 HV6 HVA6 hS6 hm6 hB6 hb7 EB PA z6
      have hpl : P.length ≤ 100000000 := by have := HPL.out; omega
      have HPL2 := Lib.hid hpl
      clear hpl
      generalize hpq : P.length = pl at *
      have HPQ := Lib.hid hpq
      clear hpq
      go_wp2_with fail
      refine (cSame_eq P b6 9 _ _ w7 HN6'.out HV7.out (by rw [HPQ.out]; exact HPL2.out)).mono ?_
      rintro e w8 ⟨rfl, hb8⟩
      go_wp2_with fail
      refine (cSame_eq P b7 9 _ _ w8 (HN7.out.below hb8) (HV7.out.below hb8) (by rw [HPQ.out]; exact HPL2.out)).mono ?_
      rintro e w9 ⟨rfl, hb9⟩
      have hB79 := bNext hb8 hb9
      have hB9 := bNext hB7 hB79
      have HV9 := Lib.hid (HV7.out.below hB79)
      have HVA9 := Lib.hid (HVA7.out.below hB79)
      have hS9 := hS7.below hB79
      have hm9 := hm7.elim fun m hm => (⟨m, bSome hB79 hm⟩ : ∃ m, w9.cell? ⟨9, 0, none⟩ = some (.int .i64 m))
      clear hb8 hb9 hB79 hB7 HV7 HVA7 hS7 hm7 HN7 HN6'
      cases pipe with
      | false =>
        go_wp2_with fail
        go_ret
        exact ⟨rfl, hB9⟩
      | true =>
        obtain ⟨px, hpx⟩ := PX.out
        have HPX := Lib.hid hpx
        clear hpx PX
        go_wp2_with fail
        rw [EC.out]
        refine (parse_bad9 _ 108 px HPX.out (by simp; omega) w9 sent hS9 hm9).mono ?_
        rintro e wa ⟨ta, aa, rfl, hba⟩
        have HVa := Lib.hid (HV9.out.below hba)
        have HVAa := Lib.hid (HVA9.out.below hba)
        have hSa := hS9.below hba
        have hma := hm9.elim fun m hm => (⟨m, bSome hba hm⟩ : ∃ m, wa.cell? ⟨9, 0, none⟩ = some (.int .i64 m))
        have hBa := bNext hB9 hba
        clear HV9 HVA9 hS9 hm9 hB9 hba EC HPX
        go_wp2_with fail
        rw [ED.out]
        refine (parse_ok9 _ _ PN.out (by simp; omega) wa sent hSa hma).mono ?_
        rintro e wc ⟨gc, cc, bc, rfl, hNc, hbc⟩
        have HNc := Lib.hid hNc
        have HVc := Lib.hid (HVa.out.below hbc)
        have HVAc := Lib.hid (HVAa.out.below hbc)
        have hBc := bNext hBa hbc
        have zc : 9 < wc.heap.size := by have := hma.elim fun m hm => block_lt_of_cell (bSome hbc hm); exact this
        have HNL := Lib.hid (show (newP 27 0 [] [newP 32 0 [] [callA, P]]).length = pl + 4 from by
          rw [len_newP]
          simp only [List.flatten_cons, List.flatten_nil, List.append_nil, len_newP, List.length_append]
          rw [HPQ.out]
          show 2 + pl + 1 + 1 = pl + 4
          omega)
        rw [HNL.out] at HNc ⊢
        clear hNc HVa HVAa hSa hma hBa hbc ED PN
        go_wp2_with fail
        refine (twoP_any 32 0 callA P 9 _ _ wc zc HVAc.out HVc.out (by rw [HPQ.out, show callA.length = 2 from rfl]; have := HPL.out; omega)).mono ?_
        rintro e wd ⟨vd, rfl, hvd, hbd⟩
        have HVD := Lib.hid hvd
        obtain ⟨gd, cd, rfl, -⟩ := id hvd
        have zd : 9 < wd.heap.size := Nat.lt_of_lt_of_le zc hbd.size
        have HDL := Lib.hid (show (newP 32 0 [] [callA, P]).length = pl + 3 from by
          rw [len_newP]
          simp only [List.flatten_cons, List.flatten_nil, List.append_nil, List.length_append]
          rw [HPQ.out]
          show 2 + pl + 1 = pl + 3
          omega)
        rw [HDL.out] at HVD ⊢
        clear hvd
        go_wp2_with fail
        refine (oneP_any 27 0 [] (newP 32 0 [] [callA, P]) 9 _ wd zd HVD.out (by rw [HDL.out]; have := HPL.out; omega)).mono ?_
        rintro e we ⟨ve, rfl, hve, hbe⟩
        have HVE := Lib.hid hve
        obtain ⟨ge, ce, rfl, -⟩ := id hve
        rw [HNL.out] at HVE ⊢
        have hBe := bNext hbd hbe
        have HNe := Lib.hid (HNc.out.below hBe)
        clear hve HVD hbd hbe
        go_wp2_with fail
        refine (cSame_eq (newP 27 0 [] [newP 32 0 [] [callA, P]]) bc 9 _ _ we HNe.out HVE.out (by rw [HNL.out]; have := HPL.out; omega)).mono ?_
        rintro e wf ⟨rfl, hbf⟩
        go_wp2_with fail
        go_ret
        exact ⟨rfl, bNext (bNext hBc hBe) hbf⟩

set_option maxRecDepth 100000 in
theorem turnsLaw_all (ao : Option Addr) (ln cap : Nat) (pipe : Bool) (w : World) (sent : Nat → Addr) (hS : Sents w sent) (hmx : ∃ m, w.cell? ⟨9, 0, none⟩ = some (.int .i64 m)) (hln : ln ≤ cap) (hcap : cap ≤ maxLen) (hB : IntsAt w ao ln) :
    Calls Tryz.prog 7 #[.slice ao ln cap, .bool pipe] w fun e w' => e = .returned (.bool true) ∧ Below w.heap.size w w' := by
  by_cases h10 : ln ≤ 10
  · obtain ⟨Z, hZ⟩ := hB.of
    exact turnsLaw_in ao ln cap Z pipe w sent hS hmx hln hcap hZ h10
  · have h11 : 10 < ln := by omega
    clear hB h10
    go_enter Tryz.func7, Tryz.ntmps7
    go_wp2_with fail
    refine (first13_any _ sent hS hmx).mono ?_
    rintro e w1 ⟨rfl, hb1⟩
    go_wp2_with fail
    go_ret
    exact ⟨rfl, hb1⟩

end Go.Proofs.YtepebnblbheegaaGreatDoor
