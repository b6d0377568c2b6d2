/- BparseIfs. -/
import Derived.Test.YtepebnblbheegaaGreatDoorBMay
import Derived.Test.YtepebnblbheegaaGreatDoorParseN

namespace Go.Proofs.YtepebnblbheegaaGreatDoor
open Go Go.RowKit

/-- A slice value of n truths, in memory. -/
def BoolsAt (w : World) (ao : Option Addr) (n : Nat) : Prop := ∀ i, i < n → ∃ a z, ao = some a ∧ w.cell? (a.add i) = some (.bool z)
theorem BoolsAt.below {w w' : World} {ao : Option Addr} {n : Nat} (h : BoolsAt w ao n) (hb : Below w.heap.size w w') : BoolsAt w' ao n := fun i hi => by
  obtain ⟨a, z, h1, h2⟩ := h i hi
  exact ⟨a, z, h1, bSome hb h2⟩

def ifPre (i : Nat) : List UInt8 := (List.replicate i [105, 102, 40, 97, 41, 32]).flatten
theorem ifPre_succ (i : Nat) : ifPre i ++ [105, 102, 40, 97, 41, 32] = ifPre (i + 1) := by
  unfold ifPre
  rw [List.replicate_succ', List.flatten_append]
  simp
theorem ifPre_len : ∀ i, (ifPre i).length = 6 * i
  | 0 => rfl
  | i + 1 => by rw [← ifPre_succ, List.length_append, ifPre_len i]; simp; omega
theorem ifSrc_zero (n : Nat) : ifPre n ++ [98] = ifSrc n 0 := by simp [ifSrc, ifPre]
theorem ifSrc_succ (n k : Nat) : ifSrc n k ++ [32, 101, 108, 115, 101, 32, 99] = ifSrc n (k + 1) := by
  unfold ifSrc
  rw [List.replicate_succ', List.flatten_append, List.append_assoc]
  simp
theorem ifSrc_len (n : Nat) : ∀ k, (ifSrc n k).length = 6 * n + 1 + 7 * k
  | 0 => by rw [← ifSrc_zero, List.length_append, ifPre_len]; simp
  | k + 1 => by rw [← ifSrc_succ, List.length_append, ifSrc_len n k]; simp; omega
theorem ifIn_out (no : Prog) : ∀ (k : Nat) (p : Prog), ifIn no (k + 1) p = newP 24 0 [] [callP [97], ifIn no k p, no]
  | 0, _ => rfl
  | k + 1, p => by
    show ifIn no (k + 1) (newP 24 0 [] [callP [97], p, no]) = _
    rw [ifIn_out no k]
    rfl
theorem ifIn_len (no : Prog) : ∀ (k : Nat) (p : Prog), (ifIn no k p).length = p.length + k * (no.length + 3)
  | 0, p => by simp [ifIn]
  | k + 1, p => by
    rw [ifIn_out, len_newP]
    simp only [List.flatten_cons, List.flatten_nil, List.append_nil, List.length_append, ifIn_len no k p]
    rw [show (callP [97]).length = 2 from rfl, Nat.succ_mul]
    omega
theorem if_parse (n m : Nat) (hn : 1 ≤ n) (hn2 : n ≤ 10) (hm : m ≤ n) : parseB (ifSrc n m) = .ok (ifWant n m) := by
  have h := if_is n m hn hn2 hm
  unfold ifGot at h
  cases hq : parseB (ifSrc n m) with
  | ok l => rw [hq] at h; cases h; rfl
  | error e => rw [hq] at h; cases h

theorem KSl.one9 {w : World} {b : Nat} {u : Value} {l : Prog} (hb : b < w.heap.size) (h : NSl w b u l) : KSl (w.alloc (.cells #[u] 23)) b (.slice (some ⟨w.heap.size, 0, none⟩) 1 1) [l] := KSl.new1 hb (.inl h)
/-- A call of one word. -/
theorem callP_any (s : List UInt8) (b : Nat) (u : Value) (w : World) (hb : b < w.heap.size) (h : NSl w b u (litP s)) :
    Calls Tryz.prog 25 #[.int .i64 21, .int .i64 0, .string (bs []), .slice (some ⟨w.heap.size, 0, none⟩) 1 1] (w.alloc (.cells #[u] 23)) fun e w' => ∃ v', e = .returned v' ∧ NSl w' b v' (callP s) ∧ Below w.heap.size w w' := by
  have hb0 := (Below.refl w.heap.size w).alloc (Nat.le_refl _) (.cells #[u] 23)
  refine (cNewS_any 21 0 [] [litP s] b _ _ (by have := hb0.size; omega) (KSl.one9 hb h) (by simp [litP, newP]) (by simp)).mono ?_
  rintro e w' ⟨v', rfl, h1, h2⟩
  exact ⟨v', rfl, h1, bNext hb0 h2⟩
/-- An if. -/
theorem ifP_any (p q r : Prog) (b : Nat) (x y z : Value) (w : World) (hb : b < w.heap.size) (h1 : NSl w b x p) (h2 : NSl w b y q) (h3 : NSl w b z r) (hl : p.length + q.length + r.length ≤ 100000) :
    Calls Tryz.prog 25 #[.int .i64 24, .int .i64 0, .string (bs []), .slice (some ⟨w.heap.size, 0, none⟩) 3 3] (w.alloc (.cells #[x, y, z] 23)) fun e w' => ∃ v', e = .returned v' ∧ NSl w' b v' (newP 24 0 [] [p, q, r]) ∧ Below w.heap.size w w' := by
  have hb0 := (Below.refl w.heap.size w).alloc (Nat.le_refl _) (.cells #[x, y, z] 23)
  refine (cNewS_any 24 0 [] [p, q, r] b _ _ (by have := hb0.size; omega) (KSl.new3 hb (.inl h1) (.inl h2) (.inl h3)) (by simp; omega) (by simp)).mono ?_
  rintro e w' ⟨v', rfl, h4, h5⟩
  exact ⟨v', rfl, h4, bNext hb0 h5⟩

set_option maxRecDepth 100000 in
set_option maxHeartbeats 16000000 in
theorem ifs_any (n u : Int) (N : Nat) (ao : Option Addr) (ln cap : Nat) (w : World) (sent : Nat → Addr) (hS : Sents w sent) (hmx : ∃ m, w.cell? ⟨9, 0, none⟩ = some (.int .i64 m)) (hu : Int.tmod n 10 = u) (hu1 : -9 ≤ u) (hu2 : u ≤ 9) (hN : (N : Int) = if u + 1 < 1 then u + 1 + 10 else u + 1) (hln : ln ≤ cap) (hcap : cap ≤ maxLen) (hB : BoolsAt w ao ln) :
    Calls Tryz.prog 6 #[.int .i64 n, .slice ao ln cap] w fun e w' => e = .returned (.bool true) ∧ Below w.heap.size w w' := by
  have hN1 : 1 ≤ N ∧ N ≤ 10 := by
    split at hN <;> omega
  have HN := Lib.hid hN
  have HB := Lib.hid hB
  unfold maxLen at hcap
  clear hN hB
  go_enter Tryz.func6, Tryz.ntmps6
  go_wp2_with fail
  refine (first13_any _ sent hS hmx).mono ?_
  rintro e w1 ⟨rfl, hb1⟩
  have hm1 := hmx.elim fun m hm => (⟨m, bSome hb1 hm⟩ : ∃ m, w1.cell? ⟨9, 0, none⟩ = some (.int .i64 m))
  have hS1 := hS.below hb1
  have HB1 := Lib.hid (HB.out.below hb1)
  clear hS hmx HB
  go_upto_if 21 with fail
  go_cut [0] (fun s0 w9 => s0 = .int .i64 N ∧ w1 = w9)
  case first =>
    by_cases hq : u + 1 < 1
    · have e0 := HN.out
      rw [if_pos hq] at e0
      have HE := Lib.hid e0
      clear e0
      go_wp2_with fail
      go_meet
      case rel => exact ⟨by rw [HE.out], rfl⟩
    · have e0 := HN.out
      rw [if_neg hq] at e0
      have HE := Lib.hid e0
      clear e0
      go_wp2_with fail
      go_meet
      case rel => exact ⟨by rw [HE.out], rfl⟩
  case rest =>
    obtain ⟨rfl, rfl⟩ := hcut
    clear HN hu1 hu2 hu
    have HP : Hid (∀ i, i < N → bs (ifPre i) ++ bs [105, 102, 40, 97, 41, 32] = bs (ifPre (i + 1)) ∧ (bs (ifPre i)).size ≤ 100 ∧ (bs (ifPre (i + 1))).size ≤ 100) := Lib.hid fun i hi => by
      have l0 := ifPre_len i
      have l1 := ifPre_len (i + 1)
      rw [bs_size, bs_size]
      refine ⟨?_, by omega, by omega⟩
      rw [bs_app9, ifPre_succ]
    go_wp2_with fail
    go_loopg [6, 7] N (fun m x y wr => ∃ i : Nat, m = N - i ∧ i ≤ N ∧ x = .string (bs (ifPre i)) ∧ y = .int .i64 i ∧ wr = w1)
    case atStart => exact ⟨0, rfl, Nat.zero_le _, rfl, rfl, rfl⟩
    case round =>
      obtain ⟨i, rfl, hi, rfl, rfl, rfl⟩ := hrel
      by_cases hlm : i < N
      · obtain ⟨E, z1, z2⟩ := HP.out i hlm
        have hz9 : (bs [105, 102, 40, 97, 41, 32]).size = 6 := by rw [bs_size]; rfl
        have hpt : ({ data := #[105, 102, 40, 97, 41, 32] } : ByteArray) = bs [105, 102, 40, 97, 41, 32] := rfl
        generalize bs (ifPre i) = dt at *
        generalize bs [105, 102, 40, 97, 41, 32] = pt at *
        obtain ⟨du, hdu⟩ : ∃ du, bs (ifPre (i + 1)) = du := ⟨_, rfl⟩
        rw [hdu] at E z2
        go_wp2_with fail
        go_roundg (N - (i + 1))
        case measure => omega
        case rel => exact ⟨i + 1, rfl, by omega, by first | rfl | rw [hdu], by first | rfl | go_num, by rfl⟩
      · obtain rfl : N = i := by omega
        have hp9 : (bs (ifPre N)).size ≤ 60 := by
          have := ifPre_len N
          rw [bs_size]
          omega
        have EP := Lib.hid (show bs (ifPre N) ++ { data := #[98] } = bs (ifSrc N 0) from by
          rw [show ({ data := #[98] } : ByteArray) = bs [98] from rfl, bs_app9, ifSrc_zero])
        generalize bs (ifPre N) = dt at *
        have hgm : 9 < wr.heap.size := hm1.elim fun m hm => block_lt_of_cell hm
        clear HP
        go_wp2_with fail
        rw [EP.out]
        clear EP hp9
        refine (cLit_any [98] 9 _ hgm).mono ?_
        rintro e w2 ⟨vb, rfl, hvb, hb2⟩
        have z2 : 9 < w2.heap.size := Nat.lt_of_lt_of_le hgm hb2.size
        have HVB := Lib.hid hvb
        clear hvb
        obtain ⟨gb, cb, rfl, -⟩ := id HVB.out
        go_wp2_with fail
        refine (callP_any [98] 9 _ w2 z2 HVB.out).mono ?_
        rintro e w3 ⟨vp, rfl, hvp, hb3⟩
        have z3 : 9 < w3.heap.size := Nat.lt_of_lt_of_le z2 hb3.size
        have HVP := Lib.hid hvp
        obtain ⟨gp, cp, rfl, -⟩ := id hvp
        have hB3 := bNext hb2 hb3
        clear HVB hvp hb2 hb3
        go_wp2_with fail
        refine (cLit_any [97] 9 _ z3).mono ?_
        rintro e w4 ⟨va0, rfl, hva0, hb4⟩
        have z4 : 9 < w4.heap.size := Nat.lt_of_lt_of_le z3 hb4.size
        have HVA0 := Lib.hid hva0
        obtain ⟨ga0, ca0, rfl, -⟩ := id hva0
        have HVP4 := Lib.hid (HVP.out.below hb4)
        have hB4 := bNext hB3 hb4
        clear hva0 HVP hb4 hB3
        go_wp2_with fail
        refine (callP_any [97] 9 _ w4 z4 HVA0.out).mono ?_
        rintro e w5 ⟨va, rfl, hva, hb5⟩
        have z5 : 9 < w5.heap.size := Nat.lt_of_lt_of_le z4 hb5.size
        have HVA := Lib.hid hva
        obtain ⟨ga, ca, rfl, -⟩ := id hva
        have HVP5 := Lib.hid (HVP4.out.below hb5)
        have hB5 := bNext hB4 hb5
        clear hva HVP4 HVA0 hb5 hB4
        go_wp2_with fail
        refine (cNewS_any 20 0 [] [] 9 _ w5 z5 (KSl.nil _ _) (by simp) (by simp)).mono ?_
        rintro e w6 ⟨vn, rfl, hvn, hb6⟩
        have z6 : 9 < w6.heap.size := Nat.lt_of_lt_of_le z5 hb6.size
        have HVN := Lib.hid hvn
        obtain ⟨gn, cn, rfl, -⟩ := id hvn
        have HVP6 := Lib.hid (HVP5.out.below hb6)
        have HVA6 := Lib.hid (HVA.out.below hb6)
        have hB6 := bNext hB5 hb6
        clear hvn HVP5 HVA hb6 hB5
        have HB6 := Lib.hid (HB1.out.below hB6)
        have hS6 := hS1.below hB6
        have hm6 := hm1.elim fun m hm => (⟨m, bSome hB6 hm⟩ : ∃ m, w6.cell? ⟨9, 0, none⟩ = some (.int .i64 m))
        have hB := bNext hb1 hB6
        clear HB1 hS1 hm1 hb1 hB6
        have HE : Hid (∀ k, k < N → bs (ifSrc N k) ++ bs [32, 101, 108, 115, 101, 32, 99] = bs (ifSrc N (k + 1)) ∧ (bs (ifSrc N k)).size ≤ 140 ∧ (bs (ifSrc N (k + 1))).size ≤ 140) := Lib.hid fun k hk => by
          have l0 := ifSrc_len N k
          have l1 := ifSrc_len N (k + 1)
          rw [bs_size, bs_size]
          refine ⟨?_, by omega, by omega⟩
          rw [bs_app9, ifSrc_succ]
        go_upto_block 2 with fail
        go_cut [6, 8, 11] (fun s6 s8 s11 w9 => ∃ (K : Nat) (v : Value), K ≤ N ∧ s6 = .string (bs (ifSrc N K)) ∧ s8 = v ∧ NSl w9 9 v (ifIn (callP [99]) K (callP [98])) ∧ s11 = .int .i64 ((N : Int) - K) ∧ Below w6.heap.size w6 w9)
        case first =>
          go_wp2_with fail
          go_loopg [6, 8, 11, 12] N (fun m s p o i wr => ∃ (k : Nat) (v : Value), m = N - k ∧ k ≤ N ∧ s = .string (bs (ifSrc N k)) ∧ p = v ∧ NSl wr 9 v (ifIn (callP [99]) k (callP [98])) ∧ o = .int .i64 ((N : Int) - k) ∧ i = .int .i64 k ∧ Below w6.heap.size w6 wr)
          case atStart => exact ⟨0, _, rfl, Nat.zero_le _, rfl, rfl, HVP6.out, by first | rfl | go_num, rfl, Below.refl _ _⟩
          case round =>
            clear HVP6
            obtain ⟨k, v, rfl, hk, rfl, rfl, hv, rfl, rfl, hbr⟩ := hrel
            have HV := Lib.hid hv
            clear hv
            by_cases h1 : k < ln
            · by_cases h2 : k < N
              · obtain ⟨a, z, rfl, hz⟩ := HB6.out k h1
                have hz := bSome hbr hz
                cases z with
                | false =>
                  go_wp2_with fail
                  go_meet
                  case rel => exact ⟨k, _, by omega, rfl, rfl, HV.out, rfl, hbr⟩
                | true =>
                  obtain ⟨E, y1, y2⟩ := HE.out k h2
                  have hz9 : (bs [32, 101, 108, 115, 101, 32, 99]).size = 7 := by rw [bs_size]; rfl
                  have hpt : ({ data := #[32, 101, 108, 115, 101, 32, 99] } : ByteArray) = bs [32, 101, 108, 115, 101, 32, 99] := rfl
                  obtain ⟨du, hdu⟩ : ∃ du, bs (ifSrc N (k + 1)) = du := ⟨_, rfl⟩
                  rw [hdu] at E y2
                  have HDU := Lib.hid hdu
                  clear hdu
                  generalize bs (ifSrc N k) = dt at *
                  generalize bs [32, 101, 108, 115, 101, 32, 99] = pt at *
                  obtain ⟨gv, cv, rfl, -⟩ := id HV.out
                  have zr : 9 < wr.heap.size := Nat.lt_of_lt_of_le z6 hbr.size
                  have HL := Lib.hid (ifIn_len (callP [99]) k (callP [98]))
                  generalize (ifIn (callP [99]) k (callP [98])).length = lv at *
                  go_wp2_with fail
                  refine (cLit_any [99] 9 _ zr).mono ?_
                  rintro e w7 ⟨vc0, rfl, hvc0, hb7⟩
                  have z7 : 9 < w7.heap.size := Nat.lt_of_lt_of_le zr hb7.size
                  have HVC0 := Lib.hid hvc0
                  obtain ⟨gc0, cc0, rfl, -⟩ := id hvc0
                  clear hvc0
                  go_wp2_with fail
                  refine (callP_any [99] 9 _ w7 z7 HVC0.out).mono ?_
                  rintro e w8 ⟨vc, rfl, hvc, hb8⟩
                  have z8 : 9 < w8.heap.size := Nat.lt_of_lt_of_le z7 hb8.size
                  have HVC := Lib.hid hvc
                  obtain ⟨gc, cc, rfl, -⟩ := id hvc
                  have hB8 := bNext hb7 hb8
                  have hB68 := bNext hbr hB8
                  have HV8 := Lib.hid (HV.out.below hB8)
                  have HA8 := Lib.hid (HVA6.out.below hB68)
                  clear hvc HVC0 hb7 hb8 HV hB8 hbr
                  go_wp2_with fail
                  refine (ifP_any (callP [97]) (ifIn (callP [99]) k (callP [98])) (callP [99]) 9 _ _ _ w8 z8 HA8.out HV8.out HVC.out (by
                    rw [ifIn_len, show (callP [97]).length = 2 from rfl, show (callP [98]).length = 2 from rfl, show (callP [99]).length = 2 from rfl]
                    omega)).mono ?_
                  rintro e w9 ⟨vi, rfl, hvi, hb9⟩
                  rw [← ifIn_out] at hvi
                  have HVI := Lib.hid hvi
                  obtain ⟨gi, ci, rfl, -⟩ := id hvi
                  have hB9 := bNext hB68 hb9
                  clear hvi HVC HV8 HA8 hB68 hb9
                  go_wp2_with fail
                  go_roundg (N - (k + 1))
                  case measure => omega
                  case rel => exact ⟨k + 1, _, rfl, by omega, by rw [HDU.out], rfl, HVI.out, by first | rfl | (congr 1; omega), by go_num, hB9⟩
              · have hd1 : decide ((k : Int) < (N : Int)) = false := by rw [decide_eq_false_iff_not]; omega
                have hd2 : decide (k < N) = false := by rw [decide_eq_false_iff_not]; omega
                go_wp2_with fail
                go_meet
                case rel => exact ⟨k, _, by omega, rfl, rfl, HV.out, rfl, hbr⟩
            · have hd1 : decide ((k : Int) < (ln : Int)) = false := by rw [decide_eq_false_iff_not]; omega
              have hd2 : decide (k < ln) = false := by rw [decide_eq_false_iff_not]; omega
              go_wp2_with fail
              go_meet
              case rel => exact ⟨k, _, by omega, rfl, rfl, HV.out, rfl, hbr⟩
        case rest =>
          rename World => w9
          obtain ⟨K, v, hK, rfl, rfl, hv, rfl, hb9⟩ := hcut
          have HV := Lib.hid hv
          have HA := Lib.hid (HVA6.out.below hb9)
          have HNo := Lib.hid (HVN.out.below hb9)
          have hS9 := hS6.below hb9
          have hm9 := hm6.elim fun m hm => (⟨m, bSome hb9 hm⟩ : ∃ m, w9.cell? ⟨9, 0, none⟩ = some (.int .i64 m))
          have z9 : 9 < w9.heap.size := Nat.lt_of_lt_of_le z6 hb9.size
          have hB9 := bNext hB hb9
          have HLP := Lib.hid (ifIn_len (callP [99]) K (callP [98]))
          have HSZ := Lib.hid (ifSrc_len N K)
          have HIP := Lib.hid (if_parse N K hN1.1 hN1.2 hK)
          unfold ifWant at HIP
          generalize ifIn (callP [99]) K (callP [98]) = P at *
          clear hv hS6 hm6 hB hb9 HVP6 HVA6 HVN HB6 HE
          have hs9 : (bs (ifSrc N K)).size ≤ 8192 := by rw [bs_size, HSZ.out]; omega
          have HPP := Lib.hid (fun (w8 : World) (h1 : Sents w8 sent) (h2 : ∃ m, w8.cell? ⟨9, 0, none⟩ = some (.int .i64 m)) => pParse_short (bs (ifSrc N K)) w8 hs9 sent h1 h2)
          rw [bs_list, HIP.out] at HPP
          clear HIP HSZ
          generalize bs (ifSrc N K) = src at *
          go_wp2_with fail
          go_loopg [8, 13] (N - K) (fun m p i wr => ∃ (k : Nat) (v : Value), m = N - K - k ∧ k ≤ N - K ∧ p = v ∧ NSl wr 9 v (ifIn (newP 20 0 [] []) k P) ∧ i = .int .i64 k ∧ Below w9.heap.size w9 wr)
          case atStart => exact ⟨0, _, rfl, Nat.zero_le _, rfl, HV.out, rfl, Below.refl _ _⟩
          case round =>
            clear HV
            obtain ⟨k, v, rfl, hk, rfl, hv, rfl, hbr⟩ := hrel
            have HV := Lib.hid hv
            obtain ⟨gv, cv, rfl, -⟩ := id hv
            have HL := Lib.hid (ifIn_len (newP 20 0 [] []) k P)
            clear hv
            by_cases h1 : k < N - K
            · have hi1 : (k : Int) < (N : Int) - K := by omega
              have zr : 9 < wr.heap.size := Nat.lt_of_lt_of_le z9 hbr.size
              have HAr := Lib.hid (HA.out.below hbr)
              have HNr := Lib.hid (HNo.out.below hbr)
              have hlen : (ifIn (newP 20 0 [] []) k P).length ≤ 1000 := by
                rw [HL.out, HLP.out, show (callP [98]).length = 2 from rfl, show (callP [99]).length = 2 from rfl, show (newP 20 0 [] []).length = 1 from rfl]
                omega
              generalize hlv : (ifIn (newP 20 0 [] []) k P).length = lv at *
              have HLV := Lib.hid hlv
              clear hlv
              obtain ⟨ga9, ca9, hga, -⟩ := id HAr.out
              go_wp2_with fail
              refine (ifP_any (callP [97]) (ifIn (newP 20 0 [] []) k P) (newP 20 0 [] []) 9 _ _ _ wr zr HAr.out HV.out HNr.out (by
                rw [HLV.out, show (callP [97]).length = 2 from rfl, show (newP 20 0 [] []).length = 1 from rfl]
                omega)).mono ?_
              rintro e w8 ⟨vi, rfl, hvi, hb8⟩
              rw [← ifIn_out] at hvi
              have HVI := Lib.hid hvi
              obtain ⟨gi, ci, rfl, -⟩ := id hvi
              have hB8 := bNext hbr hb8
              clear hvi HAr HNr HV hb8 hbr
              go_wp2_with fail
              go_roundg (N - K - (k + 1))
              case measure => omega
              case rel => exact ⟨k + 1, _, rfl, by omega, rfl, HVI.out, by go_num, hB8⟩
            · obtain rfl : k = N - K := by omega
              have hi1 : ¬ ((N - K : Nat) : Int) < (N : Int) - K := by omega
              have hlen : (ifIn (newP 20 0 [] []) (N - K) P).length ≤ 1000 := by
                rw [HL.out, HLP.out, show (callP [98]).length = 2 from rfl, show (callP [99]).length = 2 from rfl, show (newP 20 0 [] []).length = 1 from rfl]
                have : (N - K) * (1 + 3) ≤ 40 := by omega
                omega
              have hSr := hS9.below hbr
              have hmr := hm9.elim fun m hm => (⟨m, bSome hbr hm⟩ : ∃ m, wr.cell? ⟨9, 0, none⟩ = some (.int .i64 m))
              have hBr := bNext hB9 hbr
              have HPR := Lib.hid (HPP.out wr hSr hmr)
              generalize ifIn (newP 20 0 [] []) (N - K) P = Q at *
              have HLN := Lib.hid hlen
              clear hSr hmr HPP hS9 hm9 hB9 hbr HL hlen HA HNo HLP
              generalize hql : Q.length = ql at *
              have HQL := Lib.hid hql
              clear hql
              go_wp2_with fail
              refine HPR.out.mono ?_
              rintro e w8 ⟨hb8, u8, b8, rfl, hN8⟩
              have HV8 := Lib.hid (HV.out.below hb8)
              have HN8 := Lib.hid hN8
              obtain ⟨g8, c8, rfl, -⟩ := id hN8
              have hB8 := bNext hBr hb8
              clear HPR HV hN8 hb8 hBr
              go_wp2_with fail
              refine (cSame_eq Q b8 9 _ _ w8 HN8.out HV8.out (by have := HLN.out; have := HQL.out; omega)).mono ?_
              rintro e w7 ⟨rfl, hb7⟩
              go_wp2_with fail
              go_ret
              exact ⟨rfl, bNext hB8 hb7⟩

theorem ifs_all (n : Int) (ao : Option Addr) (ln cap : Nat) (w : World) (sent : Nat → Addr) (hS : Sents w sent) (hmx : ∃ m, w.cell? ⟨9, 0, none⟩ = some (.int .i64 m)) (hln : ln ≤ cap) (hcap : cap ≤ maxLen) (hB : BoolsAt w ao ln) :
    Calls Tryz.prog 6 #[.int .i64 n, .slice ao ln cap] w fun e w' => e = .returned (.bool true) ∧ Below w.heap.size w w' := by
  have h1 := Int.tmod_lt_of_pos n (show (0 : Int) < 10 by omega)
  have h2 := Int.lt_tmod_of_pos n (show (0 : Int) < 10 by omega)
  exact ifs_any n (Int.tmod n 10) (if Int.tmod n 10 + 1 < 1 then Int.tmod n 10 + 1 + 10 else Int.tmod n 10 + 1).toNat ao ln cap w sent hS hmx rfl (by omega) (by omega) (by split <;> omega) hln hcap hB

end Go.Proofs.YtepebnblbheegaaGreatDoor
