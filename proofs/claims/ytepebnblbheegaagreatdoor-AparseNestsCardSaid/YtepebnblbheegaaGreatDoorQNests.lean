/- AparseNests. -/
import Derived.Test.YtepebnblbheegaaGreatDoorQTopG
import Derived.Test.YtepebnblbheegaaGreatDoorZJ
import Derived.Test.YtepebnblbheegaaGreatDoorZF
namespace Go.Proofs.YtepebnblbheegaaGreatDoor
set_option maxHeartbeats 4000000
set_option maxRecDepth 100000
open Go Go.RowKit
def nestPreA (n k : Nat) : List UInt8 := (List.replicate n (nestOpenA k)).flatten
theorem nestOpenA_len (k : Nat) : (nestOpenA k).length ≤ 6 ∧ 2 ≤ (nestOpenA k).length := by
 unfold nestOpenA
 repeat' split
 all_goals decide
theorem nestPreA_len (n k : Nat) : (nestPreA n k).length = n * (nestOpenA k).length := by
 unfold nestPreA
 induction n with
 | zero => simp
 | succ n ih => rw [List.replicate_succ, List.flatten_cons, List.length_append, ih, Nat.succ_mul]; omega
theorem nestPreA_succ (n k : Nat) : nestPreA n k ++ nestOpenA k = nestPreA (n + 1) k := by
 unfold nestPreA
 rw [List.replicate_succ', List.flatten_append]
 simp
theorem nestsA_any (a b : Int) (w : World) (sent : Nat → Addr) (hS : Sents w sent) (hmx : ∃ m, w.cell? ⟨9, 0, none⟩ = some (.int .i64 m)) (het : w.cell? ⟨18, 0, none⟩ = some (.iface 162 (.agg #[.pointer (some ⟨19, 25, none⟩)]))) (n k : Nat) (hn : n < 64) (ha : bits .and .i64 a 63 = n) (hk : k < 4) (hb : Int.tmod (Int.tmod b 4 + 4) 4 = k) :
  Calls Tryz.prog 9 #[.int .i64 a, .int .i64 b] w fun e w' => e = .returned (.bool true) ∧ Below w.heap.size w w' := by
 have hN := Lib.hid (nest_isA n k hn hk)
 obtain ⟨u, hu⟩ : ∃ u, Int.tmod b 4 = u := ⟨_, rfl⟩
 have hu2 : -3 ≤ u ∧ u ≤ 3 := by
  have h1 := Int.tmod_lt_of_pos b (show (0 : Int) < 4 by omega)
  have h2 := Int.lt_tmod_of_pos b (show (0 : Int) < 4 by omega)
  omega
 have hw1 : IntKind.i64.wrap (u + 4) = u + 4 := by rw [IntKind.wrap_i64]; omega
 have hw2 : IntKind.i64.wrap u = u := by rw [IntKind.wrap_i64]; omega
 have hw3 : IntKind.i64.wrap (k : Int) = k := by rw [IntKind.wrap_i64]; omega
 rw [hu] at hb
 go_enter Tryz.func9, Tryz.ntmps9
 go_upto_region 4 with (go_at_call 28; refine (first11_any _ sent hS hmx het).mono ?_; rintro e w1 ⟨rfl, hb1⟩)
 obtain ⟨op, hop⟩ : ∃ c : List UInt8, c = nestOpenA k := ⟨_, rfl⟩
 have h6 : ([Value.string { data := #[123, 32] }, Value.string { data := #[105, 102, 32] }, Value.string { data := #[119, 104, 105, 108, 101, 32] }, Value.string { data := #[33, 32, 123, 32] }][k]'(by simpa using hk)) = .string (bs op) := by
  rw [hop]
  match k, hk with
  | 0, _ => rfl
  | 1, _ => rfl
  | 2, _ => rfl
  | 3, _ => rfl
 rw [h6]
 obtain ⟨wz, hwz⟩ : ∃ wz, w1.alloc (.cells #[.string { data := #[123, 32] }, .string { data := #[105, 102, 32] }, .string { data := #[119, 104, 105, 108, 101, 32] }, .string { data := #[33, 32, 123, 32] }] 9) = wz := ⟨_, rfl⟩
 rw [hwz]
 have hbz : Below w.heap.size w wz := by
  rw [← hwz]
  exact hb1.alloc hb1.size _
 have hmz := hmx.elim fun m hm => (⟨m, bSome hbz hm⟩ : ∃ m, wz.cell? ⟨9, 0, none⟩ = some (.int .i64 m))
 have hSz := hS.below hbz
 have htz := bSome hbz het
 obtain ⟨ol2, ol1⟩ := nestOpenA_len k
 rw [← hop] at ol1 ol2
 obtain ⟨z, hz⟩ : ∃ z, z = op.length := ⟨_, rfl⟩
 rw [← hz] at ol1 ol2
 have HPL := Lib.hid (show ∀ i, (nestPreA i k).length = i * z from fun i => by rw [nestPreA_len, ← hop, hz])
 have HP : Hid (∀ i, i < n → bs (nestPreA i k) ++ bs op = bs (nestPreA (i + 1) k) ∧ (bs (nestPreA i k)).size ≤ 400 ∧ (bs (nestPreA (i + 1) k)).size ≤ 400) := Lib.hid fun i hi => by
  have l0 := HPL.out i
  have l1 := HPL.out (i + 1)
  have m0 : i * z ≤ 64 * 6 := Nat.mul_le_mul (by omega) ol2
  have m1 : (i + 1) * z ≤ 64 * 6 := Nat.mul_le_mul (by omega) ol2
  rw [bs_size, bs_size]
  refine ⟨?_, by omega, by omega⟩
  rw [bs_app9, hop, nestPreA_succ]
 have hzs : (bs op).size = z := by rw [bs_size, hz]
 have HZ := Lib.hid hz
 have HOP := Lib.hid hop
 clear hwz hb1 h6 hmx hS het hop hz
 go_wp2_with fail
 go_loopg [7, 8] n (fun m x y wr => ∃ i : Nat, m = n - i ∧ i ≤ n ∧ x = .string (bs (nestPreA i k)) ∧ y = .int .i64 i ∧ wr = wz)
 case atStart => exact ⟨0, rfl, Nat.zero_le _, rfl, rfl, rfl⟩
 case round =>
  obtain ⟨i, rfl, hi, rfl, rfl, rfl⟩ := hrel
  by_cases hlm : i < n
  ·obtain ⟨E, z1, z2⟩ := HP.out i hlm
   generalize bs (nestPreA i k) = dt at *
   generalize bs op = pt at *
   obtain ⟨du, hdu⟩ : ∃ du, bs (nestPreA (i + 1) k) = du := ⟨_, rfl⟩
   rw [hdu] at E z2
   go_wp2_with fail
   go_roundg (n - (i + 1))
   case measure => omega
   case rel => exact ⟨i + 1, rfl, by omega, by first | rfl | rw [hdu], by first | rfl | go_num, by rfl⟩
  ·obtain rfl : i = n := by omega
   have hiz : i * z ≤ 64 * 6 := Nat.mul_le_mul (by omega) ol2
   have hp9 : (bs (nestPreA i k)).size ≤ 400 := by
    have := HPL.out i
    rw [bs_size]
    omega
   have EP := Lib.hid (show bs (nestPreA i k) ++ { data := #[97] } = bs (nestSrcA i k) from by
    rw [show ({ data := #[97] } : ByteArray) = bs [97] from rfl, bs_app9]
    rfl)
   have hs9 : (bs (nestSrcA i k)).size ≤ 8192 := by
    have := HPL.out i
    rw [bs_size, show nestSrcA i k = nestPreA i k ++ [97] from rfl, List.length_append, List.length_cons, List.length_nil]
    omega
   have HPP := Lib.hid (qParse_short (bs (nestSrcA i k)) wr hs9 sent hSz hmz htz)
   have HNG := Lib.hid (show nestGotA i k = nestWantA i k from hN.out)
   have HW30 : IntKind.i64.wrap (30 * (z : Int)) = ((30 * z : Nat) : Int) := by rw [IntKind.wrap_i64]; omega
   have HWI : IntKind.i64.wrap ((i : Int) * (z : Int)) = ((i * z : Nat) : Int) := by rw [IntKind.wrap_i64, ← Int.natCast_mul]; omega
   have HWI1 : IntKind.i64.wrap (((i * z : Nat) : Int) + 1) = ((i * z + 1 : Nat) : Int) := by rw [IntKind.wrap_i64]; omega
   generalize bs (nestPreA i k) = dt at *
   go_wp2_with fail
   rw [EP.out]
   rw [bs_list] at HPP
   refine HPP.out.mono ?_
   clear HPP
   have HG := HNG.out
   unfold nestGotA at HG
   cases hq : parseA (nestSrcA i k) with
   | ok l =>
    rw [hq] at HG
    have hi0 : i = 0 := by
     unfold nestWantA at HG
     by_cases h0 : i = 0
     ·exact h0
     ·rw [if_neg h0] at HG
      exfalso
      dsimp only at HG
      by_cases h3 : 30 < i + 1
      ·rw [if_pos h3] at HG
       simp at HG
      ·rw [if_neg h3] at HG
       simp at HG
    rintro e w2 ⟨hb2, v, b9, rfl, hN9⟩
    obtain ⟨g9, c9, rfl, -⟩ := id hN9
    clear hN9
    have hB2 := bNext hbz hb2
    subst hi0
    clear HG hq HWI HWI1 hiz
    go_wp2_with fail
    refine (seeFault_nil w2).mono ?_
    rintro e w3 ⟨rfl, hb3⟩
    have hB3 := bNext hB2 hb3
    go_wp2_with fail
    go_ret
    exact ⟨rfl, hB3.alloc hB3.size _⟩
   | error e0 =>
    rw [hq] at HG
    obtain ⟨c0, p0⟩ := e0
    have hi0 : 0 < i ∧ ∃ p, p0 = some p ∧ ((30 < i + 1 ∧ c0 = 102 ∧ p = 30 * z) ∨ (i + 1 ≤ 30 ∧ c0 = 109 ∧ p = i * z + 1)) := by
     unfold nestWantA at HG
     rw [← HOP.out, ← HZ.out] at HG
     by_cases h0 : i = 0
     ·rw [if_pos h0] at HG
      cases HG
     ·rw [if_neg h0] at HG
      refine ⟨by omega, ?_⟩
      by_cases h3 : 30 < i + 1
      ·rw [if_pos h3] at HG
       cases HG
       exact ⟨_, rfl, .inl ⟨h3, rfl, rfl⟩⟩
      ·rw [if_neg h3] at HG
       cases HG
       exact ⟨_, rfl, .inr ⟨by omega, rfl, rfl⟩⟩
    obtain ⟨hi1, p, rfl, hcase⟩ := hi0
    rintro e w2 ⟨hb2, eb, rfl, hE2⟩
    have hB2 := bNext hbz hb2
    have hS2 := hSz.below hb2
    clear HG hq hmz HP HNG htz
    have hc1 : 101 ≤ c0 ∧ c0 ≤ 117 := by omega
    go_wp2_with fail
    refine (seeFault_at w2 sent hS2 c0 hc1.1 hc1.2 p eb hE2).mono ?_
    unfold faultV
    rintro e w3 ⟨g, rfl, hg, hg2, hb3⟩
    have hB3 := bNext hB2 hb3
    have hgz : g < w3.heap.size := block_lt_of_cell hg
    clear hb3 hE2 hS2 hB2 hb2 hSz hbz
    rcases hcase with ⟨h3, rfl, rfl⟩ | ⟨h3, rfl, rfl⟩
    ·go_wp2_with fail
     go_ret
     exact ⟨rfl, hB3.alloc hB3.size _⟩
    ·go_wp2_with fail
     go_ret
     exact ⟨rfl, hB3.alloc hB3.size _⟩
theorem nestsA_all (a b : Int) (w : World) (sent : Nat → Addr) (hS : Sents w sent) (hmx : ∃ m, w.cell? ⟨9, 0, none⟩ = some (.int .i64 m)) (het : w.cell? ⟨18, 0, none⟩ = some (.iface 162 (.agg #[.pointer (some ⟨19, 25, none⟩)]))) :
  Calls Tryz.prog 9 #[.int .i64 a, .int .i64 b] w fun e w' => e = .returned (.bool true) ∧ Below w.heap.size w w' := by
 have h1 := Int.tmod_lt_of_pos b (show (0 : Int) < 4 by omega)
 have h2 := Int.lt_tmod_of_pos b (show (0 : Int) < 4 by omega)
 have h3 : Int.tmod (Int.tmod b 4 + 4) 4 = (Int.tmod b 4 + 4) % 4 := Int.tmod_eq_emod_of_nonneg (by omega)
 exact nestsA_any a b w sent hS hmx het (a % 64).toNat ((Int.tmod b 4 + 4) % 4).toNat (by omega) (by rw [and63n]; omega) (by omega) (by rw [h3]; omega)
end Go.Proofs.YtepebnblbheegaaGreatDoor
