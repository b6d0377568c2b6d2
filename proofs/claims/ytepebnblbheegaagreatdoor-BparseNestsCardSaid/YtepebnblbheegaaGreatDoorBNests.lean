/- BparseNests. -/
import Derived.Test.YtepebnblbheegaaGreatDoorSpellsG
import Derived.Test.YtepebnblbheegaaGreatDoorParseN

namespace Go.Proofs.YtepebnblbheegaaGreatDoor
open Go Go.RowKit

theorem and63n (n : Int) : bits .and .i64 n 63 = n % 64 := by
  have h127 : (BitVec.ofInt 64 63).toNat = 2 ^ 6 - 1 := by decide
  have key : (BitVec.ofInt 64 n &&& BitVec.ofInt 64 63).toNat = (n % ((2 ^ 64 : Nat) : Int)).toNat % 2 ^ 6 := by
    rw [BitVec.toNat_and, BitVec.toNat_ofInt, h127, Nat.and_two_pow_sub_one_eq_mod]
  show IntKind.i64.wrap ((BitVec.ofInt 64 n &&& BitVec.ofInt 64 63).toNat : Nat) = n % 64
  rw [key, IntKind.wrap_i64]
  omega
set_option maxRecDepth 100000 in
theorem seeFault_nil (w : World) : Calls Tryz.prog 22 #[.nilIface] w fun e w' => e = .returned (.agg #[.int .i64 0, .slice none 0 0]) ∧ Below w.heap.size w w' := by
  go_enter Tryz.func22, Tryz.ntmps22
  have hb0 := (Below.refl w.heap.size w).alloc (Nat.le_refl _) (Obj.cells #[Value.int IntKind.i64 0, Value.slice none 0 0] 30)
  go_wp2_with fail
  refine (rNone_any9 _).mono ?_
  rintro e w2 ⟨rfl, hb2⟩
  have B2 := (Blk.newAt (w := w) [Value.int IntKind.i64 0, Value.slice none 0 0] 30 rfl).below hb2
  have hB2 := bNext hb0 hb2
  have c0 := B2.cell 0 rfl
  have c1 := B2.cell 1 rfl
  have f0 := B2.free 0
  have f1 := B2.free 1
  have hK := (Kept.ofBelow hB2 : Kept Nowhere w w2)
  clear hb2 hb0
  go_wp2_with fail
  (try simp only [Exit.inBlock, Exit.then])
  refine bodyPost_ret (results_blk1 (p := 2) (g := w.heap.size) (cs := [.int .i64 0, .slice none 0 0]) rfl _ _ _ rfl ?_ Tryz.underlying30 rfl (by kernel_rfl)) rfl ⟨rfl, ?_⟩
  · apply Blk.as
    repeat (first | (with_reducible assumption) | ((with_reducible apply Blk.newAt); (focus (simp; done))) | (with_reducible apply Blk.set) | ((with_reducible apply Blk.other); (case hp => first | omega | (simp; omega) | simp)) | (with_reducible apply Blk.alloc) | (with_reducible apply Blk.drewN) | (with_reducible apply Blk.drew))
    rfl
  · apply Kept.toBelow
    repeat (first | (with_reducible assumption) | (with_reducible exact Kept.refl _ _) | ((with_reducible refine Kept.setCell ?_ ?_ _); rotate_left; (focus (first | exact fun _ => rfl | exact fun h => absurd h (by first | omega | (simp; omega) | simp)))) | (with_reducible refine Kept.alloc ?_ _) | (with_reducible refine Kept.drewN ?_ _) | (with_reducible refine Kept.drew ?_))
/-- A loop's word: so many brackets behind what stands ahead. -/
def nestPre (n kind : Nat) : List UInt8 := (if kind = 0 then [] else [97, 32]) ++ List.replicate n (if kind = 0 then 123 else 40)

theorem nestPre_len2 (n k : Nat) (hk : k < 2) : (nestPre n k).length = (if k = 0 then 0 else 2) + n := by
  match k, hk with
  | 0, _ => simp [nestPre]
  | 1, _ => simp [nestPre]; omega
theorem nestPre_len (n k : Nat) (hk : k < 2) : (nestPre n k).length ≤ n + 2 := by
  rw [nestPre_len2 n k hk]
  split <;> omega
theorem nestPre_succ (n k : Nat) : nestPre n k ++ [if k = 0 then 123 else 40] = nestPre (n + 1) k := by
  unfold nestPre
  rw [List.append_assoc, List.replicate_succ']

set_option maxRecDepth 100000 in
set_option maxHeartbeats 4000000 in
theorem nests_any (a b : Int) (w : World) (sent : Nat → Addr) (hS : Sents w sent) (hmx : ∃ m, w.cell? ⟨9, 0, none⟩ = some (.int .i64 m)) (n k : Nat) (hn : n < 64) (ha : bits .and .i64 a 63 = n) (hk : k < 2) (hb : Int.tmod (Int.tmod b 2 + 2) 2 = k) :
    Calls Tryz.prog 4 #[.int .i64 a, .int .i64 b] w fun e w' => e = .returned (.bool true) ∧ Below w.heap.size w w' := by
  have hN := Lib.hid (nest_is n k hn hk)
  obtain ⟨u, hu⟩ : ∃ u, Int.tmod b 2 = u := ⟨_, rfl⟩
  have hu2 : -1 ≤ u ∧ u ≤ 1 := by
    have h1 := Int.tmod_lt_of_pos b (show (0 : Int) < 2 by omega)
    have h2 := Int.lt_tmod_of_pos b (show (0 : Int) < 2 by omega)
    omega
  have hw1 : IntKind.i64.wrap (u + 2) = u + 2 := by rw [IntKind.wrap_i64]; omega
  have hw2 : IntKind.i64.wrap u = u := by rw [IntKind.wrap_i64]; omega
  have hw3 : IntKind.i64.wrap (k : Int) = k := by rw [IntKind.wrap_i64]; omega
  rw [hu] at hb
  go_enter Tryz.func4, Tryz.ntmps4
  go_upto_region 6 with (go_at_call 15; refine (first13_any _ sent hS hmx).mono ?_; rintro e w1 ⟨rfl, hb1⟩)
  obtain ⟨br, hbr⟩ : ∃ c : UInt8, c = if k = 0 then 123 else 40 := ⟨_, rfl⟩
  have h6 : ([Value.string { data := #[123] }, Value.string { data := #[40] }][k]'(by simpa using hk)) = .string (bs [br]) := by
    rw [hbr]
    match k, hk with
    | 0, _ => rfl
    | 1, _ => rfl
  have h7 : ([Value.string { data := #[] }, Value.string { data := #[97, 32] }][k]'(by simpa using hk)) = .string (bs (nestPre 0 k)) := by
    match k, hk with
    | 0, _ => rfl
    | 1, _ => rfl
  have h8 : (nestPre 0 k).length = if k = 0 then 0 else 2 := by
    match k, hk with
    | 0, _ => rfl
    | 1, _ => rfl
  rw [h6, h7]
  obtain ⟨wz, hwz⟩ : ∃ wz, ((w1.alloc (.cells #[.string { data := #[123] }, .string { data := #[40] }] 9)).alloc (.cells #[.string { data := #[] }, .string { data := #[97, 32] }] 9)) = wz := ⟨_, rfl⟩
  rw [hwz]
  have hbz : Below w.heap.size w wz := by
    rw [← hwz]
    exact (hb1.alloc hb1.size _).alloc (by have := hb1.size; simp; omega) _
  have hmz := hmx.elim fun m hm => (⟨m, bSome hbz hm⟩ : ∃ m, wz.cell? ⟨9, 0, none⟩ = some (.int .i64 m))
  have hSz := hS.below hbz
  obtain ⟨z, hz⟩ : ∃ z, z = (bs (nestPre 0 k)).size := ⟨_, rfl⟩
  have HZ2 := Lib.hid (show z = if k = 0 then 0 else 2 from by rw [hz, bs_size]; exact h8)
  have HP : Hid (∀ i, i < n → bs (nestPre i k) ++ bs [br] = bs (nestPre (i + 1) k) ∧ (bs (nestPre i k)).size ≤ 66 ∧ (bs (nestPre (i + 1) k)).size ≤ 66) := Lib.hid fun i hi => by
    have l0 := nestPre_len i k hk
    have l1 := nestPre_len (i + 1) k hk
    rw [bs_size, bs_size, hbr]
    refine ⟨?_, by omega, by omega⟩
    rw [bs_app9, nestPre_succ]
  clear hwz hb1 h6 h7 h8 hmx hS hbr
  go_wp2_with fail
  rw [← hz]
  clear hz
  go_loopg [7, 9] n (fun m x y wr => ∃ i : Nat, m = n - i ∧ i ≤ n ∧ x = .string (bs (nestPre i k)) ∧ y = .int .i64 i ∧ wr = wz)
  case atStart => exact ⟨0, rfl, Nat.zero_le _, rfl, rfl, rfl⟩
  case round =>
    obtain ⟨i, rfl, hi, rfl, rfl, rfl⟩ := hrel
    by_cases hlm : i < n
    · obtain ⟨E, z1, z2⟩ := HP.out i hlm
      have hz9 : (bs [br]).size = 1 := by rw [bs_size]; rfl
      generalize bs (nestPre i k) = dt at *
      generalize bs [br] = pt at *
      obtain ⟨du, hdu⟩ : ∃ du, bs (nestPre (i + 1) k) = du := ⟨_, rfl⟩
      rw [hdu] at E z2
      go_wp2_with fail
      go_roundg (n - (i + 1))
      case measure => omega
      case rel => exact ⟨i + 1, rfl, by omega, by first | rfl | rw [hdu], by first | rfl | go_num, by rfl⟩
    · obtain rfl : i = n := by omega
      have hp9 : (bs (nestPre i k)).size ≤ 66 := by
        have := nestPre_len i k hk
        rw [bs_size]
        omega
      have EP := Lib.hid (show bs (nestPre i k) ++ { data := #[32, 98] } = bs (nestSrc i k) from by
        rw [show ({ data := #[32, 98] } : ByteArray) = bs [32, 98] from rfl, bs_app9]
        rfl)
      have hs9 : (bs (nestSrc i k)).size ≤ 8192 := by
        have := nestPre_len i k hk
        rw [bs_size, show nestSrc i k = nestPre i k ++ [32, 98] from rfl, List.length_append, List.length_cons, List.length_cons, List.length_nil]
        omega
      have hpz : (bs (nestPre i k)).size = z + i := by
        rw [bs_size, HZ2.out, nestPre_len2 i k hk]
      have HPP := Lib.hid (pParse_short (bs (nestSrc i k)) wr hs9 sent hSz hmz)
      have HNG := Lib.hid (show nestGot i k = nestWant i k from hN.out)
      generalize bs (nestPre i k) = dt at *
      go_wp2_with fail
      rw [EP.out]
      rw [bs_list] at HPP
      refine HPP.out.mono ?_
      clear HPP
      have HG := HNG.out
      unfold nestGot at HG
      cases hq : parseB (nestSrc i k) with
      | ok l =>
        rw [hq] at HG
        have hi0 : i = 0 := by
          unfold nestWant at HG
          by_cases h0 : i = 0
          · exact h0
          · rw [if_neg h0] at HG
            exfalso
            dsimp only at HG
            by_cases h3 : 30 < i + 1
            · rw [if_pos h3] at HG
              simp at HG
            · rw [if_neg h3] at HG
              simp at HG
        rintro e w2 ⟨hb2, v, b9, rfl, hN9⟩
        obtain ⟨g9, c9, rfl, -⟩ := id hN9
        clear hN9
        have hB2 := bNext hbz hb2
        subst hi0
        clear HG hq
        go_wp2_with fail
        refine (seeFault_nil w2).mono ?_
        rintro e w3 ⟨rfl, hb3⟩
        have hB3 := bNext hB2 hb3
        go_wp2_with fail
        go_ret
        exact ⟨rfl, hB3.alloc hB3.size _⟩
      | error e0 =>
        rw [hq] at HG
        obtain ⟨c0, p0⟩ := e0
        have hi0 : 0 < i ∧ ∃ p, p0 = some p ∧ ((30 < i + 1 ∧ c0 = 102 ∧ p = (if k = 1 then 31 else if i = 30 then 31 else 30)) ∨ (i + 1 ≤ 30 ∧ c0 = 109 ∧ p = z + i + 2)) := by
          unfold nestWant at HG
          by_cases h0 : i = 0
          · rw [if_pos h0] at HG
            cases HG
          · rw [if_neg h0] at HG
            refine ⟨by omega, ?_⟩
            by_cases h3 : 30 < i + 1
            · rw [if_pos h3] at HG
              cases HG
              exact ⟨_, rfl, .inl ⟨h3, rfl, rfl⟩⟩
            · rw [if_neg h3] at HG
              cases HG
              exact ⟨_, rfl, .inr ⟨by omega, rfl, by rw [HZ2.out]⟩⟩
        obtain ⟨hi1, p, rfl, hcase⟩ := hi0
        rintro e w2 ⟨hb2, eb, rfl, hE2⟩
        have hB2 := bNext hbz hb2
        have hS2 := hSz.below hb2
        clear HG hq hmz HP HNG
        have hc1 : 101 ≤ c0 ∧ c0 ≤ 117 := by omega
        go_wp2_with fail
        refine (seeFault_at w2 sent hS2 c0 hc1.1 hc1.2 p eb hE2).mono ?_
        unfold faultV
        rintro e w3 ⟨g, rfl, hg, hg2, hb3⟩
        have hB3 := bNext hB2 hb3
        have hgz : g < w3.heap.size := block_lt_of_cell hg
        clear hb3 hE2 hS2 hB2 hb2 hSz hbz
        rcases hcase with ⟨h3, rfl, hp⟩ | ⟨h3, rfl, hp⟩
        · have hk3 : k = 0 ∨ k = 1 := by omega
          rcases hk3 with rfl | rfl
          · obtain rfl : z = 0 := by rw [HZ2.out]; rfl
            by_cases h30 : i = 30
            · obtain rfl : p = 31 := by rw [hp, h30]; rfl
              subst h30
              clear hp hpz
              go_wp2_with fail
              go_ret
              exact ⟨rfl, hB3.alloc hB3.size _⟩
            · obtain rfl : p = 30 := by rw [hp, if_neg (by omega), if_neg h30]
              have e30 : ((i : Int) == 30) = false := by rw [beq_eq_false_iff_ne]; omega
              clear hp hpz
              go_wp2_with fail
              go_ret
              exact ⟨rfl, hB3.alloc hB3.size _⟩
          · obtain rfl : z = 2 := by rw [HZ2.out]; rfl
            obtain rfl : p = 31 := by rw [hp]; rfl
            clear hp hpz
            go_wp2_with fail
            go_ret
            exact ⟨rfl, hB3.alloc hB3.size _⟩
        · subst hp
          go_wp2_with fail
          go_ret
          exact ⟨rfl, hB3.alloc hB3.size _⟩

theorem nests_all (a b : Int) (w : World) (sent : Nat → Addr) (hS : Sents w sent) (hmx : ∃ m, w.cell? ⟨9, 0, none⟩ = some (.int .i64 m)) :
    Calls Tryz.prog 4 #[.int .i64 a, .int .i64 b] w fun e w' => e = .returned (.bool true) ∧ Below w.heap.size w w' := by
  have h1 := Int.tmod_lt_of_pos b (show (0 : Int) < 2 by omega)
  have h2 := Int.lt_tmod_of_pos b (show (0 : Int) < 2 by omega)
  have h3 : Int.tmod (Int.tmod b 2 + 2) 2 = (Int.tmod b 2 + 2) % 2 := Int.tmod_eq_emod_of_nonneg (by omega)
  exact nests_any a b w sent hS hmx (a % 64).toNat ((Int.tmod b 2 + 2) % 2).toNat (by omega) (by rw [and63n]; omega) (by omega) (by rw [h3]; omega)

end Go.Proofs.YtepebnblbheegaaGreatDoor
