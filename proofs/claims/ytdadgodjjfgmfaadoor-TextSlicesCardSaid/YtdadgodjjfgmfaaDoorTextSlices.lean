/- TextSlices. -/
import Derived.Test.YtdadgodjjfgmfaaDoorFirst1
import Derived.Deep.RegionHeld3
import Derived.Laws.IdiomStrings
import Derived.Deep.RegionWith
namespace Go.Proofs.YtdadgodjjfgmfaaDoor
open Go Go.RowKit

/-- A slice value of n integers, in memory. -/
def IntsAt (w : World) (ao : Option Addr) (n : Nat) : Prop := ∀ i, i < n → ∃ a z, ao = some a ∧ w.cell? (a.add i) = some (.int .i64 z) ∧ -9223372036854775808 ≤ z ∧ z < 9223372036854775808
theorem IntsAt.below {w w' : World} {ao : Option Addr} {n : Nat} (h : IntsAt w ao n) (hb : Below w.heap.size w w') : IntsAt w' ao n := fun i hi => by
  obtain ⟨a, z, h1, h2, h3⟩ := h i hi
  exact ⟨a, z, h1, bSome hb h2, h3⟩

theorem i64_and63 (n : Int) : bits .and .i64 n 63 = n % 64 := by
  have h127 : (BitVec.ofInt 64 63).toNat = 2 ^ 6 - 1 := by decide
  have key : (BitVec.ofInt 64 n &&& BitVec.ofInt 64 63).toNat = (n % ((2 ^ 64 : Nat) : Int)).toNat % 2 ^ 6 := by
    rw [BitVec.toNat_and, BitVec.toNat_ofInt, h127, Nat.and_two_pow_sub_one_eq_mod]
  show IntKind.i64.wrap ((BitVec.ofInt 64 n &&& BitVec.ofInt 64 63).toNat : Nat) = n % 64
  rw [key, IntKind.wrap_i64]
  omega
theorem and63 (n : Int) : ∃ d : Nat, bits .and .i64 n 63 = d ∧ d < 64 := ⟨(n % 64).toNat, by rw [i64_and63]; omega, by omega⟩

theorem bDrew {B : Nat} {a w : World} (h : Below B a w) : Below B a w.drew := ⟨h.os, h.tape, h.output, h.size, h.block⟩
theorem aSome {w : World} {p : Addr} {v : Value} (h : w.cell? p = some v) (o : Obj) : (w.alloc o).cell? p = some v := bSome ((Below.refl _ _).alloc (Nat.le_refl _) o) h
theorem bMore {a w : World} (h : Below a.heap.size a w) (o : Obj) : Below a.heap.size a (w.alloc o) := h.alloc h.size o
theorem conv_at (c : UInt8) (w : World) (b : Nat) (h : w.cell? ⟨b, 0, none⟩ = some (.int .u8 c.toNat)) : (convert 51 9 (.slice (some ⟨b, 0, none⟩) 1 1)).run Tryd.prog w = .ok (.string (bs [c])) w := by
  refine run_convert_bytes_back _ _ _ 5 ⟨b, 0, none⟩ 1 [c] Tryd.underlying51 Tryd.underlying5 Tryd.underlying9 ?_
  intro j hj
  have : j = 0 := by simp at hj; omega
  subst this
  exact h
theorem conv_one (c : UInt8) (w : World) : (convert 51 9 (.slice (some ⟨w.heap.size, 0, none⟩) 1 1)).run Tryd.prog (w.alloc (.cells #[.int .u8 c.toNat] 5)) = .ok (.string (bs [c])) (w.alloc (.cells #[.int .u8 c.toNat] 5)) := by
  refine run_convert_bytes_back _ _ _ 5 ⟨w.heap.size, 0, none⟩ 1 [c] Tryd.underlying51 Tryd.underlying5 Tryd.underlying9 ?_
  intro j hj
  have : j = 0 := by simp at hj; omega
  subst this
  exact (Blk.newAt [.int .u8 c.toNat] 5 rfl).cell 0 rfl
theorem bs_append (l m : List UInt8) : bs l ++ bs m = bs (l ++ m) := by
  unfold bs
  apply ByteArray.ext
  simp
theorem subs_take (l : List UInt8) (p q : Nat) (h : p ≤ q) : l.take p ++ subs l p q = l.take q := by
  unfold subs
  rw [show ((p : Nat) : Int).toNat = p from rfl, show ((q : Nat) : Int).toNat = q from rfl]
  have : l.take p = (l.take q).take p := by rw [List.take_take, Nat.min_eq_left h]
  rw [this, List.take_append_drop]
theorem slices_step (s : ByteArray) (p q : Nat) (h : p ≤ q) (_hq : q ≤ s.size) : bs (s.data.toList.take p) ++ bs (subs s.data.toList p q) = bs (s.data.toList.take q) := by
  rw [bs_append, subs_take _ p q h]
theorem slices_last (s : ByteArray) (p : Nat) (h : p ≤ s.size) : bs (s.data.toList.take p) ++ bs (subs s.data.toList p (s.size + 9)) = s := by
  rw [bs_append, show ((s.size : Int) + 9) = ((s.size + 9 : Nat) : Int) from rfl, subs_take _ p (s.size + 9) (by omega), List.take_of_length_le (by rw [size_eq]; omega), bs_of]

theorem subs_one (s : ByteArray) (k : Nat) (h : k < s.size) : subs s.data.toList k ((k : Int) + 1) = [bat s k] := by
  unfold subs
  rw [show ((k : Nat) : Int).toNat = k from rfl, show ((k : Int) + 1).toNat = k + 1 from rfl, List.drop_take, drop_bat s k h, show k + 1 - k = 1 from by omega]
  rfl
theorem has_three (s : ByteArray) (k : Nat) : Lib.hasPrefix (s.data.toList.drop k) (subs s.data.toList k ((k : Int) + 3)) = true := by
  unfold subs Lib.hasPrefix
  rw [show ((k : Nat) : Int).toNat = k from rfl, show ((k : Int) + 3).toNat = k + 3 from rfl, List.drop_take, List.isPrefixOf_iff_prefix]
  exact List.take_prefix _ _

set_option maxRecDepth 100000 in
theorem textSlices_long (s : ByteArray) (ao : Option Addr) (n cap : Nat) (w : World) (hn : n ≤ cap) (hc : cap ≤ maxLen) (h : 2000 < s.size) :
    Calls Tryd.prog 7 #[.string s, .slice ao n cap] w fun e w' => e = .returned (.bool true) ∧ Below w.heap.size w w' := by
  go_enter Tryd.func7, Tryd.ntmps7
  go_wp2_with (go_at_call 20; refine (first1_any _).mono ?_; rintro e w1 ⟨rfl, hb1⟩)
  go_ret
  exact ⟨rfl, hb1⟩
set_option maxRecDepth 100000 in
theorem textSlices_many (s : ByteArray) (ao : Option Addr) (n cap : Nat) (w : World) (hn : n ≤ cap) (hc : cap ≤ maxLen) (hs : s.size ≤ 2000) (h : 50 < n) :
    Calls Tryd.prog 7 #[.string s, .slice ao n cap] w fun e w' => e = .returned (.bool true) ∧ Below w.heap.size w w' := by
  go_enter Tryd.func7, Tryd.ntmps7
  go_wp2_with (go_at_call 20; refine (first1_any _).mono ?_; rintro e w1 ⟨rfl, hb1⟩)
  go_ret
  exact ⟨rfl, hb1⟩
set_option maxHeartbeats 4000000 in
set_option maxRecDepth 100000 in
theorem textSlices_in (s : ByteArray) (ao : Option Addr) (n cap : Nat) (w : World) (hn : n ≤ cap) (hc : cap ≤ maxLen) (hs : s.size ≤ 2000) (h50 : n ≤ 50) (hI : IntsAt w ao n) :
    Calls Tryd.prog 7 #[.string s, .slice ao n cap] w fun e w' => e = .returned (.bool true) ∧ Below w.heap.size w w' := by
  go_enter Tryd.func7, Tryd.ntmps7
  go_wp2_with (go_at_call 20; refine (first1_any _).mono ?_; rintro e w1 ⟨rfl, hb1⟩)
  refine (tNew_ok _ _ (by omega)).mono ?_
  rintro e w2 ⟨rfl, hS2, hb2⟩
  have hc2 := hS2.cell 0 rfl
  have hb := bNext hb1 hb2
  have hI2 := hI.below hb
  clear hb1 hb2 hS2 hI
  generalize w1.heap.size = q at *
  go_wp2_with fail
  go_loopg [8, 9, 10] (n) (fun m c d e wr => ∃ k p : Nat, m = n - k ∧ k ≤ n ∧ p ≤ s.size ∧ c = .int .i64 p ∧ d = .string (bs (s.data.toList.take p)) ∧ e = .int .i64 k ∧ wr.cell? ⟨q, 0, none⟩ = some (.string s) ∧ IntsAt wr ao n ∧ Below w.heap.size w wr)
  case atStart => exact ⟨0, 0, rfl, by omega, by omega, rfl, rfl, rfl, hc2, hI2, hb⟩
  case round =>
    clear hc2 hb hI2
    obtain ⟨k, p, rfl, hk, hp, rfl, rfl, rfl, hc, hI, hb⟩ := hrel
    by_cases hlt : k < n
    · obtain ⟨a, z, rfl, hz, hz1, hz2⟩ := hI k hlt
      obtain ⟨d, hd, hd2⟩ := and63 z
      go_wp2_with fail
      obtain ⟨nx, hnx⟩ : ∃ nx, min s.size (p + d) = nx := ⟨_, rfl⟩
      rw [show min (s.size : Int) ((p : Int) + (d : Int)) = (nx : Int) from by omega]
      refine (bSlice_any s _ _ _ (by omega)).mono ?_
      rintro e w3 ⟨rfl, hb3⟩
      have hc3 := bSome hb3 hc
      have hI3 := hI.below hb3
      have hA := slices_step s p nx (by omega) (by omega)
      have hsz1 : (bs (s.data.toList.take p)).size ≤ 2000 := by rw [bs_size, List.length_take, size_eq]; omega
      have hsz2 : (bs (subs s.data.toList p nx)).size ≤ 2000 := by rw [bs_size]; unfold subs; rw [List.length_drop, List.length_take, size_eq]; omega
      generalize bs (s.data.toList.take p) = t1 at *
      generalize bs (subs s.data.toList p nx) = t2 at *
      go_wp2_with fail
      go_roundg (n - (k + 1))
      case measure => omega
      case rel => exact ⟨k + 1, nx, rfl, by omega, by omega, rfl, by first | rfl | rw [hA], by go_num, hc3, hI3, bNext hb hb3⟩
    · go_wp2_with fail
      refine (bSlice_any s _ _ _ (by omega)).mono ?_
      rintro e w3 ⟨rfl, hb3⟩
      have hc3 := bSome hb3 hc
      have hA := slices_last s p hp
      have hsz1 : (bs (s.data.toList.take p)).size ≤ 2000 := by rw [bs_size, List.length_take, size_eq]; omega
      have hsz2 : (bs (subs s.data.toList p (s.size + 9))).size ≤ 2000 := by rw [bs_size]; unfold subs; rw [List.length_drop, List.length_take, size_eq]; omega
      generalize bs (s.data.toList.take p) = t1 at *
      generalize bs (subs s.data.toList p (s.size + 9)) = t2 at *
      go_wp2_with fail
      have hb4 := bNext hb hb3
      clear hA hc hb hb3 hI hp hk hlt hsz1 hsz2
      go_loopg [12] (s.size) (fun m c wr => ∃ k : Nat, m = s.size - k ∧ k ≤ s.size ∧ c = .int .i64 k ∧ wr.cell? ⟨q, 0, none⟩ = some (.string s) ∧ Below w.heap.size w wr)
      case atStart => exact ⟨0, rfl, by omega, rfl, hc3, hb4⟩
      case round =>
        clear hc3 hb4
        obtain ⟨k, rfl, hk, rfl, hc, hb⟩ := hrel
        by_cases hlt : k < s.size
        · have hA := subs_one s k hlt
          have hH : Hid (∀ w1 : World, Calls Tryd.prog 28 #[.agg #[.string s], .int .i64 k, .string (bs (subs s.data.toList k ((k : Int) + 3)))] w1 fun e w' => e = .returned (.bool true) ∧ Below w1.heap.size w1 w') := Lib.hid (fun w1 => by
            have h := bHas_in s (bs (subs s.data.toList k ((k : Int) + 3))) k w1 (by omega) (by omega)
            rw [bs_list, has_three] at h
            exact h)
          have hw1 : IntKind.i64.wrap ((k : Int) + 1) = (k : Int) + 1 := by rw [IntKind.wrap_i64]; omega
          have hw3 : IntKind.i64.wrap ((k : Int) + 3) = (k : Int) + 3 := by rw [IntKind.wrap_i64]; omega
          have HC : ∀ (w : World) (b : Nat), w.cell? ⟨b, 0, none⟩ = some (.int .u8 (bat s k).toNat) → (convert 51 9 (.slice (some ⟨b, 0, none⟩) 1 1)).run Tryd.prog w = .ok (.string (bs (subs s.data.toList k ((k : Int) + 1)))) w := fun w b h => hA ▸ conv_at (bat s k) w b h
          clear hA
          go_wp2_with (go_at_call 27; refine (bByte_in s k _ (by omega) hlt).mono ?_; rintro e w4 ⟨rfl, hb4⟩; have hc4 := bSome hb4 hc)
          · have lq : q < w4.heap.size := block_lt_of_cell hc4
            have nq : ¬ q = w4.heap.size := by omega
            go_region_held (fun w' => w'.cell? ⟨q, 0, none⟩ = some (.string s) ∧ Below w4.heap.size w4 w') (first | exact ⟨hc4, bDrew (Below.refl _ _)⟩ | (refine ⟨?_, ?_⟩ <;> first | assumption | exact aSome (by assumption) _ | exact aSome (w := w4.drew) hc4 _ | (repeat (first | assumption | exact Below.refl _ _ | with_reducible refine bDrew ?_ | with_reducible refine bMore ?_ _ | refine bNext ?_ (by assumption)))))
              (first
                | (go_at_call 26; refine (bSlice_any s _ _ _ (by omega)).mono ?_; rintro e w5 ⟨rfl, hb5⟩; have T0 := bSome hb5 (p := ⟨q, 0, none⟩) (v := .string s) (by first | assumption | exact aSome (by assumption) _ | exact aSome (w := w4.drew) hc4 _); (try have T1 := bSome hb5 (p := ⟨w4.heap.size, 0, none⟩) (v := .int .u8 (bat s k).toNat) (by first | assumption | exact (Blk.newAt [.int .u8 (bat s k).toNat] _ rfl).cell 0 rfl)))
                | (go_at_call 28; refine (hH.out _).mono ?_; rintro e w5 ⟨rfl, hb5⟩; have T0 := bSome hb5 (p := ⟨q, 0, none⟩) (v := .string s) (by first | assumption | exact aSome (by assumption) _ | exact aSome (w := w4.drew) hc4 _); (try have T1 := bSome hb5 (p := ⟨w4.heap.size, 0, none⟩) (v := .int .u8 (bat s k).toNat) (by first | assumption | exact (Blk.newAt [.int .u8 (bat s k).toNat] _ rfl).cell 0 rfl))))
            all_goals
              rename_i hh
              have hh1 := hh.1
              have hB5 := bNext (bNext hb hb4) hh.2
              clear hh T0 hb5 HC hw1 hw3 hH hb hb4 hc hc4
              go_wp2_with fail
              go_roundg (s.size - (k + 1))
              case measure => omega
              case rel => exact ⟨k + 1, rfl, by omega, by go_num, hh1, hB5⟩
        · go_wp2_with fail
          go_ret
          exact ⟨rfl, hb⟩

/-- patoislaw1.TextSlices. -/
theorem textSlices_any (s : ByteArray) (ao : Option Addr) (n cap : Nat) (w : World) (hn : n ≤ cap) (hc : cap ≤ maxLen) (hI : IntsAt w ao n) :
    Calls Tryd.prog 7 #[.string s, .slice ao n cap] w fun e w' => e = .returned (.bool true) ∧ Below w.heap.size w w' := by
  by_cases h : 2000 < s.size
  · exact textSlices_long s ao n cap w hn hc h
  · by_cases h50 : 50 < n
    · exact textSlices_many s ao n cap w hn hc (by omega) h50
    · exact textSlices_in s ao n cap w hn hc (by omega) (by omega) hI

end Go.Proofs.YtdadgodjjfgmfaaDoor
