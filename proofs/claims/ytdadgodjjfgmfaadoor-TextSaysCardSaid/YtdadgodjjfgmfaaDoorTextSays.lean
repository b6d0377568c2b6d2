/- TextSays. -/
import Derived.Test.YtdadgodjjfgmfaaDoorFirst1
import Derived.Test.YtdadgodjjfgmfaaDoorText6
import Derived.LaidEql
import Derived.Deep.DeepCutAuto
namespace Go.Proofs.YtdadgodjjfgmfaaDoor
open Go Go.RowKit

set_option maxHeartbeats 4000000 in
set_option maxRecDepth 100000 in
theorem textSays_big (s t : ByteArray) (i j : Int) (w : World) (hs : s.size ≤ maxLen) (ht : t.size ≤ maxLen) (h : 4000 < t.size ∨ (t.size ≤ 4000 ∧ 20000 < s.size)) :
    Calls Tryd.prog 12 #[.string s, .string t, .int .i64 i, .int .i64 j] w fun e w' => e = .returned (.bool true) ∧ Below w.heap.size w w' := by
  go_enter Tryd.func12, Tryd.ntmps12
  rcases h with h | ⟨h, h'⟩
  all_goals
    go_wp2_with (go_at_call 20; refine (first1_any _).mono ?_; rintro e w1 ⟨rfl, hb1⟩)
    go_ret
    exact ⟨rfl, hb1⟩

theorem compErrT : (Tryd.prog.info? 151).map (·.comparable) = some true := by kernel_rfl
theorem sizeErrT : (Tryd.prog.info? 165).map (·.size) = some 1 := by kernel_rfl

set_option maxHeartbeats 4000000 in
set_option maxRecDepth 100000 in
theorem textSays_long (s t : ByteArray) (i j : Int) (w : World) (hs : 8192 < s.size) (hs2 : s.size ≤ 20000) (ht : t.size ≤ 4000) (a : Addr) (hc : w.cell? ⟨0, 0, none⟩ = some (.iface 151 (.pointer (some a)))) :
    Calls Tryd.prog 12 #[.string s, .string t, .int .i64 i, .int .i64 j] w fun e w' => e = .returned (.bool true) ∧ Below w.heap.size w w' := by
  obtain ⟨i1, hi, hcmp⟩ := Option.map_eq_some_iff.1 compErrT
  obtain ⟨j1, hj, _⟩ := Option.map_eq_some_iff.1 sizeErrT
  have HE := fun w => run_eql_iface_ptr_same (P := Tryd.prog) w a Tryd.underlying25 Tryd.underlying151 hi hcmp hj
  clear hi hcmp hj
  go_enter Tryd.func12, Tryd.ntmps12
  go_wp2_with fail
  refine (first1_any _).mono ?_
  rintro e w1 ⟨rfl, hb1⟩
  have hc1 := bSome hb1 hc
  go_wp2_with fail
  refine (tNew_long s _ _ hs (by omega) hc1).mono ?_
  rintro e w2 ⟨rfl, hb2⟩
  have hc2 := bSome hb2 hc1
  go_wp2_with fail
  go_ret
  exact ⟨rfl, bNext hb1 hb2⟩

theorem undef_no (b : Bool) (h : some undef = some (Value.bool b)) : False := by
  unfold undef at h
  cases h

def blankZ (z : Int) : Bool := z == 32 || z == 9 || z == 10
theorem tBlank_int (z : Int) (w : World) :
    Calls Tryd.prog 39 #[.int .u8 z] w fun e w' => e = .returned (.bool (blankZ z)) ∧ w = w' := by
  go_enter Tryd.func39, Tryd.ntmps39
  go_wp2
  all_goals go_ret
  all_goals exact ⟨ret_bool (by rw [blankZ, Bool.eq_iff_iff]; (try simp only [Bool.or_eq_true, beq_iff_eq, Bool.false_eq_true, eq_self, true_iff, false_iff]); (try omega)), rfl⟩
theorem rBlank_int (z : Int) (w : World) :
    Calls Tryd.prog 40 #[.int .u8 z] w fun e w' => e = .returned (.bool (blankZ z)) ∧ w = w' := by
  go_enter Tryd.func40, Tryd.ntmps40
  go_wp2
  all_goals go_ret
  all_goals exact ⟨ret_bool (by rw [blankZ, Bool.eq_iff_iff]; (try simp only [Bool.or_eq_true, beq_iff_eq, Bool.false_eq_true, eq_self, true_iff, false_iff]); (try omega)), rfl⟩

theorem lineN_pos (l : List UInt8) : 1 ≤ lineN l := by unfold lineN; omega

set_option maxHeartbeats 8000000 in
set_option maxRecDepth 100000 in
theorem textSays_in (s t : ByteArray) (i j : Int) (w : World) (hs : s.size ≤ 8192) (ht : t.size ≤ 4000) (HT : Hid (Tab w))
    (bv : Int) (inb : Bool) (HBy : Hid (∀ w1 : World, Calls Tryd.prog 27 #[.agg #[.string s], .int .i64 i] w1 fun e w' => e = .returned (.tuple #[.int .u8 bv, .bool inb]) ∧ Below w1.heap.size w1 w'))
    (hin : (inb = true ∧ ∃ k : Nat, ∃ h : k < s.size, i = k ∧ bv = (s[k]'h).toNat) ∨ (inb = false ∧ bv = 0 ∧ (i < 0 ∨ (s.size : Int) ≤ i)))
    (lo hi : Nat) (hLo : min (max 0 i) (s.size : Int) = (lo : Int)) (hHi : min (max 0 j) (s.size : Int) = (hi : Int)) (hlo2 : lo ≤ s.size) (hhi2 : hi ≤ s.size)
    (wt : ByteArray) (hwt : (lo < hi ∧ s.extract lo hi = wt) ∨ (hi ≤ lo ∧ wt = ⟨#[]⟩))
    (hv : Bool) (hhv : ((i < 0 ∨ (s.size : Int) < i) ∧ hv = false) ∨ ∃ k : Nat, i = k ∧ k ≤ s.size ∧ ((s.size - k < t.size ∧ hv = false) ∨ (t.size ≤ s.size - k ∧ ((s.extract k (k + t.size)).toList == t.toList) = hv)))
    (l0 : Nat) (hl0 : (0 ≤ i ∧ i ≤ s.size ∧ l0 = 1) ∨ ((i < 0 ∨ (s.size : Int) < i) ∧ l0 = 0))
    (fL fC : Nat → Nat) (hf0 : fL 0 = l0) (hf1 : fC 0 = l0) (hfb : Hid (∀ m, fL m ≤ m + 1 ∧ fC m ≤ m + 1))
    (hfs : Hid (∀ (m : Nat) (h : m < s.size), ((m : Int) < i → 0 < fL m → (s[m]'h) = 10 → fL (m + 1) = fL m + 1 ∧ fC (m + 1) = 1) ∧ ((m : Int) < i → 0 < fL m → (s[m]'h) ≠ 10 → fL (m + 1) = fL m ∧ fC (m + 1) = fC m + 1) ∧
      (¬ (m : Int) < i ∨ fL m = 0 → fL (m + 1) = fL m ∧ fC (m + 1) = fC m)))
    (nm : ByteArray) (hnm : (inb = true ∧ ∃ k : Nat, i = k ∧ k < s.size ∧ ∃ rr : Nat, k ≤ rr ∧ rr ≤ s.size ∧ s.extract k rr = nm ∧ Hid (∀ w1 : World, Calls Tryd.prog 36 #[.string s, .int .i64 k] w1 fun e w' => e = .returned (.int .i64 rr) ∧ w1 = w')) ∨ (inb = false ∧ nm = ⟨#[]⟩))
    (pr : Option Nat) (HPa : Hid (parseB t.data.toList = pr)) (HP9 : Hid (∀ n, pr = some n → n < 1000000000))
    (HW : Hid (bs (subs s.data.toList i j) = wt))
    (HNm : Hid (∀ (w1 : World) (q : Addr), w1.cell? q = some (.string s) → Calls Tryd.prog 23 #[.pointer (some q), .int .i64 i] w1 fun e w' => e = .returned (.string nm) ∧ Below w1.heap.size w1 w'))
    (HPl : Hid (∀ (w1 : World) (q : Addr), w1.cell? q = some (.string s) → Calls Tryd.prog 24 #[.pointer (some q), .int .i64 i] w1 fun e w' => e = .returned (.tuple #[.int .i64 (fL s.size), .int .i64 (fC s.size)]) ∧ Below w1.heap.size w1 w'))
    (nb : Bool) (HNa : Hid (nameB t.data.toList = nb)) (nu : ByteArray)
    (HNu : Hid ((∀ w1 : World, Tab w1 → Calls Tryd.prog 34 #[.int .i64 i] w1 fun e w' => e = .returned (.string nu) ∧ Below w1.heap.size w1 w') ∧ ∀ w1 : World, Calls Tryd.prog 38 #[.int .i64 i] w1 fun e w' => e = .returned (.string nu) ∧ Below w1.heap.size w1 w'))
    (HH : Hid (∀ w1 : World, Calls Tryd.prog 28 #[.agg #[.string s], .int .i64 i, .string t] w1 fun e w' => e = .returned (.bool hv) ∧ Below w1.heap.size w1 w')) :
    Calls Tryd.prog 12 #[.string s, .string t, .int .i64 i, .int .i64 j] w fun e w' => e = .returned (.bool true) ∧ Below w.heap.size w w' := by
  go_enter Tryd.func12, Tryd.ntmps12
  go_wp2_with fail
  refine (first1_any _).mono ?_
  rintro e w1 ⟨rfl, hb1⟩
  go_wp2_with fail
  refine (tNew_ok s _ hs).mono ?_
  rintro e w2 ⟨rfl, hS2, hb2⟩
  have hc2 := hS2.cell 0 rfl
  have hb := bNext hb1 hb2
  clear hb1 hb2 hS2
  generalize w1.heap.size = q at *
  go_wp2_with fail
  refine (HBy.out _).mono ?_
  rintro e w3 ⟨rfl, hb3⟩
  have hc3 := bSome hb3 hc2
  have hB3 := bNext hb hb3
  clear hb hb3 hc2 HBy
  go_upto_region 10 with fail
  go_cut [14] from 73 to 80 (fun s14 wc => s14 = .bool inb ∧ wc.cell? ⟨q, 0, none⟩ = some (.string s) ∧ Below w.heap.size w wc)
  case first =>
    rcases hin with ⟨rfl, k, hk, rfl, rfl⟩ | ⟨rfl, rfl, h⟩
    · go_wp2_with fail
      go_meet
      case rel => exact ⟨rfl, hc3, hB3⟩
    · by_cases h0 : i < 0
      · go_wp2_with fail
        go_meet
        case rel => exact ⟨rfl, hc3, hB3⟩
      · have h1 : 0 ≤ i := by omega
        have hd : decide (i < (s.size : Int)) = false := decide_eq_false (by omega)
        clear h h0
        go_wp2_with fail
        go_meet
        case rel => exact ⟨by first | rfl | rw [hd], hc3, hB3⟩
  case rest =>
    clear hc3 hB3
    obtain ⟨rfl, hc4, hB4⟩ := hcut
    go_upto_region 11 with fail
    go_cut [111] from 81 to 111 (fun s111 w5 => s111 = .bool false ∧ w5.cell? ⟨q, 0, none⟩ = some (.string s) ∧ Below w.heap.size w w5)
    case first =>
      rcases hin with ⟨rfl, k, hk, rfl, rfl⟩ | ⟨rfl, rfl, -⟩
      all_goals
        go_wp2_with fail
        refine (bLen_any s _).mono ?_
        rintro e w5 ⟨rfl, hb5⟩
        have hc5 := bSome hb5 hc4
        have hB5 := bNext hB4 hb5
        clear hc4 hB4 hb5
        go_wp2_with fail
        go_meet
        case rel => exact ⟨rfl, hc5, hB5⟩
    case rest =>
      clear hc4 hB4
      obtain ⟨rfl, hc5, hB5⟩ := hcut
      go_upto_if 124 with fail
      go_cut [17] from 112 to 128 (fun s17 w6 => s17 = .string wt ∧ w6.cell? ⟨q, 0, none⟩ = some (.string s) ∧ Below w.heap.size w w6)
      case first =>
        rcases hwt with ⟨h1, h2⟩ | ⟨h1, rfl⟩
        all_goals
          go_wp2_with fail
          go_meet
          case rel => exact ⟨rfl, hc5, hB5⟩
      case rest =>
        clear hc5 hB5
        obtain ⟨rfl, hc6, hB6⟩ := hcut
        go_upto_region 18 with fail
        go_cut [18] from 129 to 156 (fun s18 w7 => s18 = .bool hv ∧ w7.cell? ⟨q, 0, none⟩ = some (.string s) ∧ Below w.heap.size w w7)
        case first =>
          rcases hhv with ⟨h | h, rfl⟩ | ⟨k, rfl, hk, ⟨h, rfl⟩ | ⟨h, h2⟩⟩
          · go_wp2_with fail
            go_meet
            case rel => exact ⟨rfl, hc6, hB6⟩
          · have h0 : 0 ≤ i := by omega
            have hd : decide (i ≤ (s.size : Int)) = false := decide_eq_false (by omega)
            go_wp2_with fail
            go_meet
            case rel => exact ⟨by first | rfl | rw [hd], hc6, hB6⟩
          · have h3 : (s.size : Int) - (k : Int) < t.size := by omega
            go_wp2_with fail
            go_meet
            case rel => exact ⟨rfl, hc6, hB6⟩
          · have h3 : (t.size : Int) ≤ (s.size : Int) - (k : Int) := by omega
            go_wp2_with fail
            go_meet
            case rel => exact ⟨rfl, hc6, hB6⟩
        case rest =>
          clear hc6 hB6
          obtain ⟨rfl, hc7, hB7⟩ := hcut
          go_upto_region 22 with fail
          go_cut [164] from 157 to 164 (fun s164 w8 => s164 = .bool (decide (0 < l0)) ∧ w8.cell? ⟨q, 0, none⟩ = some (.string s) ∧ Below w.heap.size w w8)
          case first =>
            rcases hl0 with ⟨h1, h2, rfl⟩ | ⟨h | h, rfl⟩
            · go_wp2_with fail
              go_meet
              case rel => exact ⟨rfl, hc7, hB7⟩
            · go_wp2_with fail
              go_meet
              case rel => exact ⟨rfl, hc7, hB7⟩
            · have h0 : 0 ≤ i := by omega
              have hd : decide (i ≤ (s.size : Int)) = false := decide_eq_false (by omega)
              go_wp2_with fail
              go_meet
              case rel => exact ⟨by first | rfl | rw [hd], hc7, hB7⟩
          case rest =>
            clear hc7 hB7
            obtain ⟨rfl, hc8, hB8⟩ := hcut
            go_upto_if 164 with fail
            go_cut [19, 20] from 157 to 164 (fun s19 s20 w9 => s19 = .int .i64 l0 ∧ s20 = .int .i64 l0 ∧ w9.cell? ⟨q, 0, none⟩ = some (.string s) ∧ Below w.heap.size w w9)
            case first =>
              rcases hl0 with ⟨h1, h2, rfl⟩ | ⟨-, rfl⟩
              all_goals
                go_wp2_with fail
                go_meet
                case rel => exact ⟨rfl, rfl, hc8, hB8⟩
            case rest =>
              clear hc8 hB8
              obtain ⟨rfl, rfl, hc9, hB9⟩ := hcut
              go_wp2_with fail
              go_loopg [19, 20, 21, 22] (s.size) (fun me a b c d wr => ∃ m N : Nat, me = s.size - m ∧ m ≤ s.size ∧ a = .int .i64 (fL m) ∧ b = .int .i64 (fC m) ∧ c = .int .i64 N ∧ d = .int .i64 m ∧ wr = wc ∧ N ≤ m + 1 ∧ Hid (N = lineN (s.data.toList.take m)))
              case atStart => exact ⟨0, 1, rfl, Nat.zero_le _, by rw [hf0], by rw [hf1], rfl, rfl, rfl, by omega, Lib.hid rfl⟩
              case round =>
                clear hf0 hf1 hl0
                obtain ⟨m, N, rfl, hm, rfl, rfl, rfl, rfl, rfl, hN2, HN⟩ := hrel
                obtain ⟨b1, b2⟩ := hfb.out m
                by_cases hlt : m < s.size
                · have hS := Lib.hid (hfs.out m hlt)
                  have hd : s.data.toList.take (m + 1) = s.data.toList.take m ++ [s[m]] := by
                    have h1 : m < s.data.toList.length := by rw [size_eq]; exact hlt
                    rw [List.take_succ_eq_append_getElem h1]
                    simp
                    rfl
                  by_cases h10 : s[m] = 10
                  · have h10' : ((s[m].toNat : Int) == 10) = true := by rw [h10]; rfl
                    have HN' : Hid (N + 1 = lineN (s.data.toList.take (m + 1))) := Lib.hid (by rw [hd, h10, lineN_nl, ← HN.out])
                    by_cases hmi : (m : Int) < i ∧ 0 < fL m
                    · obtain ⟨hmi, hL⟩ := hmi
                      obtain ⟨e1, e2⟩ := hS.out.1 hmi hL h10
                      have E1 := Lib.hid e1
                      have E2 := Lib.hid e2
                      have hL' : (0 : Int) < fL m := by omega
                      clear hd h10 HN hS e1 e2
                      go_wp2_with fail
                      go_roundg (s.size - (m + 1))
                      case measure => omega
                      case rel => exact ⟨m + 1, N + 1, rfl, by omega, by rw [E1.out]; go_num, by rw [E2.out]; rfl, by go_num, by go_num, rfl, by omega, HN'⟩
                    · obtain ⟨e1, e2⟩ := hS.out.2.2 (by omega)
                      have E1 := Lib.hid e1
                      have E2 := Lib.hid e2
                      clear hd h10 HN hS e1 e2
                      by_cases hmi2 : (m : Int) < i
                      · have hL : fL m = 0 := by omega
                        have hL' : ((fL m : Nat) : Int) = 0 := by omega
                        go_wp2_with fail
                        go_roundg (s.size - (m + 1))
                        case measure => omega
                        case rel => exact ⟨m + 1, N + 1, rfl, by omega, by first | (rw [E1.out]; done) | (rw [E1.out]; rfl) | (rw [E1.out, hL]; rfl), by rw [E2.out], by go_num, by go_num, rfl, by omega, HN'⟩
                      · go_wp2_with fail
                        go_roundg (s.size - (m + 1))
                        case measure => omega
                        case rel => exact ⟨m + 1, N + 1, rfl, by omega, by rw [E1.out], by rw [E2.out], by go_num, by go_num, rfl, by omega, HN'⟩
                  · have h10' : ((s[m].toNat : Int) == 10) = false := by
                      rw [beq_eq_false_iff_ne]
                      intro h
                      exact h10 (UInt8.toNat_inj.1 (by simpa using Int.ofNat.inj h))
                    have HN' : Hid (N = lineN (s.data.toList.take (m + 1))) := Lib.hid (by rw [hd, lineN_other _ _ h10, ← HN.out])
                    by_cases hmi : (m : Int) < i ∧ 0 < fL m
                    · obtain ⟨hmi, hL⟩ := hmi
                      obtain ⟨e1, e2⟩ := hS.out.2.1 hmi hL h10
                      have E1 := Lib.hid e1
                      have E2 := Lib.hid e2
                      have hL' : (0 : Int) < fL m := by omega
                      clear hd h10 HN hS e1 e2
                      go_wp2_with fail
                      go_roundg (s.size - (m + 1))
                      case measure => omega
                      case rel => exact ⟨m + 1, N, rfl, by omega, by rw [E1.out], by rw [E2.out]; go_num, rfl, by go_num, rfl, by omega, HN'⟩
                    · obtain ⟨e1, e2⟩ := hS.out.2.2 (by omega)
                      have E1 := Lib.hid e1
                      have E2 := Lib.hid e2
                      clear hd h10 HN hS e1 e2
                      by_cases hmi2 : (m : Int) < i
                      · have hL : fL m = 0 := by omega
                        have hL' : ((fL m : Nat) : Int) = 0 := by omega
                        go_wp2_with fail
                        go_roundg (s.size - (m + 1))
                        case measure => omega
                        case rel => exact ⟨m + 1, N, rfl, by omega, by first | (rw [E1.out]; done) | (rw [E1.out]; rfl) | (rw [E1.out, hL]; rfl), by rw [E2.out], rfl, by go_num, rfl, by omega, HN'⟩
                      · go_wp2_with fail
                        go_roundg (s.size - (m + 1))
                        case measure => omega
                        case rel => exact ⟨m + 1, N, rfl, by omega, by rw [E1.out], by rw [E2.out], rfl, by go_num, rfl, by omega, HN'⟩
                · obtain rfl : m = s.size := by omega
                  rw [List.take_of_length_le (by rw [size_eq]; exact Nat.le_refl _)] at HN
                  have HLi : Hid (∀ w1 : World, w1.cell? ⟨q, 0, none⟩ = some (.string s) → Calls Tryd.prog 25 #[.pointer (some ⟨q, 0, none⟩)] w1 fun e w' => e = .returned (.int .i64 N) ∧ Below w1.heap.size w1 w') :=
                    Lib.hid fun w1 h => by rw [HN.out]; exact sLines_any _ s w1 (by omega) h
                  replace HNm : Hid (∀ w1 : World, w1.cell? ⟨q, 0, none⟩ = some (.string s) → Calls Tryd.prog 23 #[.pointer (some ⟨q, 0, none⟩), .int .i64 i] w1 fun e w' => e = .returned (.string nm) ∧ Below w1.heap.size w1 w') := Lib.hid fun w1 h => HNm.out w1 _ h
                  replace HPl : Hid (∀ w1 : World, w1.cell? ⟨q, 0, none⟩ = some (.string s) → Calls Tryd.prog 24 #[.pointer (some ⟨q, 0, none⟩), .int .i64 i] w1 fun e w' => e = .returned (.tuple #[.int .i64 (fL s.size), .int .i64 (fC s.size)]) ∧ Below w1.heap.size w1 w') := Lib.hid fun w1 h => HPl.out w1 _ h
                  generalize fL s.size = L at *
                  generalize fC s.size = C at *
                  go_upto_if 192 with fail
                  go_cut [23] from 192 to 198 (fun s23 w10 => s23 = .string nm ∧ w10.cell? ⟨q, 0, none⟩ = some (.string s) ∧ Below w.heap.size w w10)
                  case first =>
                    rcases hnm with ⟨rfl, k, rfl, hk, rr, h1, h2, h3, HRu⟩ | ⟨rfl, rfl⟩
                    · go_wp2_with fail
                      refine (HRu.out _).mono ?_
                      rintro e w11 ⟨rfl, rfl⟩
                      go_wp2_with fail
                      go_meet
                      case rel => exact ⟨rfl, hc9, hB9⟩
                    · go_wp2_with fail
                      go_meet
                      case rel => exact ⟨rfl, hc9, hB9⟩
                  case rest =>
                    clear hc9 hB9 hin hLo hHi hwt hhv hfb hfs hnm HN
                    obtain ⟨rfl, hcx, hBx⟩ := hcut
                    obtain ⟨bz, hbz⟩ : ∃ bz, blankZ (j % 256) = bz := ⟨_, rfl⟩
                    have HU := undef_no
                    go_wp2_with fail
                    refine (HPl.out _ hcx).mono ?_
                    rintro e w6 ⟨rfl, hb6⟩
                    have hc6 := bSome hb6 hcx
                    have hB6 := bNext hBx hb6
                    clear hBx hb6 hcx
                    go_wp2_with fail
                    refine (tParse_any t _ (by omega)).mono ?_
                    rintro e w7 ⟨rfl, rfl⟩
                    rw [HPa.out]
                    cases pr with
                    | none =>
                      unfold parseV
                      go_wp2_with fail
                      refine (rParse_any t _ (by omega)).mono ?_
                      rintro e w8 ⟨rfl, rfl⟩
                      rw [HPa.out]
                      unfold refV
                      go_wp2_with fail
                      refine (bSlice_any s _ _ _ (by omega)).mono ?_
                      rintro e w9 ⟨rfl, hb9⟩
                      rw [HW.out]
                      have hc9 := bSome hb9 hc6
                      have hB9 := bNext hB6 hb9
                      clear hB6 hb9 hc6
                      go_wp2_with fail
                      refine (HH.out _).mono ?_
                      rintro e w10 ⟨rfl, hb10⟩
                      have hc10 := bSome hb10 hc9
                      have hB10 := bNext hB9 hb10
                      clear hB9 hb10 hc9
                      go_wp2_with fail
                      refine (HLi.out _ hc10).mono ?_
                      rintro e w11 ⟨rfl, hb11⟩
                      have hc11 := bSome hb11 hc10
                      have hB11 := bNext hB10 hb11
                      clear hB10 hb11 hc10
                      go_wp2_with fail
                      refine (HNm.out _ hc11).mono ?_
                      rintro e w12 ⟨rfl, hb12⟩
                      have hB12 := bNext hB11 hb12
                      clear hB11 hb12 hc11
                      go_wp2_with fail
                      refine (tName_any t _ (by omega)).mono ?_
                      rintro e w13 ⟨rfl, rfl⟩
                      rw [HNa.out]
                      go_wp2_with fail
                      refine (rName_any t _ (by omega)).mono ?_
                      rintro e w14 ⟨rfl, rfl⟩
                      rw [HNa.out]
                      go_wp2_with fail
                      all_goals first | (exfalso; exact HU _ (by assumption)) | skip
                      refine (HNu.out.1 _ (HT.out.below hB12)).mono ?_
                      rintro e w15 ⟨rfl, hb15⟩
                      have hB15 := bNext hB12 hb15
                      clear hB12 hb15
                      go_wp2_with fail
                      refine (HNu.out.2 _).mono ?_
                      rintro e w16 ⟨rfl, hb16⟩
                      have hB16 := bNext hB15 hb16
                      clear hB15 hb16
                      go_wp2_with fail
                      refine (tBlank_int _ _).mono ?_
                      rintro e w17 ⟨rfl, rfl⟩
                      rw [hbz]
                      go_wp2_with fail
                      refine (rBlank_int _ _).mono ?_
                      rintro e w18 ⟨rfl, rfl⟩
                      rw [hbz]
                      go_wp2_with fail
                      go_ret
                      exact ⟨rfl, hB16⟩
                    | some n =>
                      have hn9 := HP9.out n rfl
                      have hnz : (0 : Int) ≤ n := by omega
                      unfold parseV
                      go_wp2_with fail
                      refine (rParse_any t _ (by omega)).mono ?_
                      rintro e w8 ⟨rfl, rfl⟩
                      rw [HPa.out]
                      unfold refV
                      go_wp2_with fail
                      refine (bSlice_any s _ _ _ (by omega)).mono ?_
                      rintro e w9 ⟨rfl, hb9⟩
                      rw [HW.out]
                      have hc9 := bSome hb9 hc6
                      have hB9 := bNext hB6 hb9
                      clear hB6 hb9 hc6
                      go_wp2_with fail
                      refine (HH.out _).mono ?_
                      rintro e w10 ⟨rfl, hb10⟩
                      have hc10 := bSome hb10 hc9
                      have hB10 := bNext hB9 hb10
                      clear hB9 hb10 hc9
                      go_wp2_with fail
                      refine (HLi.out _ hc10).mono ?_
                      rintro e w11 ⟨rfl, hb11⟩
                      have hc11 := bSome hb11 hc10
                      have hB11 := bNext hB10 hb11
                      clear hB10 hb11 hc10
                      go_wp2_with fail
                      refine (HNm.out _ hc11).mono ?_
                      rintro e w12 ⟨rfl, hb12⟩
                      have hB12 := bNext hB11 hb12
                      clear hB11 hb12 hc11
                      go_wp2_with fail
                      refine (tName_any t _ (by omega)).mono ?_
                      rintro e w13 ⟨rfl, rfl⟩
                      rw [HNa.out]
                      go_wp2_with fail
                      refine (rName_any t _ (by omega)).mono ?_
                      rintro e w14 ⟨rfl, rfl⟩
                      rw [HNa.out]
                      go_wp2_with fail
                      all_goals first | (exfalso; exact HU _ (by assumption)) | skip
                      refine (HNu.out.1 _ (HT.out.below hB12)).mono ?_
                      rintro e w15 ⟨rfl, hb15⟩
                      have hB15 := bNext hB12 hb15
                      clear hB12 hb15
                      go_wp2_with fail
                      refine (HNu.out.2 _).mono ?_
                      rintro e w16 ⟨rfl, hb16⟩
                      have hB16 := bNext hB15 hb16
                      clear hB15 hb16
                      go_wp2_with fail
                      refine (tBlank_int _ _).mono ?_
                      rintro e w17 ⟨rfl, rfl⟩
                      rw [hbz]
                      go_wp2_with fail
                      refine (rBlank_int _ _).mono ?_
                      rintro e w18 ⟨rfl, rfl⟩
                      rw [hbz]
                      go_wp2_with fail
                      go_ret
                      exact ⟨rfl, hB16⟩

end Go.Proofs.YtdadgodjjfgmfaaDoor
