/- TextNumbers. -/
import Derived.Test.YtdadgodjjfgmfaaDoorFirst1
import Derived.Test.YtdadgodjjfgmfaaDoorText5
import Derived.Lib.ItoaLen
namespace Go.Proofs.YtdadgodjjfgmfaaDoor
open Go Go.RowKit

set_option maxRecDepth 100000 in
theorem textNumbers_long (n : Int) (s : ByteArray) (w : World) (h : 100 < s.size) (hs : s.size ≤ maxLen) :
    Calls Tryd.prog 11 #[.int .i64 n, .string s] w fun e w' => e = .returned (.bool true) ∧ Below w.heap.size w w' := by
  go_enter Tryd.func11, Tryd.ntmps11
  go_wp2_with (go_at_call 20; refine (first1_any _).mono ?_; rintro e w1 ⟨rfl, hb1⟩)
  go_ret
  exact ⟨rfl, hb1⟩

set_option maxRecDepth 100000 in
theorem textNumbers_in (n : Int) (h0 : -9223372036854775808 ≤ n) (h1 : n ≤ 9223372036854775807) (s : ByteArray) (w : World) (hs : s.size ≤ 100) (hT : Tab w)
    (num : Option Nat) (hnum : Hid (parseB (Lib.itoa n) = num)) (hn : (∃ m : Nat, num = some m ∧ n = m ∧ m ≤ 999999999) ∨ (num = none ∧ (n < 0 ∨ 999999999 < n)))
    (k : Option Nat) (hk : Hid (parseB s.data.toList = k)) :
    Calls Tryd.prog 11 #[.int .i64 n, .string s] w fun e w' => e = .returned (.bool true) ∧ Below w.heap.size w w' := by
  have hlen : (bs (Lib.itoa n)).size ≤ 1000000 := by
    rw [bs_size]
    have := Lib.itoa_length_le n h0 h1
    omega
  have hnum2 : Hid (parseB (bs (Lib.itoa n)).data.toList = num) := Lib.hid (by rw [bs_list]; exact hnum.out)
  go_enter Tryd.func11, Tryd.ntmps11
  go_wp2_with (go_at_call 20; refine (first1_any _).mono ?_; rintro e w1 ⟨rfl, hb1⟩)
  refine (tNumber_any n h0 h1 _ (hT.below hb1)).mono ?_
  rintro e w2 ⟨rfl, hb2⟩
  have hb := bNext hb1 hb2
  generalize bs (Lib.itoa n) = r at *
  go_wp2_with fail
  refine (tParse_any r _ hlen).mono ?_
  rintro e w3 ⟨rfl, rfl⟩
  rw [hnum2.out]
  have hT3 := (hT.below hb)
  rcases hn with ⟨m, rfl, rfl, hm⟩ | ⟨rfl, hn⟩
  · unfold parseV
    go_wp2_with fail
    refine (tParse_any s _ (by omega)).mono ?_
    rintro e w4 ⟨rfl, rfl⟩
    rw [hk.out]
    cases k with
    | none =>
      unfold parseV
      go_wp2_with fail
      go_ret
      exact ⟨rfl, hb⟩
    | some j =>
      obtain ⟨j1, j2⟩ := itoa_parseB s.data.toList j hk.out
      have j3 : bs (Lib.itoa (j : Int)) = s := by rw [j1, bs_of]
      have HN := tNumber_any (j : Int) (by omega) (by omega) w2 hT3
      rw [j3] at HN
      replace HN := Lib.hid HN
      clear j1 j3
      unfold parseV
      go_wp2_with fail
      refine HN.out.mono ?_
      rintro e w5 ⟨rfl, hb5⟩
      go_wp2_with fail
      go_ret
      exact ⟨rfl, bNext hb hb5⟩
  · unfold parseV
    rcases hn with hn | hn
    all_goals
      go_wp2_with fail
      refine (tParse_any s _ (by omega)).mono ?_
      rintro e w4 ⟨rfl, rfl⟩
      rw [hk.out]
      cases k with
      | none =>
        unfold parseV
        go_wp2_with fail
        go_ret
        exact ⟨rfl, hb⟩
      | some j =>
        obtain ⟨j1, j2⟩ := itoa_parseB s.data.toList j hk.out
        have j3 : bs (Lib.itoa (j : Int)) = s := by rw [j1, bs_of]
        have HN := tNumber_any (j : Int) (by omega) (by omega) w2 hT3
        rw [j3] at HN
        replace HN := Lib.hid HN
        clear j1 j3
        unfold parseV
        go_wp2_with fail
        refine HN.out.mono ?_
        rintro e w5 ⟨rfl, hb5⟩
        go_wp2_with fail
        go_ret
        exact ⟨rfl, bNext hb hb5⟩

/-- patoislaw1.TextNumbers. -/
theorem textNumbers_any (n : Int) (h0 : -9223372036854775808 ≤ n) (h1 : n ≤ 9223372036854775807) (s : ByteArray) (hs : s.size ≤ maxLen) (w : World) (hT : Tab w) :
    Calls Tryd.prog 11 #[.int .i64 n, .string s] w fun e w' => e = .returned (.bool true) ∧ Below w.heap.size w w' := by
  by_cases h : 100 < s.size
  · exact textNumbers_long n s w h hs
  · refine textNumbers_in n h0 h1 s w (by omega) hT _ (Lib.hid (parseB_itoa n)) ?_ _ (Lib.hid rfl)
    by_cases hn : 0 ≤ n ∧ n ≤ 999999999
    · rw [if_pos hn]
      exact .inl ⟨n.toNat, rfl, by omega, by omega⟩
    · rw [if_neg hn]
      exact .inr ⟨rfl, by omega⟩

end Go.Proofs.YtdadgodjjfgmfaaDoor
