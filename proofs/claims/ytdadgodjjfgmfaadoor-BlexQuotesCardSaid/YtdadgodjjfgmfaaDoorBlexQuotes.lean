/- BlexQuotes. -/
import Derived.Test.YtdadgodjjfgmfaaDoorBlexPlaces
namespace Go.Proofs.YtdadgodjjfgmfaaDoor
open Go Go.RowKit

theorem dblB_one (c : UInt8) : dblB [c] = if c.toNat = 39 then [39, 39] else [c] := by
  rw [dblB]
  split <;> rfl
theorem dblB_succ (s : ByteArray) (k : Nat) (h : k < s.size) : dblB (s.data.toList.take (k + 1)) = dblB (s.data.toList.take k) ++ (if (s[k]).toNat = 39 then [39, 39] else [s[k]]) := by
  have h1 : k < s.data.toList.length := by rw [size_eq]; exact h
  have e : s.data.toList[k] = s[k] := by simp; rfl
  rw [List.take_succ_eq_append_getElem h1, dblB_append, e, dblB_one]
theorem extract_one (s : ByteArray) (k : Nat) (h : k < s.size) : s.extract k (k + 1) = bs [s[k]] := by
  rw [extract_bs, getElem_bat s k h]
  congr 1
  rw [List.drop_take, drop_bat s k h, show k + 1 - k = 1 from by omega]
  rfl
theorem bs_app (l m : List UInt8) : bs l ++ bs m = bs (l ++ m) := by
  unfold bs
  apply ByteArray.ext
  simp

set_option maxHeartbeats 4000000 in
set_option maxRecDepth 100000 in
theorem blexQuotes_long (s : ByteArray) (w : World) (sent : Nat → Addr) (hS : Sents w sent) (h : 300 < s.size) :
    Calls Tryd.prog 3 #[.string s] w fun e w' => e = .returned (.bool true) ∧ Below w.heap.size w w' := by
  go_enter Tryd.func3, Tryd.ntmps3
  go_wp2_with fail
  refine (first12_any w sent hS).mono ?_
  rintro e w1 ⟨rfl, hb1⟩
  go_wp2_with fail
  go_ret
  exact ⟨rfl, hb1⟩

set_option maxHeartbeats 4000000 in
set_option maxRecDepth 100000 in
theorem blexQuotes_in (s : ByteArray) (w : World) (sent : Nat → Addr) (hS : Sents w sent) (h : s.size ≤ 300) :
    Calls Tryd.prog 3 #[.string s] w fun e w' => e = .returned (.bool true) ∧ Below w.heap.size w w' := by
  go_enter Tryd.func3, Tryd.ntmps3
  go_wp2_with fail
  refine (first12_any w sent hS).mono ?_
  rintro e w1 ⟨rfl, hb1⟩
  have hS1 := hS.below hb1
  clear hS
  go_wp2_with fail
  go_loopg [4, 5] (s.size) (fun m x y wr => ∃ k : Nat, m = s.size - k ∧ k ≤ s.size ∧ x = .string (bs (39 :: dblB (s.data.toList.take k))) ∧ y = .int .i64 k ∧ wr = w1)
  case atStart => exact ⟨0, rfl, Nat.zero_le _, rfl, rfl, rfl⟩
  case round =>
    obtain ⟨k, rfl, hk, rfl, rfl, rfl⟩ := hrel
    have hz : (bs (39 :: dblB (s.data.toList.take k))).size ≤ 1000 := by
      rw [bs_size, List.length_cons]
      have := dblB_length (s.data.toList.take k)
      rw [List.length_take, size_eq] at this
      omega
    by_cases hlt : k < s.size
    · have hd := dblB_succ s k hlt
      by_cases h39 : s[k].toNat = 39
      · have e39 : ((s[k].toNat : Int) == 39) = true := by rw [beq_iff_eq]; omega
        obtain ⟨t1, ht1⟩ : ∃ t1, bs (39 :: dblB (s.data.toList.take k)) ++ s.extract k (k + 1) = t1 := ⟨_, rfl⟩
        have ht2 : t1 ++ ⟨#[39]⟩ = bs (39 :: dblB (s.data.toList.take (k + 1))) := by
          rw [← ht1, extract_one s k hlt, show (⟨#[39]⟩ : ByteArray) = bs [39] from rfl, bs_app, bs_app, hd, if_pos h39, show s[k] = 39 from UInt8.toNat_inj.1 h39]
          simp
        have hz1 : t1.size ≤ 1001 := by
          rw [← ht1, extract_one s k hlt, bs_app, bs_size]
          rw [bs_size] at hz
          simp only [List.length_append, List.length_cons, List.length_nil] at hz ⊢
          omega
        clear h39 hd
        generalize bs (39 :: dblB (s.data.toList.take k)) = t0 at *
        go_wp2_with fail
        go_roundg (s.size - (k + 1))
        case measure => omega
        case rel => exact ⟨k + 1, rfl, by omega, by first | rfl | rw [ht2], by go_num, rfl⟩
      · have e39 : ((s[k].toNat : Int) == 39) = false := by rw [beq_eq_false_iff_ne]; omega
        have ht1 : bs (39 :: dblB (s.data.toList.take k)) ++ s.extract k (k + 1) = bs (39 :: dblB (s.data.toList.take (k + 1))) := by
          rw [extract_one s k hlt, bs_app, hd, if_neg h39]
          simp
        clear h39 hd
        generalize bs (39 :: dblB (s.data.toList.take k)) = t0 at *
        go_wp2_with fail
        go_roundg (s.size - (k + 1))
        case measure => omega
        case rel => exact ⟨k + 1, rfl, by omega, by first | rfl | rw [ht1], by go_num, rfl⟩
    · rw [List.take_of_length_le (by rw [size_eq]; omega)] at hz ⊢
      have ht : bs (39 :: dblB s.data.toList) ++ ⟨#[39]⟩ = bs (39 :: (dblB s.data.toList ++ [39])) := by
        rw [show (⟨#[39]⟩ : ByteArray) = bs [39] from rfl, bs_app]
        rfl
      obtain ⟨b, hok⟩ := lexB_quotes s.data.toList ((dblB s.data.toList).length + 1)
      have hbad := lexB_quote_open s.data.toList ((dblB s.data.toList).length + 1)
      have hz2 : (bs (39 :: (dblB s.data.toList ++ [39]))).size = (dblB s.data.toList).length + 2 := by rw [bs_size]; simp
      have hz3 : (bs (39 :: dblB s.data.toList)).size = (dblB s.data.toList).length + 1 := by rw [bs_size]; rfl
      go_wp2_with fail
      refine (xLex_ok (bs (39 :: (dblB s.data.toList ++ [39]))) wr (by omega) sent hS1.env _ (by rw [hz2, bs_list]; exact hok)).mono ?_
      rintro e w2 ⟨v, rfl, hT2, hb2⟩
      obtain ⟨g, cap, rfl, hp1, hp2, hg1, hg2, hc⟩ := row_cell hT2 (Nat.zero_lt_succ _)
      have hR := tok_row hc
      have y0 := hR 0 _ rfl 0 (.int .i64 19) rfl
      have y3 := hR 0 _ rfl 3 (.string s) (by show some (Value.string (bs s.data.toList)) = _; rw [bs_of])
      have hS2 := hS1.below hb2
      have hB2 := bNext hb1 hb2
      clear hT2 hc hR hS1 hb1 hb2 hok
      go_wp2_with fail
      refine (xLex_bad (bs (39 :: dblB s.data.toList)) w2 (by omega) sent hS2.env _ _ (by rw [hz3, bs_list]; exact hbad)).mono ?_
      rintro e w3 ⟨b, rfl, hE, hb3⟩
      have hS3 := hS2.below hb3
      have hB3 := bNext hB2 hb3
      have y0 := bSome hb3 y0
      have y3 := bSome hb3 y3
      clear hS2 hB2 hb3 hbad
      go_wp2_with fail
      refine (rPlaced_any 103 0 rfl _).mono ?_
      unfold faultV
      rintro e w4 ⟨k, rfl, hk, hk2, hb4⟩
      have hB4 := bNext hB3 hb4
      have hS4 := hS3.below hb4
      have hE4 : ErrAt w4 b sent 103 ((0 : Nat) : Int) := Blk.below hE hb4
      clear hS3 hE hB3 hb4 y0 y3
      go_wp2_with fail
      refine (seeSame_at w4 sent hS4 103 (by decide) (by decide) _ b hE4 103 0 k hk).mono ?_
      rintro e w5 ⟨rfl, hb5⟩
      have hB5 := bNext hB4 hb5
      clear hS4 hE4 hB4 hb5
      go_wp2_with fail
      go_ret
      exact ⟨rfl, hB5⟩

/-- patoislaw12.BlexQuotes. -/
theorem blexQuotes_any (s : ByteArray) (w : World) (sent : Nat → Addr) (hS : Sents w sent) :
    Calls Tryd.prog 3 #[.string s] w fun e w' => e = .returned (.bool true) ∧ Below w.heap.size w w' := by
  by_cases h : 300 < s.size
  · exact blexQuotes_long s w sent hS h
  · exact blexQuotes_in s w sent hS (by omega)

end Go.Proofs.YtdadgodjjfgmfaaDoor
