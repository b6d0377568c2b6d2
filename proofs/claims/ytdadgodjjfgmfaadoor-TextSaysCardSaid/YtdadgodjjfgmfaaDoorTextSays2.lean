/- TextSays: whatever its arguments. -/
import Derived.Test.YtdadgodjjfgmfaaDoorTextSays
namespace Go.Proofs.YtdadgodjjfgmfaaDoor
open Go Go.RowKit

theorem want_is (s : ByteArray) (i j : Int) (lo hi : Nat) (hLo : min (max 0 i) (s.size : Int) = (lo : Int)) (hHi : min (max 0 j) (s.size : Int) = (hi : Int)) :
    (lo < hi ∧ s.extract lo hi = bs (subs s.data.toList i j)) ∨ (hi ≤ lo ∧ bs (subs s.data.toList i j) = ⟨#[]⟩) := by
  have hl := size_eq s
  by_cases h : lo < hi
  · refine .inl ⟨h, ?_⟩
    rw [extract_bs, subs, show i.toNat = lo from by omega]
    congr 2
    by_cases hj : j.toNat ≤ s.size
    · rw [show j.toNat = hi from by omega]
    · rw [List.take_of_length_le (by omega), List.take_of_length_le (by omega)]
  · refine .inr ⟨by omega, ?_⟩
    have e : subs s.data.toList i j = [] := by
      apply List.eq_nil_of_length_eq_zero
      rw [subs, List.length_drop, List.length_take]
      omega
    rw [e]
    rfl

theorem has_long (s t : ByteArray) (k : Nat) (hk : k ≤ s.size) (h : s.size - k < t.size) : Lib.hasPrefix (s.data.toList.drop k) t.data.toList = false := by
  rw [← Bool.not_eq_true]
  intro e
  have := (List.isPrefixOf_iff_prefix.1 e).length_le
  rw [List.length_drop, size_eq, size_eq] at this
  omega
theorem has_is (s t : ByteArray) (k : Nat) (h : t.size ≤ s.size - k) : ((s.extract k (k + t.size)).toList == t.toList) = Lib.hasPrefix (s.data.toList.drop k) t.data.toList := by
  rw [Lib.toList_data, Lib.toList_data, extract_bs, bs_list, Bool.eq_iff_iff, beq_iff_eq]
  have e : (s.data.toList.take (k + t.size)).drop k = (s.data.toList.drop k).take t.data.toList.length := by
    rw [List.drop_take, size_eq]
    congr 1
    omega
  rw [e]
  show _ ↔ List.isPrefixOf _ _ = true
  rw [List.isPrefixOf_iff_prefix, List.prefix_iff_eq_take]
  exact eq_comm

theorem runName_pre (l : List UInt8) : runName l <+: l := by
  cases l with
  | nil => exact List.prefix_refl _
  | cons c l =>
    rw [show runName (c :: l) = if isBegin c then (c :: l).takeWhile isGo else [] from rfl]
    split
    · exact List.takeWhile_prefix _
    · exact List.nil_prefix
theorem run_extract (s : ByteArray) (k : Nat) : s.extract k (k + (runName (s.data.toList.drop k)).length) = bs (runName (s.data.toList.drop k)) := by
  rw [extract_bs, List.drop_take, Nat.add_sub_cancel_left]
  congr 1
  exact (List.prefix_iff_eq_take.1 (runName_pre _)).symm

theorem lines_step (s : ByteArray) (k m : Nat) (h : m < s.size) :
    ((m : Int) < k → 0 < lineN (s.data.toList.take (min m k)) → s[m] = 10 → lineN (s.data.toList.take (min (m + 1) k)) = lineN (s.data.toList.take (min m k)) + 1 ∧ colN (s.data.toList.take (min (m + 1) k)) = 1) ∧
    ((m : Int) < k → 0 < lineN (s.data.toList.take (min m k)) → s[m] ≠ 10 → lineN (s.data.toList.take (min (m + 1) k)) = lineN (s.data.toList.take (min m k)) ∧ colN (s.data.toList.take (min (m + 1) k)) = colN (s.data.toList.take (min m k)) + 1) ∧
    (¬ (m : Int) < k ∨ lineN (s.data.toList.take (min m k)) = 0 → lineN (s.data.toList.take (min (m + 1) k)) = lineN (s.data.toList.take (min m k)) ∧ colN (s.data.toList.take (min (m + 1) k)) = colN (s.data.toList.take (min m k))) := by
  have hd : s.data.toList.take (m + 1) = s.data.toList.take m ++ [s[m]] := by
    have h1 : m < s.data.toList.length := by rw [size_eq]; exact h
    rw [List.take_succ_eq_append_getElem h1]
    simp
    rfl
  refine ⟨fun h1 _ h2 => ?_, fun h1 _ h2 => ?_, fun h1 => ?_⟩
  · rw [show min m k = m from by omega, show min (m + 1) k = m + 1 from by omega, hd, h2, lineN_nl, colN_nl]
    exact ⟨rfl, rfl⟩
  · rw [show min m k = m from by omega, show min (m + 1) k = m + 1 from by omega, hd, lineN_other _ _ h2, colN_other _ _ h2]
    exact ⟨rfl, rfl⟩
  · rcases h1 with h1 | h1
    · rw [show min m k = k from by omega, show min (m + 1) k = k from by omega]
      exact ⟨rfl, rfl⟩
    · have := lineN_pos (s.data.toList.take (min m k))
      omega
theorem lines_le (s : ByteArray) (k m : Nat) : lineN (s.data.toList.take (min m k)) ≤ m + 1 ∧ colN (s.data.toList.take (min m k)) ≤ m + 1 := by
  have h1 := lineN_le (s.data.toList.take (min m k))
  have h2 := colN_le (s.data.toList.take (min m k))
  rw [List.length_take] at h1 h2
  omega

/-- patoislaw1.TextSays. -/
theorem textSays_any (s t : ByteArray) (i j : Int) (hi0 : -9223372036854775808 ≤ i) (hi1 : i ≤ 9223372036854775807) (hs : s.size ≤ maxLen) (ht : t.size ≤ maxLen) (w : World) (hT : Tab w) (a : Addr) (hc : w.cell? ⟨0, 0, none⟩ = some (.iface 151 (.pointer (some a)))) :
    Calls Tryd.prog 12 #[.string s, .string t, .int .i64 i, .int .i64 j] w fun e w' => e = .returned (.bool true) ∧ Below w.heap.size w w' := by
  by_cases h1 : 4000 < t.size
  · exact textSays_big s t i j w hs ht (.inl h1)
  by_cases h2 : 20000 < s.size
  · exact textSays_big s t i j w hs ht (.inr ⟨by omega, h2⟩)
  by_cases h3 : 8192 < s.size
  · exact textSays_long s t i j w h3 (by omega) (by omega) a hc
  have hsz : s.size ≤ 1000000 := by omega
  obtain ⟨lo, hLo⟩ : ∃ lo : Nat, min (max 0 i) (s.size : Int) = (lo : Int) := ⟨(min (max 0 i) (s.size : Int)).toNat, by omega⟩
  obtain ⟨hi, hHi⟩ : ∃ hi : Nat, min (max 0 j) (s.size : Int) = (hi : Int) := ⟨(min (max 0 j) (s.size : Int)).toNat, by omega⟩
  have hwt := want_is s i j lo hi hLo hHi
  have HP9 : Hid (∀ n, parseB t.data.toList = some n → n < 1000000000) := Lib.hid fun n h => (itoa_parseB _ _ h).2
  have HNu : Hid ((∀ w1 : World, Tab w1 → Calls Tryd.prog 34 #[.int .i64 i] w1 fun e w' => e = .returned (.string (bs (Lib.itoa i))) ∧ Below w1.heap.size w1 w') ∧ ∀ w1 : World, Calls Tryd.prog 38 #[.int .i64 i] w1 fun e w' => e = .returned (.string (bs (Lib.itoa i))) ∧ Below w1.heap.size w1 w') :=
    Lib.hid ⟨fun w1 h => tNumber_any i hi0 hi1 w1 h, fun w1 => rNumber_any i w1 hi0 hi1⟩
  by_cases h4 : i < 0
  · exact textSays_in s t i j w (by omega) (by omega) (Lib.hid hT) 0 false (Lib.hid fun w1 => bByte_low s i w1 hsz h4) (.inr ⟨rfl, rfl, .inl h4⟩) lo hi hLo hHi (by omega) (by omega) _ hwt
      false (.inl ⟨.inl h4, rfl⟩) 0 (.inr ⟨.inl h4, rfl⟩) (fun _ => 0) (fun _ => 0) rfl rfl (Lib.hid fun m => by omega) (Lib.hid fun m h => ⟨fun _ h => absurd h (by omega), fun _ h => absurd h (by omega), fun _ => ⟨rfl, rfl⟩⟩)
      ⟨#[]⟩ (.inr ⟨rfl, rfl⟩) _ (Lib.hid rfl) HP9 (Lib.hid rfl) (Lib.hid fun w1 q hq => sName_low q s i w1 hsz h4 hq) (Lib.hid fun w1 q hq => sPlace_low q s i w1 hsz h4 hq) _ (Lib.hid rfl) _ HNu (Lib.hid fun w1 => bHas_low s t i w1 hsz h4)
  · obtain ⟨k, rfl⟩ : ∃ k : Nat, i = k := ⟨i.toNat, by omega⟩
    by_cases h5 : s.size < k
    · exact textSays_in s t k j w (by omega) (by omega) (Lib.hid hT) 0 false (Lib.hid fun w1 => bByte_high s k w1 hsz (by omega)) (.inr ⟨rfl, rfl, .inr (by omega)⟩) lo hi hLo hHi (by omega) (by omega) _ hwt
        false (.inl ⟨.inr (by omega), rfl⟩) 0 (.inr ⟨.inr (by omega), rfl⟩) (fun _ => 0) (fun _ => 0) rfl rfl (Lib.hid fun m => by omega) (Lib.hid fun m h => ⟨fun _ h => absurd h (by omega), fun _ h => absurd h (by omega), fun _ => ⟨rfl, rfl⟩⟩)
        ⟨#[]⟩ (.inr ⟨rfl, rfl⟩) _ (Lib.hid rfl) HP9 (Lib.hid rfl) (Lib.hid fun w1 q hq => sName_over q s k w1 hsz (by omega) hq) (Lib.hid fun w1 q hq => sPlace_high q s k w1 hsz (by omega) hq) _ (Lib.hid rfl) _ HNu (Lib.hid fun w1 => bHas_high s t k w1 hsz (by omega))
    · have hk : k ≤ s.size := by omega
      have hhv : ((k : Int) < 0 ∨ (s.size : Int) < k) ∧ Lib.hasPrefix (s.data.toList.drop k) t.data.toList = false ∨ ∃ k' : Nat, (k : Int) = k' ∧ k' ≤ s.size ∧ ((s.size - k' < t.size ∧ Lib.hasPrefix (s.data.toList.drop k) t.data.toList = false) ∨ (t.size ≤ s.size - k' ∧ ((s.extract k' (k' + t.size)).toList == t.toList) = Lib.hasPrefix (s.data.toList.drop k) t.data.toList)) := by
        refine .inr ⟨k, rfl, hk, ?_⟩
        by_cases h6 : s.size - k < t.size
        · exact .inl ⟨h6, has_long s t k hk h6⟩
        · exact .inr ⟨by omega, has_is s t k (by omega)⟩
      have HPl : Hid (∀ (w1 : World) (q : Addr), w1.cell? q = some (.string s) → Calls Tryd.prog 24 #[.pointer (some q), .int .i64 (k : Int)] w1 fun e w' => e = .returned (.tuple #[.int .i64 (lineN (s.data.toList.take (min s.size k))), .int .i64 (colN (s.data.toList.take (min s.size k)))]) ∧ Below w1.heap.size w1 w') :=
        Lib.hid fun w1 q hq => by rw [show min s.size k = k from by omega]; exact sPlace_in q s k w1 hsz hk hq
      by_cases h6 : k < s.size
      · exact textSays_in s t k j w (by omega) (by omega) (Lib.hid hT) (s[k].toNat) true (Lib.hid fun w1 => bByte_in0 s k w1 hsz h6) (.inl ⟨rfl, k, h6, rfl, rfl⟩) lo hi hLo hHi (by omega) (by omega) _ hwt
          _ hhv 1 (.inl ⟨by omega, by omega, rfl⟩) (fun m => lineN (s.data.toList.take (min m k))) (fun m => colN (s.data.toList.take (min m k))) (by simp only [Nat.zero_min]; rfl) (by simp only [Nat.zero_min]; rfl) (Lib.hid fun m => lines_le s k m) (Lib.hid fun m h => lines_step s k m h)
          (bs (runName (s.data.toList.drop k))) (.inl ⟨rfl, k, rfl, h6, k + (runName (s.data.toList.drop k)).length, by omega, by have := (runName_pre (s.data.toList.drop k)).length_le; rw [List.length_drop, size_eq] at this; omega, run_extract s k, Lib.hid fun w1 => rRun_in s k w1 hsz h6⟩)
          _ (Lib.hid rfl) HP9 (Lib.hid rfl) (Lib.hid fun w1 q hq => sName_any q s k w1 hsz (by omega) hq) HPl _ (Lib.hid rfl) _ HNu (Lib.hid fun w1 => bHas_in s t k w1 hsz hk)
      · exact textSays_in s t k j w (by omega) (by omega) (Lib.hid hT) 0 false (Lib.hid fun w1 => bByte_high s k w1 hsz (by omega)) (.inr ⟨rfl, rfl, .inr (by omega)⟩) lo hi hLo hHi (by omega) (by omega) _ hwt
          _ hhv 1 (.inl ⟨by omega, by omega, rfl⟩) (fun m => lineN (s.data.toList.take (min m k))) (fun m => colN (s.data.toList.take (min m k))) (by simp only [Nat.zero_min]; rfl) (by simp only [Nat.zero_min]; rfl) (Lib.hid fun m => lines_le s k m) (Lib.hid fun m h => lines_step s k m h)
          ⟨#[]⟩ (.inr ⟨rfl, rfl⟩) _ (Lib.hid rfl) HP9 (Lib.hid rfl) (Lib.hid fun w1 q hq => sName_over q s k w1 hsz (by omega) hq) HPl _ (Lib.hid rfl) _ HNu (Lib.hid fun w1 => bHas_in s t k w1 hsz hk)

end Go.Proofs.YtdadgodjjfgmfaaDoor
