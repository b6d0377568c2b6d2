/- Names and letters, as the document has them: contracts. -/
import Derived.Test.YtdadgodjjfgmfaaDoorText2
namespace Go.Proofs.YtdadgodjjfgmfaaDoor
open Go Go.RowKit

/-- patoisref.Letter. -/
theorem rLetter_any (c : UInt8) (w : World) :
    Calls Tryd.prog 32 #[.int .u8 c.toNat] w fun e w' => e = .returned (.bool (isGo c)) ∧ w = w' := by
  go_enter Tryd.func32, Tryd.ntmps32
  go_wp2
  all_goals go_ret
  all_goals exact ⟨ret_bool (by rw [isGo, isBegin, isLetter, isDigit, Bool.eq_iff_iff]; simp only [Bool.or_eq_true, Bool.and_eq_true, decide_eq_true_eq, beq_iff_eq, Bool.false_eq_true, eq_self, true_iff, false_iff]; omega), rfl⟩

theorem rBlank_any (c : UInt8) (w : World) :
    Calls Tryd.prog 40 #[.int .u8 c.toNat] w fun e w' => e = .returned (.bool (c.toNat == 32 || c.toNat == 9 || c.toNat == 10)) ∧ w = w' := by
  go_enter Tryd.func40, Tryd.ntmps40
  go_wp2
  all_goals go_ret
  all_goals exact ⟨ret_bool (by rw [Bool.eq_iff_iff]; simp only [Bool.or_eq_true, Bool.and_eq_true, decide_eq_true_eq, beq_iff_eq, Bool.false_eq_true, eq_self, true_iff, false_iff]; omega), rfl⟩
theorem tBlank_any (c : UInt8) (w : World) :
    Calls Tryd.prog 39 #[.int .u8 c.toNat] w fun e w' => e = .returned (.bool (c.toNat == 32 || c.toNat == 9 || c.toNat == 10)) ∧ w = w' := by
  go_enter Tryd.func39, Tryd.ntmps39
  go_wp2
  all_goals go_ret
  all_goals exact ⟨ret_bool (by rw [Bool.eq_iff_iff]; simp only [Bool.or_eq_true, Bool.and_eq_true, decide_eq_true_eq, beq_iff_eq, Bool.false_eq_true, eq_self, true_iff, false_iff]; omega), rfl⟩

theorem digit_begin (c : UInt8) : isBegin c = (isGo c && !isDigit c) := by
  have h : ∀ n : Fin 256, isBegin (UInt8.ofNat n.val) = (isGo (UInt8.ofNat n.val) && !isDigit (UInt8.ofNat n.val)) := by decide +kernel
  have h1 := h ⟨c.toNat, c.toNat_lt⟩
  simpa using h1

theorem nameB_alt (s : ByteArray) (h0 : 0 < s.size) (h20 : s.size ≤ 20) : nameB s.data.toList = (!isDigit (bat s 0) && s.data.toList.all isGo) := by
  rw [nameB_cons s h0 h20, digit_begin]
  have h := drop_bat s 0 h0
  rw [List.drop_zero] at h
  rw [h, List.all_cons]
  cases isGo (bat s 0) <;> simp

theorem rName_empty (s : ByteArray) (w : World) (h : s.size = 0) :
    Calls Tryd.prog 31 #[.string s] w fun e w' => e = .returned (.bool false) ∧ w = w' := by
  go_enter Tryd.func31, Tryd.ntmps31
  go_wp2
  go_ret
  exact ⟨rfl, rfl⟩
theorem rName_long (s : ByteArray) (w : World) (h : 20 < s.size) (hs : s.size ≤ 1000000) :
    Calls Tryd.prog 31 #[.string s] w fun e w' => e = .returned (.bool false) ∧ w = w' := by
  go_enter Tryd.func31, Tryd.ntmps31
  go_wp2
  go_ret
  exact ⟨rfl, rfl⟩
theorem rName_digit (s : ByteArray) (w : World) (h0 : 0 < s.size) (h20 : s.size ≤ 20) (h1 : decide ((48 : Int) ≤ s[0].toNat) = true) (h2 : decide ((s[0].toNat : Int) ≤ 57) = true) :
    Calls Tryd.prog 31 #[.string s] w fun e w' => e = .returned (.bool false) ∧ w = w' := by
  go_enter Tryd.func31, Tryd.ntmps31
  go_wp2
  go_ret
  exact ⟨rfl, rfl⟩
theorem rName_loop (s : ByteArray) (w : World) (h0 : 0 < s.size) (h20 : s.size ≤ 20) (hd : decide ((48 : Int) ≤ s[0].toNat) = false ∨ (decide ((48 : Int) ≤ s[0].toNat) = true ∧ decide ((s[0].toNat : Int) ≤ 57) = false)) (b : Bool) (hB : Hid (s.data.toList.all isGo = b)) :
    Calls Tryd.prog 31 #[.string s] w fun e w' => e = .returned (.bool b) ∧ w = w' := by
  go_enter Tryd.func31, Tryd.ntmps31
  rcases hd with hd | ⟨hd, he⟩
  all_goals
    go_wp2
    go_loopg [3] (s.size) (fun m c wr => ∃ k : Nat, m = s.size - k ∧ k ≤ s.size ∧ c = .int .i64 k ∧ wr = w ∧ Hid ((s.data.toList.take k).all isGo = true))
    case atStart => exact ⟨0, rfl, Nat.zero_le _, rfl, rfl, Lib.hid rfl⟩
    case round =>
      obtain ⟨k, rfl, hk, rfl, rfl, hall⟩ := hrel
      by_cases hlt : k < s.size
      · by_cases hg : isGo s[k] = true
        · have HG := Lib.hid hg
          have HN := Lib.hid (show (s.data.toList.take (k + 1)).all isGo = true by rw [all_take_succ s k hlt, hall.out, ← getElem_bat s k hlt, hg]; rfl)
          clear hg
          go_wp2_with (go_at_call 32; refine (rLetter_any _ _).mono ?_; rintro e w' ⟨rfl, rfl⟩; rw [HG.out])
          go_roundg (s.size - (k + 1))
          case measure => omega
          case rel => exact ⟨k + 1, rfl, by omega, by go_num, rfl, HN⟩
        · have HG := Lib.hid (show isGo s[k] = false by simpa using hg)
          have HB := Lib.hid (show b = false by rw [← hB.out, all_false s k hlt (by rw [← getElem_bat s k hlt]; exact HG.out)])
          clear hg
          go_wp2_with (go_at_call 32; refine (rLetter_any _ _).mono ?_; rintro e w' ⟨rfl, rfl⟩; rw [HG.out])
          go_ret
          exact ⟨by rw [HB.out]; rfl, rfl⟩
      · have HB := Lib.hid (show b = true by rw [← hB.out, ← hall.out, List.take_of_length_le (by rw [size_eq]; omega)])
        go_wp2
        go_ret
        exact ⟨by rw [HB.out]; rfl, rfl⟩

/-- patoisref.Name. -/
theorem rName_any (s : ByteArray) (w : World) (hs : s.size ≤ 1000000) :
    Calls Tryd.prog 31 #[.string s] w fun e w' => e = .returned (.bool (nameB s.data.toList)) ∧ w = w' := by
  by_cases h0 : s.size = 0
  · have h := rName_empty s w h0
    rw [empty_of_size s h0] at h ⊢
    exact h
  · by_cases h20 : 20 < s.size
    · rw [nameB_long s h20]
      exact rName_long s w h20 hs
    · rw [nameB_alt s (by omega) (by omega), ← getElem_bat s 0 (by omega)]
      by_cases h1 : (48 : Int) ≤ s[0].toNat
      · by_cases h2 : (s[0].toNat : Int) ≤ 57
        · have e : isDigit s[0] = true := by unfold isDigit; rw [Bool.and_eq_true, decide_eq_true_eq, decide_eq_true_eq]; omega
          rw [e]
          exact rName_digit s w (by omega) (by omega) (decide_eq_true h1) (decide_eq_true h2)
        · have e : isDigit s[0] = false := by unfold isDigit; rw [Bool.and_eq_false_iff, decide_eq_false_iff_not, decide_eq_false_iff_not]; omega
          rw [e]
          exact rName_loop s w (by omega) (by omega) (.inr ⟨decide_eq_true h1, decide_eq_false h2⟩) _ (Lib.hid (by rw [Bool.not_false, Bool.true_and]))
      · have e : isDigit s[0] = false := by unfold isDigit; rw [Bool.and_eq_false_iff, decide_eq_false_iff_not, decide_eq_false_iff_not]; omega
        rw [e]
        exact rName_loop s w (by omega) (by omega) (.inl (decide_eq_false h1)) _ (Lib.hid (by rw [Bool.not_false, Bool.true_and]))

end Go.Proofs.YtdadgodjjfgmfaaDoor
