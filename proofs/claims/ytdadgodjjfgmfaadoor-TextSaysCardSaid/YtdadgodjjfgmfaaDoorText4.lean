/- Numbers: text.Parse, patoisref.Parse, patoisref.Run: contracts. -/
import Derived.Test.YtdadgodjjfgmfaaDoorText3
namespace Go.Proofs.YtdadgodjjfgmfaaDoor
open Go Go.RowKit

def digitsN : List UInt8 → Nat → Option Nat
  | [], n => some n
  | c :: l, n => if isDigit c then digitsN l (10 * n + (c.toNat - 48)) else none

def parseB (l : List UInt8) : Option Nat := if l.length = 0 ∨ 9 < l.length ∨ (1 < l.length ∧ l.head? = some 48) then none else digitsN l 0

def parseV : Option Nat → Value
  | some n => .tuple #[.int .i64 n, .bool true]
  | none => .tuple #[.int .i64 0, .bool false]

theorem digit_yes (c : UInt8) (h : isDigit c = true) : decide ((c.toNat : Int) < 48) = false ∧ decide ((57 : Int) < c.toNat) = false ∧ 48 ≤ c.toNat ∧ c.toNat ≤ 57 := by
  unfold isDigit at h
  simp only [Bool.and_eq_true, decide_eq_true_eq] at h
  simp only [decide_eq_false_iff_not]
  omega
theorem pow_step (n k c : Nat) (h : n < 10 ^ k) (hc : c < 10) : 10 * n + c < 10 ^ (k + 1) := by
  rw [Nat.pow_succ]
  omega
theorem pow_nine (n k : Nat) (h : n < 10 ^ k) (hk : k ≤ 9) : n < 1000000000 := Nat.lt_of_lt_of_le h (Nat.pow_le_pow_right (n := 10) (by decide) hk)

theorem tParse_empty (w : World) :
    Calls Tryd.prog 33 #[.string ⟨#[]⟩] w fun e w' => e = .returned (parseV none) ∧ w = w' := by
  go_enter Tryd.func33, Tryd.ntmps33
  go_wp2
  go_ret2
  exact ⟨rfl, rfl⟩
theorem tParse_long (s : ByteArray) (w : World) (hs : s.size ≤ 1000000) (h : 9 < s.size) :
    Calls Tryd.prog 33 #[.string s] w fun e w' => e = .returned (parseV none) ∧ w = w' := by
  obtain ⟨hn, hm⟩ := ne_empty s (by omega)
  go_enter Tryd.func33, Tryd.ntmps33
  go_wp2
  go_ret2
  exact ⟨rfl, rfl⟩
theorem tParse_zero (s : ByteArray) (w : World) (h1 : 1 < s.size) (h : s.size ≤ 9) (h0 : ((s[0].toNat : Int) == 48) = true) :
    Calls Tryd.prog 33 #[.string s] w fun e w' => e = .returned (parseV none) ∧ w = w' := by
  obtain ⟨hn, hm⟩ := ne_empty s (by omega)
  go_enter Tryd.func33, Tryd.ntmps33
  go_wp2
  go_ret2
  exact ⟨rfl, rfl⟩
theorem tParse_loop (s : ByteArray) (w : World) (h1 : 0 < s.size) (h : s.size ≤ 9) (b0 : Bool) (h0 : ((s[0].toNat : Int) == 48) = b0) (hb0 : b0 = true → s.size = 1) (T : Option Nat) (hT : Hid (digitsN s.data.toList 0 = T)) :
    Calls Tryd.prog 33 #[.string s] w fun e w' => e = .returned (parseV T) ∧ w = w' := by
  obtain ⟨hn, hm⟩ := ne_empty s (by omega)
  go_enter Tryd.func33, Tryd.ntmps33
  cases b0 with
  | true =>
    have := hb0 rfl
    go_wp2
    go_loopg [4, 25] (s.size) (fun m c d wr => ∃ k n : Nat, m = s.size - k ∧ k ≤ s.size ∧ c = .int .i64 n ∧ d = .int .i64 k ∧ n < 10 ^ k ∧ wr = w ∧ Hid (digitsN (s.data.toList.drop k) n = T))
    case atStart => exact ⟨0, 0, rfl, Nat.zero_le _, rfl, rfl, by decide, rfl, hT⟩
    case round =>
      obtain ⟨k, n, rfl, hk, rfl, rfl, hn10, rfl, hrest⟩ := hrel
      have hn9 := pow_nine n k hn10 (by omega)
      by_cases hlt : k < s.size
      · have hd := drop_bat s k hlt
        rw [← getElem_bat s k hlt] at hd
        by_cases hg : isDigit s[k] = true
        · obtain ⟨g1, g2, g3, g4⟩ := digit_yes s[k] hg
          have HN := Lib.hid (show digitsN (s.data.toList.drop (k + 1)) (10 * n + (s[k].toNat - 48)) = T by rw [← hrest.out, hd, digitsN, if_pos hg])
          have hp := Lib.hid (pow_step n k (s[k].toNat - 48) hn10 (by omega))
          clear hd hg hrest
          go_wp2
          go_roundg (s.size - (k + 1))
          case measure => omega
          case rel => exact ⟨k + 1, 10 * n + (s[k].toNat - 48), rfl, by omega, by go_num, by go_num, hp.out, rfl, HN⟩
        · have HN := Lib.hid (show none = T by rw [← hrest.out, hd, digitsN, if_neg hg])
          have hg' : decide ((s[k].toNat : Int) < 48) = true ∨ (decide ((s[k].toNat : Int) < 48) = false ∧ decide ((57 : Int) < s[k].toNat) = true) := by
            unfold isDigit at hg
            simp only [Bool.and_eq_true, decide_eq_true_eq] at hg
            simp only [decide_eq_false_iff_not, decide_eq_true_eq]
            omega
          clear hd hg hrest
          rcases hg' with g1 | ⟨g1, g2⟩
          · go_wp2
            go_ret2
            exact ⟨by rw [← HN.out]; rfl, rfl⟩
          · go_wp2
            go_ret2
            exact ⟨by rw [← HN.out]; rfl, rfl⟩
      · have HN := Lib.hid (show some n = T by rw [← hrest.out, List.drop_eq_nil_of_le (by rw [size_eq]; omega), digitsN])
        clear hrest
        go_wp2
        go_ret2
        exact ⟨by rw [← HN.out]; rfl, rfl⟩
  | false =>
    go_wp2
    go_loopg [4, 25] (s.size) (fun m c d wr => ∃ k n : Nat, m = s.size - k ∧ k ≤ s.size ∧ c = .int .i64 n ∧ d = .int .i64 k ∧ n < 10 ^ k ∧ wr = w ∧ Hid (digitsN (s.data.toList.drop k) n = T))
    case atStart => exact ⟨0, 0, rfl, Nat.zero_le _, rfl, rfl, by decide, rfl, hT⟩
    case round =>
      obtain ⟨k, n, rfl, hk, rfl, rfl, hn10, rfl, hrest⟩ := hrel
      have hn9 := pow_nine n k hn10 (by omega)
      by_cases hlt : k < s.size
      · have hd := drop_bat s k hlt
        rw [← getElem_bat s k hlt] at hd
        by_cases hg : isDigit s[k] = true
        · obtain ⟨g1, g2, g3, g4⟩ := digit_yes s[k] hg
          have HN := Lib.hid (show digitsN (s.data.toList.drop (k + 1)) (10 * n + (s[k].toNat - 48)) = T by rw [← hrest.out, hd, digitsN, if_pos hg])
          have hp := Lib.hid (pow_step n k (s[k].toNat - 48) hn10 (by omega))
          clear hd hg hrest
          go_wp2
          go_roundg (s.size - (k + 1))
          case measure => omega
          case rel => exact ⟨k + 1, 10 * n + (s[k].toNat - 48), rfl, by omega, by go_num, by go_num, hp.out, rfl, HN⟩
        · have HN := Lib.hid (show none = T by rw [← hrest.out, hd, digitsN, if_neg hg])
          have hg' : decide ((s[k].toNat : Int) < 48) = true ∨ (decide ((s[k].toNat : Int) < 48) = false ∧ decide ((57 : Int) < s[k].toNat) = true) := by
            unfold isDigit at hg
            simp only [Bool.and_eq_true, decide_eq_true_eq] at hg
            simp only [decide_eq_false_iff_not, decide_eq_true_eq]
            omega
          clear hd hg hrest
          rcases hg' with g1 | ⟨g1, g2⟩
          · go_wp2
            go_ret2
            exact ⟨by rw [← HN.out]; rfl, rfl⟩
          · go_wp2
            go_ret2
            exact ⟨by rw [← HN.out]; rfl, rfl⟩
      · have HN := Lib.hid (show some n = T by rw [← hrest.out, List.drop_eq_nil_of_le (by rw [size_eq]; omega), digitsN])
        clear hrest
        go_wp2
        go_ret2
        exact ⟨by rw [← HN.out]; rfl, rfl⟩

theorem head_bat (s : ByteArray) (h : 0 < s.size) : s.data.toList.head? = some s[0] := by
  have := drop_bat s 0 h
  rw [List.drop_zero] at this
  rw [this, getElem_bat]
  rfl
theorem zero_byte (c : UInt8) : ((c.toNat : Int) == 48) = (c == 48) := by
  rw [Bool.eq_iff_iff, beq_iff_eq, beq_iff_eq, ← UInt8.toNat_inj]
  show ((c.toNat : Int) = 48) ↔ c.toNat = 48
  omega

/-- text.Parse. -/
theorem tParse_any (s : ByteArray) (w : World) (hs : s.size ≤ 1000000) :
    Calls Tryd.prog 33 #[.string s] w fun e w' => e = .returned (parseV (parseB s.data.toList)) ∧ w = w' := by
  have hl := size_eq s
  by_cases h0 : s.size = 0
  · rw [empty_of_size s h0]
    exact tParse_empty w
  · by_cases h9 : 9 < s.size
    · rw [parseB, if_pos (.inr (.inl (by omega)))]
      exact tParse_long s w hs h9
    · by_cases hz : 1 < s.size ∧ s[0] = 48
      · rw [parseB, if_pos (.inr (.inr ⟨by omega, by rw [head_bat s (by omega), hz.2]⟩))]
        exact tParse_zero s w hz.1 (by omega) (by rw [zero_byte, hz.2]; rfl)
      · rw [parseB, if_neg (by rw [head_bat s (by omega), hl]; rintro (h | h | ⟨h1, h2⟩); exact h0 h; exact h9 h; exact hz ⟨h1, Option.some.inj h2⟩)]
        refine tParse_loop s w (by omega) (by omega) _ rfl ?_ _ (Lib.hid rfl)
        intro h
        rw [zero_byte, beq_iff_eq] at h
        by_cases h1 : 1 < s.size
        · exact absurd ⟨h1, h⟩ hz
        · omega

/-- What patoisref.Parse returns. -/
def refV : Option Nat → Value
  | some n => .int .i64 n
  | none => .int .i64 (-1)
theorem rParse_empty (s : ByteArray) (w : World) (h : s.size = 0) :
    Calls Tryd.prog 37 #[.string s] w fun e w' => e = .returned (refV none) ∧ w = w' := by
  go_enter Tryd.func37, Tryd.ntmps37
  go_wp2
  go_ret
  exact ⟨rfl, rfl⟩
theorem rParse_long (s : ByteArray) (w : World) (hs : s.size ≤ 1000000) (h : 9 < s.size) :
    Calls Tryd.prog 37 #[.string s] w fun e w' => e = .returned (refV none) ∧ w = w' := by
  go_enter Tryd.func37, Tryd.ntmps37
  go_wp2
  go_ret
  exact ⟨rfl, rfl⟩
theorem rParse_zero (s : ByteArray) (w : World) (h1 : 1 < s.size) (h : s.size ≤ 9) (h0 : ((s[0].toNat : Int) == 48) = true) :
    Calls Tryd.prog 37 #[.string s] w fun e w' => e = .returned (refV none) ∧ w = w' := by
  go_enter Tryd.func37, Tryd.ntmps37
  go_wp2
  go_ret
  exact ⟨rfl, rfl⟩
theorem rParse_loop (s : ByteArray) (w : World) (h1 : 1 < s.size) (h : s.size ≤ 9) (h0 : ((s[0].toNat : Int) == 48) = false) (T : Option Nat) (hT : Hid (digitsN s.data.toList 0 = T)) :
    Calls Tryd.prog 37 #[.string s] w fun e w' => e = .returned (refV T) ∧ w = w' := by
  go_enter Tryd.func37, Tryd.ntmps37
  go_wp2
  go_loopg [3, 4] (s.size) (fun m c d wr => ∃ k n : Nat, m = s.size - k ∧ k ≤ s.size ∧ c = .int .i64 n ∧ d = .int .i64 k ∧ n < 10 ^ k ∧ wr = w ∧ Hid (digitsN (s.data.toList.drop k) n = T))
  case atStart => exact ⟨0, 0, rfl, Nat.zero_le _, rfl, rfl, by decide, rfl, hT⟩
  case round =>
    obtain ⟨k, n, rfl, hk, rfl, rfl, hn10, rfl, hrest⟩ := hrel
    have hn9 := pow_nine n k hn10 (by omega)
    by_cases hlt : k < s.size
    · have hd := drop_bat s k hlt
      rw [← getElem_bat s k hlt] at hd
      by_cases hg : isDigit s[k] = true
      · obtain ⟨g1, g2, g3, g4⟩ := digit_yes s[k] hg
        have HN := Lib.hid (show digitsN (s.data.toList.drop (k + 1)) (10 * n + (s[k].toNat - 48)) = T by rw [← hrest.out, hd, digitsN, if_pos hg])
        have hp := Lib.hid (pow_step n k (s[k].toNat - 48) hn10 (by omega))
        clear hd hg hrest
        go_wp2
        go_roundg (s.size - (k + 1))
        case measure => omega
        case rel => exact ⟨k + 1, 10 * n + (s[k].toNat - 48), rfl, by omega, by go_num, by go_num, hp.out, rfl, HN⟩
      · have HN := Lib.hid (show none = T by rw [← hrest.out, hd, digitsN, if_neg hg])
        have hg' : decide ((s[k].toNat : Int) < 48) = true ∨ (decide ((s[k].toNat : Int) < 48) = false ∧ decide ((57 : Int) < s[k].toNat) = true) := by
          unfold isDigit at hg
          simp only [Bool.and_eq_true, decide_eq_true_eq] at hg
          simp only [decide_eq_false_iff_not, decide_eq_true_eq]
          omega
        clear hd hg hrest
        rcases hg' with g1 | ⟨g1, g2⟩
        · go_wp2
          go_ret
          exact ⟨by rw [← HN.out]; rfl, rfl⟩
        · go_wp2
          go_ret
          exact ⟨by rw [← HN.out]; rfl, rfl⟩
    · have HN := Lib.hid (show some n = T by rw [← hrest.out, List.drop_eq_nil_of_le (by rw [size_eq]; omega), digitsN])
      clear hrest
      go_wp2
      go_ret
      exact ⟨by rw [← HN.out]; rfl, rfl⟩

theorem rParse_one (s : ByteArray) (w : World) (h1 : s.size = 1) (T : Option Nat) (hT : Hid (digitsN s.data.toList 0 = T)) :
    Calls Tryd.prog 37 #[.string s] w fun e w' => e = .returned (refV T) ∧ w = w' := by
  go_enter Tryd.func37, Tryd.ntmps37
  go_wp2
  go_loopg [3, 4] (s.size) (fun m c d wr => ∃ k n : Nat, m = s.size - k ∧ k ≤ s.size ∧ c = .int .i64 n ∧ d = .int .i64 k ∧ n < 10 ^ k ∧ wr = w ∧ Hid (digitsN (s.data.toList.drop k) n = T))
  case atStart => exact ⟨0, 0, rfl, Nat.zero_le _, rfl, rfl, by decide, rfl, hT⟩
  case round =>
    obtain ⟨k, n, rfl, hk, rfl, rfl, hn10, rfl, hrest⟩ := hrel
    have hn9 := pow_nine n k hn10 (by omega)
    by_cases hlt : k < s.size
    · have hd := drop_bat s k hlt
      rw [← getElem_bat s k hlt] at hd
      by_cases hg : isDigit s[k] = true
      · obtain ⟨g1, g2, g3, g4⟩ := digit_yes s[k] hg
        have HN := Lib.hid (show digitsN (s.data.toList.drop (k + 1)) (10 * n + (s[k].toNat - 48)) = T by rw [← hrest.out, hd, digitsN, if_pos hg])
        have hp := Lib.hid (pow_step n k (s[k].toNat - 48) hn10 (by omega))
        clear hd hg hrest
        go_wp2
        go_roundg (s.size - (k + 1))
        case measure => omega
        case rel => exact ⟨k + 1, 10 * n + (s[k].toNat - 48), rfl, by omega, by go_num, by go_num, hp.out, rfl, HN⟩
      · have HN := Lib.hid (show none = T by rw [← hrest.out, hd, digitsN, if_neg hg])
        have hg' : decide ((s[k].toNat : Int) < 48) = true ∨ (decide ((s[k].toNat : Int) < 48) = false ∧ decide ((57 : Int) < s[k].toNat) = true) := by
          unfold isDigit at hg
          simp only [Bool.and_eq_true, decide_eq_true_eq] at hg
          simp only [decide_eq_false_iff_not, decide_eq_true_eq]
          omega
        clear hd hg hrest
        rcases hg' with g1 | ⟨g1, g2⟩
        · go_wp2
          go_ret
          exact ⟨by rw [← HN.out]; rfl, rfl⟩
        · go_wp2
          go_ret
          exact ⟨by rw [← HN.out]; rfl, rfl⟩
    · have HN := Lib.hid (show some n = T by rw [← hrest.out, List.drop_eq_nil_of_le (by rw [size_eq]; omega), digitsN])
      clear hrest
      go_wp2
      go_ret
      exact ⟨by rw [← HN.out]; rfl, rfl⟩

/-- patoisref.Parse. -/
theorem rParse_any (s : ByteArray) (w : World) (hs : s.size ≤ 1000000) :
    Calls Tryd.prog 37 #[.string s] w fun e w' => e = .returned (refV (parseB s.data.toList)) ∧ w = w' := by
  have hl := size_eq s
  by_cases h0 : s.size = 0
  · rw [parseB, if_pos (.inl (by omega))]
    exact rParse_empty s w h0
  · by_cases h9 : 9 < s.size
    · rw [parseB, if_pos (.inr (.inl (by omega)))]
      exact rParse_long s w hs h9
    · by_cases h1 : 1 < s.size
      · by_cases hz : s[0] = 48
        · rw [parseB, if_pos (.inr (.inr ⟨by omega, by rw [head_bat s (by omega), hz]⟩))]
          exact rParse_zero s w h1 (by omega) (by rw [zero_byte, hz]; rfl)
        · rw [parseB, if_neg (by rw [head_bat s (by omega), hl]; rintro (h | h | ⟨h1, h2⟩); exact h0 h; exact h9 h; exact hz (Option.some.inj h2))]
          exact rParse_loop s w h1 (by omega) (by rw [zero_byte]; simpa using hz) _ (Lib.hid rfl)
      · rw [parseB, if_neg (by rw [hl]; rintro (h | h | ⟨h2, _⟩); exact h0 h; exact h9 h; exact h1 h2)]
        exact rParse_one s w (by omega) _ (Lib.hid rfl)

end Go.Proofs.YtdadgodjjfgmfaaDoor
