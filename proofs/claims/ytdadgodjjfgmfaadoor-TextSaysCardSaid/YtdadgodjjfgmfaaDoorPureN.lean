/- A number's text and the text's number: plain laws. No program stands in it. -/
import Derived.Test.YtdadgodjjfgmfaaDoorText4
import Derived.Lib.ItoaNum
namespace Go.Proofs.YtdadgodjjfgmfaaDoor
open Go Go.RowKit

theorem digitsN_append (a b : List UInt8) : ∀ n, digitsN (a ++ b) n = (digitsN a n).bind (digitsN b) := by
  induction a with
  | nil => exact fun n => rfl
  | cons c a ih =>
    intro n
    rw [List.cons_append, digitsN, digitsN]
    split
    · exact ih _
    · rfl

theorem digit_of (d : Nat) (h : d < 10) : (UInt8.ofNat (48 + d)).toNat = 48 + d ∧ isDigit (UInt8.ofNat (48 + d)) = true := by
  have e : (UInt8.ofNat (48 + d)).toNat = 48 + d := by
    rw [UInt8.toNat_ofNat']
    omega
  refine ⟨e, ?_⟩
  unfold isDigit
  rw [e, Bool.and_eq_true, decide_eq_true_eq, decide_eq_true_eq]
  omega

theorem digitsN_one (d n : Nat) (h : d < 10) : digitsN [UInt8.ofNat (48 + d)] n = some (10 * n + d) := by
  obtain ⟨e, f⟩ := digit_of d h
  rw [digitsN, if_pos f, digitsN, e, Nat.add_sub_cancel_left]

theorem digitsN_dec (u : Nat) : digitsN (Lib.decDigits u) 0 = some u := by
  induction u using Nat.strongRecOn with
  | _ u ih =>
    by_cases h : u < 10
    · rw [Lib.decDigits, dif_pos h, digitsN_one u 0 h, Nat.mul_zero, Nat.zero_add]
    · rw [Lib.decDigits, dif_neg h, digitsN_append, ih (u / 10) (by omega)]
      show digitsN _ (u / 10) = _
      rw [digitsN_one _ _ (by omega)]
      congr 1
      omega

theorem dec_head (u : Nat) (h : 1 ≤ u) : (Lib.decDigits u).head? ≠ some 48 := by
  induction u using Nat.strongRecOn with
  | _ u ih =>
    by_cases h10 : u < 10
    · rw [Lib.decDigits, dif_pos h10]
      intro e
      have e1 := congrArg UInt8.toNat (Option.some.inj e)
      rw [(digit_of u h10).1] at e1
      have : (48 : UInt8).toNat = 48 := rfl
      omega
    · rw [Lib.decDigits, dif_neg h10]
      have h1 := ih (u / 10) (by omega) (by omega)
      cases hd : Lib.decDigits (u / 10) with
      | nil =>
        have := Lib.decDigits_length (u / 10)
        rw [hd] at this
        have := Lib.nDigits_pos (u / 10)
        simp at *
        omega
      | cons c l =>
        rw [hd] at h1
        exact h1

theorem nDigits_le (k : Nat) : ∀ u, u < 10 ^ (k + 1) → Lib.nDigits u ≤ k + 1 := by
  induction k with
  | zero => exact fun u h => by rw [Lib.nDigits_small (by simpa using h)]; exact Nat.le_refl _
  | succ k ih =>
    intro u h
    by_cases h10 : u < 10
    · rw [Lib.nDigits_small h10]; omega
    · rw [Lib.nDigits_big h10]
      have := ih (u / 10) (by rw [Nat.pow_succ] at h; omega)
      omega

/-- The number of a number's text. -/
theorem parseB_itoa (n : Int) : parseB (Lib.itoa n) = if 0 ≤ n ∧ n ≤ 999999999 then some n.toNat else none := by
  by_cases hn : n < 0
  · rw [if_neg (by omega), Lib.itoa, if_pos hn, parseB]
    split
    · rfl
    · rfl
  · rw [Lib.itoa, if_neg hn, parseB, Lib.decDigits_length]
    by_cases h9 : n ≤ 999999999
    · rw [show (if 0 ≤ n ∧ n ≤ 999999999 then some n.toNat else none) = some n.toNat from if_pos (by omega)]
      have h1 := nDigits_le 8 n.toNat (by omega)
      have h2 := Lib.nDigits_pos n.toNat
      rw [if_neg, digitsN_dec]
      rintro (h | h | ⟨h, h3⟩)
      · omega
      · omega
      · refine dec_head n.toNat ?_ h3
        apply Classical.byContradiction
        intro h0
        rw [show n.toNat = 0 from by omega, Lib.nDigits_small (by omega)] at h
        omega
    · rw [show (if 0 ≤ n ∧ n ≤ 999999999 then some n.toNat else none) = none from if_neg (by omega), if_pos]
      right; left
      have h1 := Lib.lt_pow_nDigits n.toNat
      apply Classical.byContradiction
      intro h2
      have h3 : n.toNat < 10 ^ 9 := Nat.lt_of_lt_of_le h1 (Nat.pow_le_pow_right (by decide) (by omega))
      omega

theorem dec_digits : ∀ (m : Nat) (l : List UInt8) (k : Nat), l.length = m → l ≠ [] → (1 < l.length → l.head? ≠ some 48) → digitsN l 0 = some k → Lib.decDigits k = l := by
  intro m
  induction m with
  | zero => intro l k hl hne; exact absurd (List.eq_nil_of_length_eq_zero hl) hne
  | succ m ih =>
    intro l k hl hne hh hd
    obtain ⟨a, c, rfl⟩ : ∃ a c, l = a ++ [c] := ⟨l.dropLast, l.getLast hne, (List.dropLast_concat_getLast hne).symm⟩
    rw [digitsN_append] at hd
    simp only [List.length_append, List.length_cons, List.length_nil] at hl hh
    cases ha : digitsN a 0 with
    | none => rw [ha] at hd; cases hd
    | some k' =>
      rw [ha] at hd
      change digitsN [c] k' = some k at hd
      rw [digitsN] at hd
      split at hd
      · rename_i hc
        rw [digitsN] at hd
        obtain ⟨_, _, c1, c2⟩ := digit_yes c hc
        obtain rfl := Option.some.inj hd
        have hc3 : UInt8.ofNat (48 + (c.toNat - 48)) = c := by
          apply UInt8.toNat_inj.1
          rw [(digit_of _ (by omega)).1]
          omega
        by_cases h0 : a = []
        · subst h0
          cases ha
          rw [Lib.decDigits, dif_pos (by omega), Nat.mul_zero, Nat.zero_add, hc3]
          rfl
        · have hlen : 0 < a.length := List.length_pos_iff.2 h0
          have h48 : a.head? ≠ some 48 := by
            have := hh (by omega)
            intro e
            apply this
            cases a with
            | nil => cases e
            | cons x a => exact e
          have hi := ih a k' (by omega) h0 (fun _ => h48) ha
          have hk : 1 ≤ k' := by
            apply Classical.byContradiction
            intro hk
            rw [show k' = 0 from by omega, Lib.decDigits, dif_pos (by omega)] at hi
            rw [← hi] at h48
            exact h48 rfl
          rw [Lib.decDigits, dif_neg (by omega), show (10 * k' + (c.toNat - 48)) / 10 = k' from by omega, hi, show (10 * k' + (c.toNat - 48)) % 10 = c.toNat - 48 from by omega, hc3]
      · cases hd

/-- What is read has just this text. -/
theorem itoa_parseB (l : List UInt8) (k : Nat) (h : parseB l = some k) : Lib.itoa (k : Int) = l ∧ k < 1000000000 := by
  unfold parseB at h
  split at h
  · cases h
  · rename_i hc
    have h1 : l ≠ [] := by
      rintro rfl
      exact hc (.inl rfl)
    have h2 : ¬ 9 < l.length := fun e => hc (.inr (.inl e))
    have h3 := dec_digits l.length l k rfl h1 (fun e1 e2 => hc (.inr (.inr ⟨e1, e2⟩))) h
    constructor
    · rw [Lib.itoa, if_neg (by omega)]
      exact h3
    · have h4 := Lib.decDigits_length k
      rw [h3] at h4
      have h5 := Lib.lt_pow_nDigits k
      exact Nat.lt_of_lt_of_le h5 (Nat.le_trans (Nat.pow_le_pow_right (by decide) (show Lib.nDigits k ≤ 9 by omega)) (by decide))

end Go.Proofs.YtdadgodjjfgmfaaDoor
