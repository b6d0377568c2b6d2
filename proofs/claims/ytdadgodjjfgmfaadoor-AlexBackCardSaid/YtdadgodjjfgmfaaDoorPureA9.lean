/- How long a source of dialect A's tokens is. No program stands in it. -/
import Derived.Test.YtdadgodjjfgmfaaDoorPureA8
namespace Go.Proofs.YtdadgodjjfgmfaaDoor
open Go Go.RowKit

def wlen (P : List APart) : Nat := (wordP P).length
theorem wlen_append (P Q : List APart) : wlen (P ++ Q) = wlen P + wlen Q := by simp [wlen, wordP]
theorem wlen_one (p : APart) : wlen [p] = (shownA p).length := by simp [wlen, wordP]
/-- What the quotes of a next dead byte cost. -/
def quoteCost (P : List APart) (j : Bool) : Nat :=
  match P.getLast? with
  | some q => if j = true ∧ q.kind = 2 then 0 else 2
  | none => 2
theorem quoteCost_le (P : List APart) (j : Bool) : quoteCost P j ≤ 2 := by
  unfold quoteCost
  split
  · split <;> omega
  · exact Nat.le_refl _
theorem shown_dead (n m : Nat) (q : Bool) (s : List UInt8) : (shownA ⟨2, n, m, q, s⟩).length = (sglA s).length + 2 := by
  unfold shownA
  rw [if_neg (by simp), if_pos rfl]
  simp
theorem dead_len (P : List APart) (j : Bool) (n : Nat) (s : List UInt8) : wlen (bytesA P j 2 n s) ≤ wlen P + quoteCost P j + 4 * s.length ∧ quoteCost (bytesA P j 2 n s) true = 0 := by
  have hs := sglA_length s
  unfold bytesA quoteCost
  cases hq : P.getLast? with
  | none =>
    simp only []
    rw [wlen_append, wlen_one, shown_dead, List.getLast?_concat]
    exact ⟨by omega, by simp⟩
  | some q =>
    simp only []
    by_cases hc : j = true ∧ q.kind = 2
    · rw [if_pos hc, if_pos hc]
      obtain ⟨Q, rfl⟩ := List.getLast?_eq_some_iff.1 hq
      rw [List.dropLast_concat, wlen_append, wlen_append, wlen_one, wlen_one, List.getLast?_concat]
      obtain ⟨qk, qp, qn, qq, qt⟩ := q
      obtain ⟨_, rfl⟩ := hc
      rw [shown_dead, shown_dead, sglA_append, List.length_append]
      exact ⟨by dsimp only; omega, by simp⟩
    · rw [if_neg hc, if_neg hc, wlen_append, wlen_one, shown_dead, List.getLast?_concat]
      exact ⟨by omega, by simp⟩
theorem text_len (P : List APart) (j : Bool) (n : Nat) (c : UInt8) : wlen (bytesA P j 1 n [c]) ≤ wlen P + 1 := by
  unfold bytesA
  cases hq : P.getLast? with
  | none =>
    simp only []
    rw [wlen_append, wlen_one]
    simp [shownA]
  | some q =>
    simp only []
    by_cases hc : j = true ∧ q.kind = 1
    · rw [if_pos hc]
      obtain ⟨Q, rfl⟩ := List.getLast?_eq_some_iff.1 hq
      rw [List.dropLast_concat, wlen_append, wlen_append, wlen_one, wlen_one]
      obtain ⟨qk, qp, qn, qq, qt⟩ := q
      obtain ⟨_, rfl⟩ := hc
      simp [shownA]
      omega
    · rw [if_neg hc, wlen_append, wlen_one]
      simp [shownA]

theorem core_le (p : APart) : (coreA p).length ≤ p.text.length + 3 := by
  unfold coreA
  repeat' split
  all_goals simp
theorem shown_le (p : APart) (h1 : p.kind ≠ 1) (h2 : p.kind ≠ 2) : (shownA p).length ≤ p.text.length + 3 + (if p.quoted = true then 2 else 0) := by
  have := core_le p
  unfold shownA
  rw [if_neg h1, if_neg h2]
  split
  · simp only [List.length_cons, List.length_append, List.length_nil]
    omega
  · omega
/-- The same, where the text takes no room. -/
theorem shown_le0 (p : APart) (h : (p.kind = 3 ∧ p.text = [42]) ∨ p.kind = 5 ∨ p.kind = 6) : (shownA p).length ≤ 2 + (if p.quoted = true then 2 else 0) := by
  have hc : (coreA p).length ≤ 2 := by
    unfold coreA
    rcases h with ⟨h, ht⟩ | h | h
    · rw [if_pos h, if_pos ht]; simp
    · rw [if_neg (by omega), if_neg (by omega), if_pos h]; simp
    · rw [if_neg (by omega), if_neg (by omega), if_neg (by omega), if_pos h]; simp
  unfold shownA
  rw [if_neg (by omega), if_neg (by omega)]
  split
  · simp only [List.length_cons, List.length_append, List.length_nil]
    omega
  · omega

theorem quoteCost_false (P : List APart) : quoteCost P false = 2 := by
  unfold quoteCost
  split
  · rw [if_neg (by simp)]
  · rfl

theorem dollarA_len (L : List UInt8) (q : Bool) (i : Nat) (P : List APart) (j : Bool) (i' : Nat) (P' : List APart) (j' : Bool) (hi : i < L.length) (h : dollarA L q i P j = .ok (i', P', j')) :
    i ≤ i' ∧ i' ≤ L.length ∧ (q = true → wlen P' + quoteCost P' j' ≤ wlen P + quoteCost P j + 4 * (i' - i)) ∧ (q = false → wlen P' ≤ wlen P + 4 * (i' - i)) := by
  have special : ∀ (p : APart) (e : Nat), p.quoted = q → (shownA p).length ≤ e + (if p.quoted = true then 2 else 0) → i + 2 ≤ i' → e ≤ 4 * (i' - i) - 4 →
      (q = true → wlen (P ++ [p]) + quoteCost (P ++ [p]) false ≤ wlen P + quoteCost P j + 4 * (i' - i)) ∧ (q = false → wlen (P ++ [p]) ≤ wlen P + 4 * (i' - i)) := by
    intro p e hq hs hi' he
    rw [wlen_append, wlen_one, quoteCost_false]
    rw [hq] at hs
    refine ⟨fun e1 => ?_, fun e1 => ?_⟩
    · rw [if_pos e1] at hs
      omega
    · rw [if_neg (by rw [e1]; decide)] at hs
      omega
  unfold dollarA at h
  simp only [] at h
  split at h
  · rename_i hne
    split at h
    · cases h
      have hle := runName_le (L.drop (i + 1))
      rw [List.length_drop] at hle
      have h1 : 1 ≤ (runName (L.drop (i + 1))).length := by
        cases hr : runName (L.drop (i + 1)) with
        | nil => exact absurd hr hne
        | cons _ _ => simp
      refine ⟨by omega, by omega, special _ _ rfl (shown_le ⟨3, i, 0, q, runName (L.drop (i + 1))⟩ (by simp) (by simp)) (by omega) (by dsimp only; omega)⟩
    · cases h
  split at h
  · rename_i h123
    have hb := byte_in L (i + 1) (by omega)
    split at h
    · cases h
    · rename_i n hn
      have hx := idxA_lt _ _ _ hn
      rw [List.length_drop] at hx
      split at h
      · cases h
        have hsl := subs_le L (i + 2) (i + 2 + n)
        simp only [Int.natCast_add, Int.cast_ofNat_Int] at hsl
        refine ⟨by omega, by omega, special _ _ rfl (shown_le ⟨3, i, 0, q, subs L (i + 2) (i + 2 + n)⟩ (by simp) (by simp)) (by omega) (by dsimp only; omega)⟩
      · cases h
  split at h
  · have hb := byte_in L (i + 1) (by omega)
    cases h
    exact ⟨by omega, by omega, special _ _ rfl (shown_le0 ⟨3, i, 0, q, [42]⟩ (.inl ⟨rfl, rfl⟩)) (by omega) (by omega)⟩
  split at h
  · have hb := byte_in L (i + 1) (by omega)
    cases h
    exact ⟨by omega, by omega, special _ _ rfl (shown_le0 ⟨5, i, (L.getD (i + 1) 0).toNat - 48, q, []⟩ (.inr (.inl rfl))) (by omega) (by omega)⟩
  split at h
  · have hb := byte_in L (i + 1) (by omega)
    cases h
    exact ⟨by omega, by omega, special _ _ rfl (shown_le0 ⟨6, i, 0, q, []⟩ (.inr (.inr rfl))) (by omega) (by omega)⟩
  split at h
  · split at h
    · cases h
    · rename_i t ht
      cases h
      have hx := scanA_lt _ _ _ _ _ _ ht
      have hsl := subs_le L (i + 2) t
      simp only [Int.natCast_add, Int.cast_ofNat_Int] at hsl
      refine ⟨by omega, by omega, special _ _ rfl (shown_le ⟨4, i, 0, q, subs L (i + 2) t⟩ (by simp) (by simp)) (by omega) (by dsimp only; omega)⟩
  · cases h
    refine ⟨by omega, by omega, fun e => ?_, fun e => ?_⟩
    · have := dead_len P j i [36]
      rw [if_pos e, this.2]
      have h1 := this.1
      simp only [List.length_cons, List.length_nil] at h1
      omega
    · have := text_len P j i 36
      rw [if_neg (by rw [e]; decide)]
      omega

theorem doubleA_len (L : List UInt8) (a b : Nat) : ∀ (f i : Nat) (P : List APart) (j : Bool) (i' : Nat) (P' : List APart) (j' : Bool), a ≤ i → wlen P + quoteCost P j ≤ 4 * (i - a) → doubleA L b f i P j = .ok (i', P', j') → i ≤ i' ∧ wlen P' ≤ 4 * (i' - a) := by
  intro f
  induction f with
  | zero => intro i P j i' P' j' _ _ h; cases h
  | succ f ih =>
    intro i P j i' P' j' ha hw h
    simp only [doubleA] at h
    split at h
    · cases h
    rename_i hlt
    split at h
    · cases h
      exact ⟨by omega, by omega⟩
    split at h
    · have hd := dead_len P j i (if [36, 34, 92].contains (L.getD (i + 1) 0).toNat then [L.getD (i + 1) 0] else [L.getD i 0, L.getD (i + 1) 0])
      have hl : (if [36, 34, 92].contains (L.getD (i + 1) 0).toNat then [L.getD (i + 1) 0] else [L.getD i 0, L.getD (i + 1) 0]).length ≤ 2 := by split <;> simp
      have := ih _ _ _ _ _ _ (show a ≤ i + 2 by omega) (by rw [hd.2]; omega) h
      exact ⟨by omega, this.2⟩
    split at h
    · split at h
      · cases h
      · rename_i i2 P2 j2 hd
        obtain ⟨h1, h2, h3, h4⟩ := dollarA_len L true i P j i2 P2 j2 (by omega) hd
        have := ih _ _ _ _ _ _ (show a ≤ i2 by omega) (by have := h3 rfl; omega) h
        exact ⟨by omega, this.2⟩
    · have hd := dead_len P j i [L.getD i 0]
      have h1 := hd.1
      simp only [List.length_cons, List.length_nil] at h1
      have := ih _ _ _ _ _ _ (show a ≤ i + 1 by omega) (by rw [hd.2]; omega) h
      exact ⟨by omega, this.2⟩

theorem wordA_len (L : List UInt8) (a : Nat) : ∀ (f i : Nat) (P : List APart) (j : Bool) (i' : Nat) (P' : List APart), a ≤ i → wlen P ≤ 4 * (i - a) → wordA L f i P j = .ok (i', P') → wlen P' ≤ 4 * (i' - a) := by
  intro f
  induction f with
  | zero => intro i P j i' P' _ hw h; cases h; exact hw
  | succ f ih =>
    intro i P j i' P' ha hw h
    simp only [wordA] at h
    split at h
    · cases h; exact hw
    rename_i hlt
    split at h
    · cases h; exact hw
    split at h
    · refine ih _ _ _ _ _ (show a ≤ min (i + 2) L.length by omega) ?_ h
      rw [wlen_append, wlen_one, shown_dead]
      by_cases h2 : i + 1 < L.length
      · rw [if_pos h2]
        have := sglA_length [L.getD (i + 1) 0]
        simp only [List.length_cons, List.length_nil] at this
        omega
      · rw [if_neg h2]
        have : (sglA [92]).length = 1 := by decide
        omega
    split at h
    · split at h
      · cases h
      · rename_i n hn
        refine ih _ _ _ _ _ (show a ≤ i + n + 2 by omega) ?_ h
        rw [wlen_append, wlen_one, shown_dead]
        have h1 := sglA_length (subs L (i + 1) (i + 1 + n))
        have h2 := subs_le L (i + 1) (i + 1 + n)
        simp only [Int.natCast_add, Int.cast_ofNat_Int] at h2
        omega
    split at h
    · split at h
      · cases h
      · rename_i i2 P2 j2 hd
        have h0 : quoteCost (P ++ [⟨2, i, 0, false, []⟩]) true = 0 := by
          unfold quoteCost
          rw [List.getLast?_concat]
          simp
        have h1 : wlen (P ++ [⟨2, i, 0, false, []⟩]) = wlen P + 2 := by
          rw [wlen_append, wlen_one, shown_dead]
          rfl
        obtain ⟨h2, h3⟩ := doubleA_len L a i _ _ _ _ _ _ _ (show a ≤ i + 1 by omega) (by rw [h0, h1]; omega) hd
        exact ih _ _ _ _ _ (show a ≤ i2 by omega) h3 h
    split at h
    · split at h
      · cases h
      · rename_i i2 P2 j2 hd
        obtain ⟨h1, h2, h3, h4⟩ := dollarA_len L false i P j i2 P2 j2 (by omega) hd
        exact ih _ _ _ _ _ (show a ≤ i2 by omega) (by have := h4 rfl; omega) h
    · have := text_len P j i (L.getD i 0)
      exact ih _ _ _ _ _ (show a ≤ i + 1 by omega) (by omega) h

theorem tokenA_len (L : List UInt8) (i : Nat) (t : ATok) (n : Nat) (h : tokenA L i = .ok (t, n)) : (tokP t).length ≤ 4 * (n - i) := by
  unfold tokenA at h
  split at h
  · cases h
    unfold tokP
    simp [opsA]
  simp only [] at h
  split at h
  · cases h
    rcases bestA_is (L.drop i) with e | ⟨e, _, _⟩
    · rename_i hne
      exact absurd (by rw [e]) hne
    · have h13 := (List.getElem?_eq_some_iff.1 e).1
      have hl : opsA.length = 13 := rfl
      unfold tokP
      dsimp only
      rw [if_neg (by omega), List.getD_eq_getElem?_getD, e]
      simp only [Option.getD_some]
      omega
  split at h
  · cases h
  split at h
  · cases h
  · rename_i k P hw
    cases h
    have := wordA_len L i _ _ _ _ _ _ (Nat.le_refl i) (by simp [wlen, wordP]) hw
    unfold tokP
    rw [if_pos rfl]
    exact this

/-- A source of a source's tokens is at most five times as long. -/
theorem print_len (L : List UInt8) : ∀ (f k : Nat) (ts : List ATok) (first : Bool), k ≤ L.length → lexA L f k = .ok ts → (printA first ts).length ≤ 5 * (L.length - k) := by
  intro f
  induction f with
  | zero => intro k ts first _ h; cases h; simp [printA]
  | succ f ih =>
    intro k ts first hk h
    rw [lexA] at h
    have hs := skipN_le false (L.drop k)
    have hfront := skip_front false (L.drop k)
    rw [List.length_drop] at hs
    rw [List.drop_drop] at hfront
    obtain ⟨j, hj⟩ : ∃ j, k + skipN false (L.drop k) = j := ⟨_, rfl⟩
    rw [hj] at h hfront
    cases ht : tokenA L j with
    | error e => rw [ht] at h; cases h
    | ok y =>
      obtain ⟨t, n⟩ := y
      rw [ht] at h
      obtain ⟨n1, n2, n3, n4, n5⟩ := tokenA_ok L j t n (by omega) hfront ht
      have hl := tokenA_len L j t n ht
      by_cases hk0 : t.kind = 0
      · simp only [hk0, if_true] at h
        cases h
        have htp : tokP t = [] := by unfold tokP; rw [hk0]; rfl
        rw [printA, htp, if_neg (by rw [hk0]; simp)]
        simp [printA]
      · simp only [hk0, if_false] at h
        have hn1 := n4 hk0
        cases hx : lexA L f n with
        | error e => rw [hx] at h; cases h
        | ok us =>
          rw [hx] at h
          cases h
          have := ih n us false n3 hx
          rw [printA, List.length_append, List.length_append]
          have hsep : (if first = false ∧ t.kind ≠ 0 then [32] else ([] : List UInt8)).length ≤ 1 := by split <;> simp
          omega

end Go.Proofs.YtdadgodjjfgmfaaDoor
