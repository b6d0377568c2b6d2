/- How much there is of the parts and texts of dialect A's tokens. No program stands in it. -/
import Derived.Test.YtdadgodjjfgmfaaDoorPureA9
namespace Go.Proofs.YtdadgodjjfgmfaaDoor
open Go Go.RowKit

/-- No more parts than bytes, and no more bytes in them. -/
def SumA (P : List APart) (i : Nat) : Prop := P.length ≤ i ∧ (deadText P).length ≤ i

theorem SumA.nil (i : Nat) : SumA [] i := ⟨Nat.zero_le _, Nat.zero_le _⟩
theorem SumA.mono {P : List APart} {i k : Nat} (h : SumA P i) (hk : i ≤ k) : SumA P k := ⟨by have := h.1; omega, by have := h.2; omega⟩
theorem SumA.part {P : List APart} {i k : Nat} (h : SumA P i) (p : APart) (hp : i + p.text.length ≤ k) (hk : i < k) : SumA (P ++ [p]) k := by
  obtain ⟨h1, h2⟩ := h
  have hd : deadText [p] = p.text := by simp [deadText]
  exact ⟨by rw [List.length_append]; simp only [List.length_cons, List.length_nil]; omega, by rw [deadText_append, hd, List.length_append]; omega⟩
theorem SumA.bytes {P : List APart} {i k : Nat} (h : SumA P i) (j : Bool) (kind n : Nat) (s : List UInt8) (hs : i + s.length ≤ k) (hk : i < k) : SumA (bytesA P j kind n s) k := by
  unfold bytesA
  split
  · rename_i q hq
    obtain ⟨Q, rfl⟩ := List.getLast?_eq_some_iff.1 hq
    split
    · rw [List.dropLast_concat]
      obtain ⟨h1, h2⟩ := h
      have hd : ∀ x : APart, deadText [x] = x.text := fun x => by simp [deadText]
      rw [List.length_append] at h1
      rw [deadText_append, hd, List.length_append] at h2
      simp only [List.length_cons, List.length_nil] at h1
      refine ⟨by rw [List.length_append]; simp only [List.length_cons, List.length_nil]; omega, ?_⟩
      rw [deadText_append, hd]
      show (deadText Q ++ (q.text ++ s)).length ≤ k
      rw [List.length_append, List.length_append]
      omega
    · exact h.part _ (by show i + s.length ≤ k; omega) hk
  · exact h.part _ (by show i + s.length ≤ k; omega) hk

theorem dollarA_sum (L : List UInt8) (q : Bool) (i : Nat) (P : List APart) (j : Bool) (i' : Nat) (P' : List APart) (j' : Bool) (hi : i < L.length) (hR : SumA P i) (h : dollarA L q i P j = .ok (i', P', j')) :
    SumA P' i' ∧ i < i' ∧ i' ≤ L.length := by
  unfold dollarA at h
  simp only [] at h
  split at h
  · split at h
    · cases h
      have := runName_le (L.drop (i + 1))
      rw [List.length_drop] at this
      exact ⟨hR.part _ (by dsimp only; omega) (by omega), by omega, by omega⟩
    · cases h
  split at h
  · rename_i h123
    have hb := byte_in L (i + 1) (by omega)
    split at h
    · cases h
    · rename_i n hn
      have := idxA_lt _ _ _ hn
      rw [List.length_drop] at this
      split at h
      · cases h
        exact ⟨hR.part _ (by have := subs_le L (i + 2) (i + 2 + n); dsimp only; simp only [Int.natCast_add, Int.cast_ofNat_Int] at *; omega) (by omega), by omega, by omega⟩
      · cases h
  split at h
  · have hb := byte_in L (i + 1) (by omega)
    cases h
    exact ⟨hR.part _ (by simp) (by omega), by omega, by omega⟩
  split at h
  · have hb := byte_in L (i + 1) (by omega)
    cases h
    exact ⟨hR.part _ (by simp) (by omega), by omega, by omega⟩
  split at h
  · have hb := byte_in L (i + 1) (by omega)
    cases h
    exact ⟨hR.part _ (by simp) (by omega), by omega, by omega⟩
  split at h
  · split at h
    · cases h
    · rename_i t ht
      cases h
      have := scanA_lt _ _ _ _ _ _ ht
      exact ⟨hR.part _ (by have := subs_le L (i + 2) t; dsimp only; simp only [Int.natCast_add, Int.cast_ofNat_Int] at *; omega) (by omega), by omega, by omega⟩
  · cases h
    exact ⟨hR.bytes _ _ _ _ (by simp) (by omega), by omega, by omega⟩

theorem doubleA_sum (L : List UInt8) (b : Nat) : ∀ (f i : Nat) (P : List APart) (j : Bool) (i' : Nat) (P' : List APart) (j' : Bool), SumA P i → i ≤ L.length → doubleA L b f i P j = .ok (i', P', j') →
    SumA P' i' ∧ i ≤ i' ∧ i' ≤ L.length := by
  intro f
  induction f with
  | zero => intro i P j i' P' j' _ _ h; cases h
  | succ f ih =>
    intro i P j i' P' j' hR hi h
    simp only [doubleA] at h
    split at h
    · cases h
    rename_i hlt
    split at h
    · rename_i h34
      cases h
      exact ⟨hR.mono (by omega), by omega, by omega⟩
    split at h
    · have := ih _ _ _ _ _ _ (hR.bytes j 2 _ _ (show i + _ ≤ i + 2 by split <;> simp) (by omega)) (by omega) h
      exact ⟨this.1, by omega, this.2.2⟩
    split at h
    · split at h
      · cases h
      · rename_i i2 P2 j2 hd
        obtain ⟨h1, h2, h3⟩ := dollarA_sum L true i P j i2 P2 j2 (by omega) hR hd
        have := ih _ _ _ _ _ _ h1 h3 h
        exact ⟨this.1, by omega, this.2.2⟩
    · have := ih _ _ _ _ _ _ (hR.bytes j 2 _ _ (show i + _ ≤ i + 1 by simp) (by omega)) (by omega) h
      exact ⟨this.1, by omega, this.2.2⟩

theorem wordA_sum (L : List UInt8) : ∀ (f i : Nat) (P : List APart) (j : Bool) (i' : Nat) (P' : List APart), SumA P i → i ≤ L.length → wordA L f i P j = .ok (i', P') → SumA P' L.length := by
  intro f
  induction f with
  | zero => intro i P j i' P' hR hi h; cases h; exact hR.mono hi
  | succ f ih =>
    intro i P j i' P' hR hi h
    simp only [wordA] at h
    split at h
    · cases h; exact hR.mono hi
    rename_i hlt
    split at h
    · cases h; exact hR.mono hi
    split at h
    · refine ih _ _ _ _ _ (hR.part _ ?_ (by omega)) (by omega) h
      split <;> simp only [List.length_cons, List.length_nil] <;> omega
    split at h
    · split at h
      · cases h
      · rename_i n hn
        have := idxA_lt _ _ _ hn
        rw [List.length_drop] at this
        have h2 := subs_le L (i + 1) (i + 1 + n)
        simp only [Int.natCast_add, Int.cast_ofNat_Int] at h2
        exact ih _ _ _ _ _ (hR.part _ (by dsimp only; omega) (by omega)) (by omega) h
    split at h
    · split at h
      · cases h
      · rename_i i2 P2 j2 hd
        obtain ⟨h1, h2, h3⟩ := doubleA_sum L i _ _ _ _ _ _ _ (hR.part ⟨2, i, 0, false, []⟩ (show i + ([] : List UInt8).length ≤ i + 1 by simp) (by omega)) (by omega) hd
        exact ih _ _ _ _ _ h1 h3 h
    split at h
    · split at h
      · cases h
      · rename_i i2 P2 j2 hd
        obtain ⟨h1, h2, h3⟩ := dollarA_sum L false i P j i2 P2 j2 (by omega) hR hd
        exact ih _ _ _ _ _ h1 h3 h
    · exact ih _ _ _ _ _ (hR.bytes j 1 _ _ (show i + _ ≤ i + 1 by simp) (by omega)) (by omega) h

theorem tokenA_sum (L : List UInt8) (i : Nat) (t : ATok) (n : Nat) (hi : i ≤ L.length) (h : tokenA L i = .ok (t, n)) : SumA t.parts L.length := by
  unfold tokenA at h
  split at h
  · cases h
    exact .nil _
  simp only [] at h
  split at h
  · cases h
    exact .nil _
  split at h
  · cases h
  split at h
  · cases h
  · rename_i k P hw
    cases h
    exact wordA_sum L _ _ _ _ _ _ (.nil i) hi hw

theorem lexA_sum (L : List UInt8) : ∀ (f k : Nat) (ts : List ATok), k ≤ L.length → lexA L f k = .ok ts → ∀ t ∈ ts, SumA t.parts L.length := by
  intro f
  induction f with
  | zero => intro k ts _ h; cases h; exact fun _ h => nomatch h
  | succ f ih =>
    intro k ts hk h
    rw [lexA] at h
    have hs := skipN_le false (L.drop k)
    have hfront := skip_front false (L.drop k)
    rw [List.length_drop] at hs
    rw [List.drop_drop] at hfront
    obtain ⟨j, hj⟩ : ∃ j, k + skipN false (L.drop k) = j := ⟨_, rfl⟩
    rw [hj] at h hfront
    cases ht : tokenA L j with
    | error e => rw [ht] at h; cases h
    | ok y =>
      obtain ⟨t, n⟩ := y
      rw [ht] at h
      obtain ⟨n1, n2, n3, n4, n5⟩ := tokenA_ok L j t n (by omega) hfront ht
      have hl := tokenA_sum L j t n (by omega) ht
      by_cases hk0 : t.kind = 0
      · simp only [hk0, if_true] at h
        cases h
        intro u hu
        rw [List.mem_singleton] at hu
        exact hu ▸ hl
      · simp only [hk0, if_false] at h
        cases hx : lexA L f n with
        | error e => rw [hx] at h; cases h
        | ok us =>
          rw [hx] at h
          cases h
          intro u hu
          rcases List.mem_cons.1 hu with rfl | hu
          · exact hl
          · exact ih n us n3 hx u hu

theorem lexA_count (L : List UInt8) : ∀ (f k : Nat) (ts : List ATok), k ≤ L.length → lexA L f k = .ok ts → ts.length ≤ L.length - k + 1 := by
  intro f
  induction f with
  | zero => intro k ts _ h; cases h; exact Nat.zero_le _
  | succ f ih =>
    intro k ts hk h
    rw [lexA] at h
    have hs := skipN_le false (L.drop k)
    have hfront := skip_front false (L.drop k)
    rw [List.length_drop] at hs
    rw [List.drop_drop] at hfront
    obtain ⟨j, hj⟩ : ∃ j, k + skipN false (L.drop k) = j := ⟨_, rfl⟩
    rw [hj] at h hfront
    cases ht : tokenA L j with
    | error e => rw [ht] at h; cases h
    | ok y =>
      obtain ⟨t, n⟩ := y
      rw [ht] at h
      obtain ⟨n1, n2, n3, n4, n5⟩ := tokenA_ok L j t n (by omega) hfront ht
      by_cases hk0 : t.kind = 0
      · simp only [hk0, if_true] at h
        cases h
        simp
      · simp only [hk0, if_false] at h
        have hn1 := n4 hk0
        cases hx : lexA L f n with
        | error e => rw [hx] at h; cases h
        | ok us =>
          rw [hx] at h
          cases h
          have := ih n us n3 hx
          rw [List.length_cons]
          omega

theorem part_text_le : ∀ (P : List APart) (p : APart), p ∈ P → p.text.length ≤ (deadText P).length
  | [], _, h => nomatch h
  | q :: P, p, h => by
    rw [deadText, List.length_append]
    rcases List.mem_cons.1 h with rfl | h
    · omega
    · have := part_text_le P p h
      omega

theorem ValidA.all : ∀ (ts : List ATok), ValidA ts → ∀ t ∈ ts, TokVA t
  | [], h, _, _ => absurd h id
  | [t], h, u, hu => by
    rw [List.mem_singleton] at hu
    exact hu ▸ h.2
  | t :: u :: ts, h, x, hx => by
    rcases List.mem_cons.1 hx with rfl | hx
    · exact h.2.1
    · exact ValidA.all (u :: ts) h.2.2 x hx

theorem TokVA.fine {t : ATok} (h : TokVA t) : t.kind ≤ 13 ∧ ∀ p ∈ t.parts, (1 ≤ p.kind ∧ p.kind ≤ 6) ∧ (p.kind = 5 → 1 ≤ p.num ∧ p.num ≤ 9) := by
  rcases h with ⟨h1, h2⟩ | ⟨h1, _, h2, _, _⟩
  · refine ⟨by omega, fun p hp => ?_⟩
    rw [h2] at hp
    exact nomatch hp
  · refine ⟨by omega, fun p hp => ?_⟩
    rcases h2 p hp with h | h | h | h | h | h
    · exact ⟨by omega, fun e => by omega⟩
    · exact ⟨by omega, fun e => by omega⟩
    · exact ⟨by omega, fun e => by omega⟩
    · exact ⟨by omega, fun e => by omega⟩
    · exact ⟨by omega, fun e => ⟨h.2.1, h.2.2.1⟩⟩
    · exact ⟨by omega, fun e => by omega⟩

theorem printA_le : ∀ (ts : List ATok) (k : Nat) (first : Bool), (printA first (ts.take k)).length ≤ (printA first ts).length
  | [], k, first => by rw [List.take_nil]; exact Nat.le_refl _
  | t :: ts, 0, first => by rw [List.take_zero]; exact Nat.zero_le _
  | t :: ts, k + 1, first => by
    rw [List.take_succ_cons, printA, printA, List.length_append, List.length_append, List.length_append, List.length_append]
    have := printA_le ts k false
    omega

end Go.Proofs.YtdadgodjjfgmfaaDoor
