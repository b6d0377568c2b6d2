/- Dialect A's tokens, as plain functions: how much there is of parts and of texts; each step of a reading. No program stands in it. -/
import Derived.Test.YtdadgodjjfgmfaaDoorPureA3
namespace Go.Proofs.YtdadgodjjfgmfaaDoor
open Go Go.RowKit

/-- No more parts than bytes, no text longer than what is read. -/
def SmallA (P : List APart) (i : Nat) : Prop := P.length ≤ i ∧ ∀ p ∈ P, p.text.length ≤ i

theorem SmallA.nil (i : Nat) : SmallA [] i := ⟨Nat.zero_le _, fun _ h => nomatch h⟩
theorem SmallA.mono {P : List APart} {i k : Nat} (h : SmallA P i) (hk : i ≤ k) : SmallA P k := ⟨by have := h.1; omega, fun p hp => by have := h.2 p hp; omega⟩
theorem SmallA.part {P : List APart} {i k : Nat} (h : SmallA P i) (p : APart) (hp : p.text.length ≤ k) (hk : i < k) : SmallA (P ++ [p]) k := by
  refine ⟨by have := h.1; rw [List.length_append]; simp only [List.length_cons, List.length_nil]; omega, fun x hx => ?_⟩
  rcases List.mem_append.1 hx with hx | hx
  · have := h.2 x hx; omega
  · rw [List.mem_singleton] at hx
    subst hx
    exact hp
theorem SmallA.bytes {P : List APart} {i k : Nat} (h : SmallA P i) (j : Bool) (kind n : Nat) (s : List UInt8) (hs : i + s.length ≤ k) (hk : i < k) : SmallA (bytesA P j kind n s) k := by
  unfold bytesA
  split
  · rename_i q hq
    obtain ⟨Q, rfl⟩ := List.getLast?_eq_some_iff.1 hq
    split
    · rw [List.dropLast_concat]
      refine ⟨by have := h.1; simp only [List.length_append, List.length_cons, List.length_nil] at this ⊢; omega, fun x hx => ?_⟩
      rcases List.mem_append.1 hx with hx | hx
      · have := h.2 x (by simp [hx]); omega
      · rw [List.mem_singleton] at hx
        subst hx
        have := h.2 q (by simp)
        show (q.text ++ s).length ≤ k
        rw [List.length_append]
        omega
    · exact h.part _ (by show s.length ≤ k; omega) hk
  · exact h.part _ (by show s.length ≤ k; omega) hk

theorem subs_le (L : List UInt8) (a b : Nat) : (subs L a b).length ≤ b - a := by
  unfold subs
  rw [List.length_drop, List.length_take]
  simp only [Int.toNat_natCast]
  omega

theorem dollarA_small (L : List UInt8) (q : Bool) (i : Nat) (P : List APart) (j : Bool) (i' : Nat) (P' : List APart) (j' : Bool) (hi : i < L.length) (hR : SmallA P i) (h : dollarA L q i P j = .ok (i', P', j')) :
    SmallA P' i' ∧ i < i' ∧ i' ≤ L.length := by
  unfold dollarA at h
  simp only [] at h
  split at h
  · split at h
    · cases h
      have := runName_le (L.drop (i + 1))
      rw [List.length_drop] at this
      exact ⟨hR.part _ (by dsimp only; omega) (by omega), by omega, by omega⟩
    · cases h
  split at h
  · rename_i h123
    have hb := byte_in L (i + 1) (by omega)
    split at h
    · cases h
    · rename_i n hn
      have := idxA_lt _ _ _ hn
      rw [List.length_drop] at this
      split at h
      · cases h
        exact ⟨hR.part _ (by have := subs_le L (i + 2) (i + 2 + n); dsimp only; simp only [Int.natCast_add, Int.cast_ofNat_Int] at *; omega) (by omega), by omega, by omega⟩
      · cases h
  split at h
  · have hb := byte_in L (i + 1) (by omega)
    cases h
    exact ⟨hR.part _ (by simp) (by omega), by omega, by omega⟩
  split at h
  · have hb := byte_in L (i + 1) (by omega)
    cases h
    exact ⟨hR.part _ (by simp) (by omega), by omega, by omega⟩
  split at h
  · have hb := byte_in L (i + 1) (by omega)
    cases h
    exact ⟨hR.part _ (by simp) (by omega), by omega, by omega⟩
  split at h
  · split at h
    · cases h
    · rename_i t ht
      cases h
      have := scanA_lt _ _ _ _ _ _ ht
      exact ⟨hR.part _ (by have := subs_le L (i + 2) t; dsimp only; simp only [Int.natCast_add, Int.cast_ofNat_Int] at *; omega) (by omega), by omega, by omega⟩
  · cases h
    exact ⟨hR.bytes _ _ _ _ (by simp) (by omega), by omega, by omega⟩

theorem doubleA_small (L : List UInt8) (b : Nat) : ∀ (f i : Nat) (P : List APart) (j : Bool) (i' : Nat) (P' : List APart) (j' : Bool), SmallA P i → i ≤ L.length → doubleA L b f i P j = .ok (i', P', j') →
    SmallA P' i' ∧ i ≤ i' ∧ i' ≤ L.length := by
  intro f
  induction f with
  | zero => intro i P j i' P' j' _ _ h; cases h
  | succ f ih =>
    intro i P j i' P' j' hR hi h
    simp only [doubleA] at h
    split at h
    · cases h
    rename_i hlt
    split at h
    · rename_i h34
      cases h
      exact ⟨hR.mono (by omega), by omega, by omega⟩
    split at h
    · have := ih _ _ _ _ _ _ (hR.bytes j 2 _ _ (show i + _ ≤ i + 2 by split <;> simp) (by omega)) (by omega) h
      exact ⟨this.1, by omega, this.2.2⟩
    split at h
    · split at h
      · cases h
      · rename_i i2 P2 j2 hd
        obtain ⟨h1, h2, h3⟩ := dollarA_small L true i P j i2 P2 j2 (by omega) hR hd
        have := ih _ _ _ _ _ _ h1 h3 h
        exact ⟨this.1, by omega, this.2.2⟩
    · have := ih _ _ _ _ _ _ (hR.bytes j 2 _ _ (show i + _ ≤ i + 1 by simp) (by omega)) (by omega) h
      exact ⟨this.1, by omega, this.2.2⟩

end Go.Proofs.YtdadgodjjfgmfaaDoor
