/- What a source of dialect A's tokens is read as, whole. No program stands in it. -/
import Derived.Test.YtdadgodjjfgmfaaDoorPureA5
namespace Go.Proofs.YtdadgodjjfgmfaaDoor
open Go Go.RowKit

theorem idxA_local (b : Nat) : ∀ (l : List UInt8) (n : Nat) (l' : List UInt8), idxA b l = some n → (∀ x, x ≤ n → l'.getD x 0 = l.getD x 0) → n < l'.length → idxA b l' = some n
  | [], n, l', h, _, _ => by cases h
  | c :: l, n, l', h, he, hn => by
    cases l' with
    | nil => simp at hn
    | cons d l' =>
      have h0 := he 0 (Nat.zero_le _)
      simp only [List.getD_cons_zero] at h0
      subst h0
      rw [idxA] at h ⊢
      split at h
      · rename_i hc
        rw [if_pos hc]
        exact h
      · rename_i hc
        rw [if_neg hc]
        cases hx : idxA b l with
        | none => rw [hx] at h; cases h
        | some m =>
          rw [hx] at h
          simp only [Option.map_some, Option.some.injEq] at h
          subst h
          rw [idxA_local b l m l' hx (fun x hxm => by have := he (x + 1) (by omega); simpa using this) (by simpa using hn)]
          rfl

theorem getD_drop (L : List UInt8) (i x : Nat) : (L.drop i).getD x 0 = L.getD (i + x) 0 := by
  rw [List.getD_eq_getElem?_getD, List.getD_eq_getElem?_getD, List.getElem?_drop]

theorem prefix_two (L : List UInt8) (i : Nat) (h : i < L.length) : Lib.hasPrefix (L.drop i) [36, 40] = decide ((L.getD i 0).toNat = 36 ∧ (L.getD (i + 1) 0).toNat = 40) := by
  have hd : ∃ c m, L.drop i = c :: m := by
    cases hd : L.drop i with
    | nil => have := congrArg List.length hd; rw [List.length_drop] at this; simp only [List.length_nil] at this; omega
    | cons c m => exact ⟨c, m, rfl⟩
  obtain ⟨c, m, hd⟩ := hd
  obtain ⟨h1, h2, h3⟩ := drop_head hd
  rw [hd, h2, getD_head L (i + 1), h3]
  cases m with
  | nil =>
    rw [Bool.eq_iff_iff]
    simp [Lib.hasPrefix, List.isPrefixOf]
  | cons d m =>
    rw [Bool.eq_iff_iff]
    simp only [Lib.hasPrefix, List.isPrefixOf, List.headD_cons, Bool.and_true, Bool.and_eq_true, beq_iff_eq]
    constructor
    · rintro ⟨e1, e2⟩
      subst e1 e2
      exact decide_eq_true ⟨rfl, rfl⟩
    · intro e
      obtain ⟨e1, e2⟩ := of_decide_eq_true e
      exact ⟨(UInt8.toNat_inj.1 (e1.trans rfl)).symm, (UInt8.toNat_inj.1 (e2.trans rfl)).symm⟩

/-- Where a bracket ends hangs on what stands up to there alone. -/
theorem scan_local (L : List UInt8) : ∀ (f : Nat) (m : Bool) (o i t : Nat), scanA L f m o i = some t → ∀ (L' : List UInt8) (k f' : Nat), (∀ x, i + x ≤ t → L'.getD (k + x) 0 = L.getD (i + x) 0) → k + (t - i) < L'.length → L'.length - k < f' → scanA L' f' m o k = some (k + (t - i)) := by
  intro f
  induction f with
  | zero => intro m o i t h; cases m <;> cases h
  | succ f ih =>
    intro m o i t h L' k f' he hk hf
    obtain ⟨hit, htl⟩ := scanA_lt _ _ _ _ _ _ h
    obtain ⟨f', rfl⟩ : ∃ g, f' = g + 1 := ⟨f' - 1, by omega⟩
    have e0 : L'.getD k 0 = L.getD i 0 := by have := he 0 (by omega); simpa using this
    have next : ∀ (d : Nat) (m' : Bool) (o' : Nat), 0 < d → scanA L f m' o' (i + d) = some t → scanA L' f' m' o' (k + d) = some (k + (t - i)) := by
      intro d m' o' hd hs
      have hlt := (scanA_lt _ _ _ _ _ _ hs).1
      have := ih m' o' (i + d) t hs L' (k + d) f' (fun x hx => by have := he (d + x) (by omega); rw [Nat.add_assoc, Nat.add_assoc]; exact this) (by omega) (by omega)
      rw [this]
      congr 1
      omega
    cases m with
    | false =>
      simp only [scanA] at h
      split at h
      · cases h
      rw [scanA, if_neg (by omega), e0]
      split at h
      · rename_i h92
        rw [if_pos h92]
        exact next 2 false o (by omega) h
      rename_i h92
      rw [if_neg h92]
      split at h
      · rename_i h39
        rw [if_pos h39]
        split at h
        · cases h
        · rename_i n hn
          have hlt := (scanA_lt _ _ _ _ _ _ h).1
          have hx := idxA_local 39 (L.drop (i + 1)) n (L'.drop (k + 1)) hn (fun x hxn => by
            rw [getD_drop, getD_drop, Nat.add_assoc, Nat.add_assoc]
            exact he (1 + x) (by omega)) (by rw [List.length_drop]; omega)
          rw [hx]
          have := next (1 + n + 1) false o (by omega) (by rw [show i + (1 + n + 1) = i + 1 + n + 1 from by omega]; exact h)
          rw [show k + (1 + n + 1) = k + 1 + n + 1 from by omega] at this
          exact this
      rename_i h39
      rw [if_neg h39]
      split at h
      · rename_i h34
        rw [if_pos h34]
        split at h
        · cases h
        · rename_i u hu
          obtain ⟨hu1, hu2⟩ := scanA_lt _ _ _ _ _ _ hu
          have hlt := (scanA_lt _ _ _ _ _ _ h).1
          have hq := ih true 0 (i + 1) u hu L' (k + 1) f' (fun x hx => by rw [Nat.add_assoc, Nat.add_assoc]; exact he (1 + x) (by omega)) (by omega) (by omega)
          rw [hq]
          have := next (u + 1 - i) false o (by omega) (by rw [show i + (u + 1 - i) = u + 1 from by omega]; exact h)
          rw [show k + (u + 1 - i) = k + 1 + (u - (i + 1)) + 1 from by omega] at this
          exact this
      rename_i h34
      rw [if_neg h34]
      split at h
      · rename_i h40
        rw [if_pos h40]
        exact next 1 false (o + 1) (by omega) h
      rename_i h40
      rw [if_neg h40]
      split at h
      · rename_i h41
        rw [if_pos h41]
        split at h
        · rename_i ho
          cases h
          rw [if_pos ho]
          simp
        · rename_i ho
          rw [if_neg ho]
          exact next 1 false (o - 1) (by omega) h
      rename_i h41
      rw [if_neg h41]
      exact next 1 false o (by omega) h
    | true =>
      simp only [scanA] at h
      split at h
      · cases h
      rw [scanA, if_neg (by omega), e0]
      split at h
      · rename_i h34
        cases h
        rw [if_pos h34]
        simp
      rename_i h34
      rw [if_neg h34]
      split at h
      · rename_i h92
        rw [if_pos h92]
        exact next 2 true 0 (by omega) h
      rename_i h92
      rw [if_neg h92]
      rw [prefix_two L i (by omega)] at h
      rw [prefix_two L' k (by omega), e0]
      split at h
      · rename_i hp
        split at h
        · cases h
        · rename_i u hu
          obtain ⟨hu1, hu2⟩ := scanA_lt _ _ _ _ _ _ hu
          have hlt := (scanA_lt _ _ _ _ _ _ h).1
          have e1 : L'.getD (k + 1) 0 = L.getD (i + 1) 0 := he 1 (by omega)
          rw [e1, if_pos hp]
          have hq := ih false 0 (i + 2) u hu L' (k + 2) f' (fun x hx => by rw [Nat.add_assoc, Nat.add_assoc]; exact he (2 + x) (by omega)) (by omega) (by omega)
          rw [hq]
          have := next (u + 1 - i) true 0 (by omega) (by rw [show i + (u + 1 - i) = u + 1 from by omega]; exact h)
          rw [show k + (u + 1 - i) = k + 2 + (u - (i + 2)) + 1 from by omega] at this
          exact this
      · rename_i hp
        have hlt := (scanA_lt _ _ _ _ _ _ h).1
        have e1 : L'.getD (k + 1) 0 = L.getD (i + 1) 0 := he 1 (by omega)
        rw [e1, if_neg hp]
        exact next 1 true 0 (by omega) h

theorem scan_valid (L : List UInt8) (f i t : Nat) (h : scanA L f false 0 i = some t) : ScanV (subs L i t) := by
  obtain ⟨hit, htl⟩ := scanA_lt _ _ _ _ _ _ h
  have hS : subs L (i : Int) (t : Int) = (L.drop i).take (t - i) := by
    unfold subs
    rw [Int.toNat_natCast, Int.toNat_natCast, List.drop_take]
  have hlen : (subs L (i : Int) (t : Int)).length = t - i := by
    rw [hS, List.length_take, List.length_drop]
    omega
  have h41 : (L.getD t 0).toNat = 41 := by
    have hgen : ∀ (f : Nat) (m : Bool) (o i t : Nat), scanA L f m o i = some t → (L.getD t 0).toNat = if m = true then 34 else 41 := by
      intro f
      induction f with
      | zero => intro m o i t h; cases m <;> cases h
      | succ f ih =>
        intro m o i t h
        cases m with
        | false =>
          simp only [scanA] at h
          split at h
          · cases h
          split at h
          · exact ih _ _ _ _ h
          split at h
          · split at h
            · cases h
            · exact ih _ _ _ _ h
          split at h
          · split at h
            · cases h
            · exact ih _ _ _ _ h
          split at h
          · exact ih _ _ _ _ h
          split at h
          · rename_i h41
            split at h
            · cases h; simpa using h41
            · exact ih _ _ _ _ h
          · exact ih _ _ _ _ h
        | true =>
          simp only [scanA] at h
          split at h
          · cases h
          split at h
          · rename_i h34
            cases h
            simpa using h34
          split at h
          · exact ih _ _ _ _ h
          split at h
          · split at h
            · cases h
            · exact ih _ _ _ _ h
          · exact ih _ _ _ _ h
    have := hgen f false 0 i t h
    simpa using this
  intro L' k tail f' hd hf
  have hk : k + (t - i) < L'.length := by
    have := congrArg List.length hd
    rw [List.length_drop, List.length_append, hlen, List.length_cons] at this
    omega
  rw [hlen]
  refine scan_local L f false 0 i t h L' k f' (fun x hx => ?_) hk hf
  rw [← getD_drop, hd]
  by_cases hxt : x < t - i
  · rw [List.getD_eq_getElem?_getD, List.getElem?_append_left (by rw [hlen]; exact hxt), hS, List.getElem?_take, if_pos hxt, ← List.getD_eq_getElem?_getD, getD_drop]
  · obtain rfl : x = t - i := by omega
    rw [List.getD_eq_getElem?_getD, List.getElem?_append_right (by rw [hlen]; exact Nat.le_refl _), hlen, Nat.sub_self, List.getElem?_cons_zero, Option.getD_some, show i + (t - i) = t from by omega]
    exact (UInt8.toNat_inj.1 (h41.trans rfl)).symm

end Go.Proofs.YtdadgodjjfgmfaaDoor
