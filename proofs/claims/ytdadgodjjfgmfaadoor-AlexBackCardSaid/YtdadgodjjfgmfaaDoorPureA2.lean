/- Dialect A's tokens rise with their places. No program stands in it. -/
import Derived.Test.YtdadgodjjfgmfaaDoorPureA
namespace Go.Proofs.YtdadgodjjfgmfaaDoor
open Go Go.RowKit

/-- Places that rise, from a on, ahead of i and of n; the first one is a. -/
structure RiseN (n a i : Nat) (N : List Nat) : Prop where
  rise : N.Pairwise (· < ·)
  lo : ∀ p ∈ N, a ≤ p ∧ p < i ∧ p < n
  first : ∀ p, N.head? = some p → p = a
  empty : N = [] → i = a
  le : a ≤ i

theorem RiseN.snoc {n a i i' : Nat} {N : List Nat} (h : RiseN n a i N) (hi : i < i') (hn : i < n) : RiseN n a i' (N ++ [i]) := by
  refine ⟨?_, ?_, ?_, ?_, ?_⟩
  · rw [List.pairwise_append]
    refine ⟨h.rise, by simp, ?_⟩
    intro x hx y hy
    rw [List.mem_singleton] at hy
    rw [hy]
    exact (h.lo x hx).2.1
  · intro p hp
    rw [List.mem_append, List.mem_singleton] at hp
    have := h.le
    rcases hp with hp | rfl
    · have := h.lo p hp
      omega
    · omega
  · intro p hp
    cases N with
    | nil =>
      have := h.empty rfl
      simp at hp
      omega
    | cons x N => exact h.first p hp
  · intro e
    simp at e
  · have := h.le
    omega
theorem RiseN.mono {n a i i' : Nat} {N : List Nat} (h : RiseN n a i N) (hN : N ≠ []) (hi : i ≤ i') : RiseN n a i' N :=
  ⟨h.rise, fun p hp => by have := h.lo p hp; omega, h.first, fun e => absurd e hN, by have := h.le; omega⟩

abbrev places (P : List APart) : List Nat := P.map (·.place)

theorem bytesA_places (P : List APart) (j : Bool) (k i : Nat) (s : List UInt8) : (places (bytesA P j k i s) = places P ∧ places P ≠ []) ∨ places (bytesA P j k i s) = places P ++ [i] := by
  unfold bytesA
  split
  · rename_i q hq
    split
    · left
      obtain ⟨Q, rfl⟩ := List.getLast?_eq_some_iff.1 hq
      simp
    · right
      simp
  · right
    simp

theorem RiseN.bytes {n a i i' : Nat} {P : List APart} (h : RiseN n a i (places P)) (j : Bool) (k : Nat) (s : List UInt8) (hi : i < i') (hn : i < n) : RiseN n a i' (places (bytesA P j k i s)) := by
  rcases bytesA_places P j k i s with ⟨e, hne⟩ | e
  · rw [e]
    exact h.mono hne (by omega)
  · rw [e]
    exact h.snoc hi hn
theorem RiseN.part {n a i i' : Nat} {P : List APart} (h : RiseN n a i (places P)) (p : APart) (hp : p.place = i) (hi : i < i') (hn : i < n) : RiseN n a i' (places (P ++ [p])) := by
  rw [places, List.map_append, List.map_cons, List.map_nil, hp]
  exact h.snoc hi hn

theorem idxA_lt (b : Nat) : ∀ (l : List UInt8) (n : Nat), idxA b l = some n → n < l.length
  | [], n, h => by cases h
  | c :: l, n, h => by
    rw [idxA] at h
    split at h
    · cases h; simp
    · cases hl : idxA b l with
      | none => rw [hl] at h; cases h
      | some m =>
        rw [hl] at h
        cases h
        have := idxA_lt b l m hl
        simp only [List.length_cons]
        omega

theorem scanA_lt (L : List UInt8) : ∀ (f : Nat) (m : Bool) (o i t : Nat), scanA L f m o i = some t → i ≤ t ∧ t < L.length := by
  intro f
  induction f with
  | zero => intro m o i t h; cases m <;> cases h
  | succ f ih =>
    intro m o i t h
    cases m with
    | false =>
      simp only [scanA] at h
      split at h
      · cases h
      split at h
      · have := ih _ _ _ _ h; omega
      split at h
      · split at h
        · cases h
        · have := ih _ _ _ _ h; omega
      split at h
      · split at h
        · cases h
        · rename_i u hu
          have h1 := ih _ _ _ _ hu
          have h2 := ih _ _ _ _ h
          omega
      split at h
      · have := ih _ _ _ _ h; omega
      split at h
      · split at h
        · cases h; omega
        · have := ih _ _ _ _ h; omega
      · have := ih _ _ _ _ h; omega
    | true =>
      simp only [scanA] at h
      split at h
      · cases h
      split at h
      · cases h; omega
      split at h
      · have := ih _ _ _ _ h; omega
      split at h
      · split at h
        · cases h
        · rename_i u hu
          have h1 := ih _ _ _ _ hu
          have h2 := ih _ _ _ _ h
          omega
      · have := ih _ _ _ _ h; omega

theorem byte_in (L : List UInt8) (i : Nat) (h : (L.getD i 0).toNat ≠ 0) : i < L.length := by
  apply Classical.byContradiction
  intro hge
  rw [List.getD_eq_getElem?_getD, List.getElem?_eq_none (by omega)] at h
  exact h rfl

theorem dollarA_rise (L : List UInt8) (q : Bool) (a i : Nat) (P : List APart) (j : Bool) (i' : Nat) (P' : List APart) (j' : Bool) (hi : i < L.length) (hR : RiseN L.length a i (places P)) (h : dollarA L q i P j = .ok (i', P', j')) :
    RiseN L.length a i' (places P') ∧ i < i' ∧ i' ≤ L.length := by
  unfold dollarA at h
  simp only [] at h
  split at h
  · split at h
    · cases h
      have := runName_le (L.drop (i + 1))
      rw [List.length_drop] at this
      exact ⟨hR.part _ rfl (by omega) hi, by omega, by omega⟩
    · cases h
  split at h
  · rename_i h123
    have hb := byte_in L (i + 1) (by omega)
    split at h
    · cases h
    · rename_i n hn
      have := idxA_lt _ _ _ hn
      rw [List.length_drop] at this
      split at h
      · cases h
        exact ⟨hR.part _ rfl (by omega) hi, by omega, by omega⟩
      · cases h
  split at h
  · have hb := byte_in L (i + 1) (by omega)
    cases h
    exact ⟨hR.part _ rfl (by omega) hi, by omega, by omega⟩
  split at h
  · have hb := byte_in L (i + 1) (by omega)
    cases h
    exact ⟨hR.part _ rfl (by omega) hi, by omega, by omega⟩
  split at h
  · have hb := byte_in L (i + 1) (by omega)
    cases h
    exact ⟨hR.part _ rfl (by omega) hi, by omega, by omega⟩
  split at h
  · split at h
    · cases h
    · rename_i t ht
      cases h
      have := scanA_lt _ _ _ _ _ _ ht
      exact ⟨hR.part _ rfl (by omega) hi, by omega, by omega⟩
  · cases h
    exact ⟨hR.bytes _ _ _ (by omega) hi, by omega, by omega⟩

theorem dollarA_err (L : List UInt8) (q : Bool) (i : Nat) (P : List APart) (j : Bool) (c p : Nat) (h : dollarA L q i P j = .error (c, p)) : p = i ∧ (c = 106 ∨ c = 104) := by
  unfold dollarA at h
  simp only [] at h
  (repeat' split at h) <;> cases h <;> simp

theorem RiseN.ne {n a i : Nat} {N : List Nat} (h : RiseN n a i N) (hi : a < i) : N ≠ [] := fun e => by
  have := h.empty e
  omega

theorem doubleA_rise (L : List UInt8) (a b : Nat) : ∀ (f i : Nat) (P : List APart) (j : Bool) (i' : Nat) (P' : List APart) (j' : Bool), RiseN L.length a i (places P) → a < i → i ≤ L.length → doubleA L b f i P j = .ok (i', P', j') →
    RiseN L.length a i' (places P') ∧ i ≤ i' ∧ i' ≤ L.length := by
  intro f
  induction f with
  | zero => intro i P j i' P' j' _ _ _ h; cases h
  | succ f ih =>
    intro i P j i' P' j' hR ha hi h
    simp only [doubleA] at h
    split at h
    · cases h
    rename_i hlt
    split at h
    · rename_i h34
      cases h
      exact ⟨hR.mono (hR.ne ha) (by omega), by omega, by omega⟩
    split at h
    · have := ih _ _ _ _ _ _ (hR.bytes j 2 _ (show i < i + 2 by omega) (by omega)) (by omega) (by omega) h
      exact ⟨this.1, by omega, this.2.2⟩
    split at h
    · split at h
      · cases h
      · rename_i i2 P2 j2 hd
        obtain ⟨h1, h2, h3⟩ := dollarA_rise L true a i P j i2 P2 j2 (by omega) hR hd
        have := ih _ _ _ _ _ _ h1 (by omega) h3 h
        exact ⟨this.1, by omega, this.2.2⟩
    · have := ih _ _ _ _ _ _ (hR.bytes j 2 _ (show i < i + 1 by omega) (by omega)) (by omega) (by omega) h
      exact ⟨this.1, by omega, this.2.2⟩

theorem doubleA_err (L : List UInt8) (b : Nat) : ∀ (f i : Nat) (P : List APart) (j : Bool) (c p : Nat), b < L.length → doubleA L b f i P j = .error (c, p) → p < L.length ∧ (c = 103 ∨ c = 104 ∨ c = 106) := by
  intro f
  induction f with
  | zero => intro i P j c p hb h; cases h; exact ⟨hb, .inl rfl⟩
  | succ f ih =>
    intro i P j c p hb h
    simp only [doubleA] at h
    split at h
    · cases h; exact ⟨hb, .inl rfl⟩
    rename_i hlt
    split at h
    · cases h
    split at h
    · exact ih _ _ _ _ _ hb h
    split at h
    · split at h
      · rename_i e he
        cases h
        obtain ⟨rfl, h2⟩ := dollarA_err _ _ _ _ _ _ _ he
        exact ⟨by omega, by omega⟩
      · exact ih _ _ _ _ _ hb h
    · exact ih _ _ _ _ _ hb h

theorem wordA_rise (L : List UInt8) (a : Nat) : ∀ (f i : Nat) (P : List APart) (j : Bool) (i' : Nat) (P' : List APart), RiseN L.length a i (places P) → i ≤ L.length → wordA L f i P j = .ok (i', P') →
    RiseN L.length a i' (places P') ∧ i ≤ i' ∧ i' ≤ L.length ∧ (0 < f → i < L.length → endsA (L.getD i 0) = false → i < i') := by
  intro f
  induction f with
  | zero => intro i P j i' P' hR hi h; cases h; exact ⟨hR, Nat.le_refl _, hi, fun e => absurd e (by omega)⟩
  | succ f ih =>
    intro i P j i' P' hR hi h
    simp only [wordA] at h
    split at h
    · cases h; exact ⟨hR, Nat.le_refl _, hi, fun _ e => absurd e (by omega)⟩
    rename_i hlt
    split at h
    · rename_i he
      cases h
      exact ⟨hR, Nat.le_refl _, hi, fun _ _ e => by rw [he] at e; cases e⟩
    split at h
    · have := ih _ _ _ _ _ (hR.part _ rfl (show i < min (i + 2) L.length by omega) (by omega)) (by omega) h
      exact ⟨this.1, by omega, this.2.2.1, fun _ _ _ => by omega⟩
    split at h
    · split at h
      · cases h
      · rename_i n hn
        have hx := idxA_lt _ _ _ hn
        rw [List.length_drop] at hx
        have := ih _ _ _ _ _ (hR.part _ rfl (show i < i + n + 2 by omega) (by omega)) (by omega) h
        exact ⟨this.1, by omega, this.2.2.1, fun _ _ _ => by omega⟩
    split at h
    · split at h
      · cases h
      · rename_i i2 P2 j2 hd
        have hle := hR.le
        obtain ⟨h1, h2, h3⟩ := doubleA_rise L a i _ _ _ _ _ _ _ (hR.part ⟨2, i, 0, false, []⟩ rfl (show i < i + 1 by omega) (by omega)) (by omega) (by omega) hd
        have := ih _ _ _ _ _ h1 h3 h
        exact ⟨this.1, by omega, this.2.2.1, fun _ _ _ => by omega⟩
    split at h
    · split at h
      · cases h
      · rename_i i2 P2 j2 hd
        obtain ⟨h1, h2, h3⟩ := dollarA_rise L false a i P j i2 P2 j2 (by omega) hR hd
        have := ih _ _ _ _ _ h1 h3 h
        exact ⟨this.1, by omega, this.2.2.1, fun _ _ _ => by omega⟩
    · have := ih _ _ _ _ _ (hR.bytes j 1 _ (show i < i + 1 by omega) (by omega)) (by omega) h
      exact ⟨this.1, by omega, this.2.2.1, fun _ _ _ => by omega⟩

theorem wordA_err (L : List UInt8) : ∀ (f i : Nat) (P : List APart) (j : Bool) (c p : Nat), wordA L f i P j = .error (c, p) → p < L.length ∧ (c = 103 ∨ c = 104 ∨ c = 106) := by
  intro f
  induction f with
  | zero => intro i P j c p h; cases h
  | succ f ih =>
    intro i P j c p h
    simp only [wordA] at h
    split at h
    · cases h
    rename_i hlt
    split at h
    · cases h
    split at h
    · exact ih _ _ _ _ _ h
    split at h
    · split at h
      · cases h; exact ⟨by omega, .inl rfl⟩
      · exact ih _ _ _ _ _ h
    split at h
    · split at h
      · rename_i e he
        cases h
        exact doubleA_err L i _ _ _ _ _ _ (by omega) he
      · exact ih _ _ _ _ _ h
    split at h
    · split at h
      · rename_i e he
        cases h
        obtain ⟨rfl, h2⟩ := dollarA_err _ _ _ _ _ _ _ he
        exact ⟨by omega, by omega⟩
      · exact ih _ _ _ _ _ h
    · exact ih _ _ _ _ _ h

theorem bestA_is (l : List UInt8) : (bestOp l opsA 0 [] 0 = ([], 0)) ∨ (opsA[(bestOp l opsA 0 [] 0).2]? = some (bestOp l opsA 0 [] 0).1 ∧ Lib.hasPrefix l (bestOp l opsA 0 [] 0).1 = true ∧ 0 < (bestOp l opsA 0 [] 0).1.length) := by
  rcases bestOp_mem l opsA 0 [] 0 with e | ⟨j, h1, h2, h3, h4⟩
  · exact .inl e
  · refine .inr ⟨?_, h3, h4⟩
    rw [h2, Nat.zero_add]
    exact h1

/-- A byte that begins no operator and is no blank and no '&' ends no word. -/
theorem wordA_first (c : UInt8) (m : List UInt8) (hb : (bestOp (c :: m) opsA 0 [] 0).1 = []) (h0 : ¬ (c.toNat = 32 ∨ c.toNat = 9 ∨ c.toNat = 35)) (h1 : ¬ c.toNat = 38) : endsA c = false := by
  have hops : ∀ o : UInt8, [o] ∈ opsA → ¬ c.toNat = o.toNat := by
    intro o ho e
    have e' : c = o := UInt8.toNat_inj.1 e
    subst e'
    have := (bestOp_ge (c :: m) opsA 0 [] 0).2 [c] ho (by simp [Lib.hasPrefix, List.isPrefixOf])
    rw [hb] at this
    simp at this
  have e10 : ¬ c.toNat = 10 := hops 10 (by decide)
  have e59 : ¬ c.toNat = 59 := hops 59 (by decide)
  have e124 : ¬ c.toNat = 124 := hops 124 (by decide)
  have e40 : ¬ c.toNat = 40 := hops 40 (by decide)
  have e41 : ¬ c.toNat = 41 := hops 41 (by decide)
  have e60 : ¬ c.toNat = 60 := hops 60 (by decide)
  have e62 : ¬ c.toNat = 62 := hops 62 (by decide)
  rw [endsA, ← Bool.not_eq_true, List.contains_iff_mem]
  simp only [List.mem_cons, List.not_mem_nil, or_false]
  omega

/-- What the law asks of a token by itself. -/
def TokOkA (n : Nat) (t : ATok) : Prop :=
  (t.kind = 13 ↔ 0 < t.parts.length) ∧ (∀ p, t.parts[0]? = some p → p.place = t.place) ∧ (∀ (k : Nat) p q, t.parts[k]? = some p → t.parts[k + 1]? = some q → p.place < q.place) ∧ ∀ p ∈ t.parts, p.place < n

theorem tokenA_ok (L : List UInt8) (i : Nat) (t : ATok) (n : Nat) (hi : i ≤ L.length) (hfront : ∀ c m, L.drop i = c :: m → ¬ (c.toNat = 32 ∨ c.toNat = 9 ∨ c.toNat = 35)) (h : tokenA L i = .ok (t, n)) :
    t.place = i ∧ (t.kind = 0 ↔ L.length ≤ i) ∧ n ≤ L.length ∧ (t.kind ≠ 0 → i < n) ∧ TokOkA L.length t := by
  unfold tokenA at h
  split at h
  · rename_i hge
    cases h
    exact ⟨rfl, ⟨fun _ => hge, fun _ => rfl⟩, hi, fun e => absurd rfl e, ⟨fun e => by (cases e), fun e => by (cases e)⟩, fun p e => by simp at e, fun k p q e => by simp at e, fun p e => by (cases e)⟩
  · rename_i hlt
    have hlt' : i < L.length := by omega
    have hd : L.drop i = L[i] :: L.drop (i + 1) := List.drop_eq_getElem_cons hlt'
    have hg : L.getD i 0 = L[i] := by rw [List.getD_eq_getElem?_getD, List.getElem?_eq_getElem hlt']; rfl
    simp only [] at h
    split at h
    · rename_i hb
      cases h
      rcases bestA_is (L.drop i) with e | ⟨h1, h2, h3⟩
      · rw [e] at hb; exact absurd rfl hb
      · have hlen := hasPrefix_le h2
        rw [List.length_drop] at hlen
        have hk : (bestOp (L.drop i) opsA 0 [] 0).2 < 13 := (List.getElem?_eq_some_iff.1 h1).1
        refine ⟨rfl, ⟨fun e => ?_, fun e => absurd e hlt⟩, by omega, fun _ => by omega, ⟨fun e => ?_, fun e => by (cases e)⟩, fun p e => by simp at e, fun k p q e => by simp at e, fun p e => by (cases e)⟩
        · simp only at e
          rw [e] at h1
          simp only [opsA, List.getElem?_cons_zero, Option.some.injEq] at h1
          exact absurd h1.symm hb
        · simp only at e
          omega
    · rename_i hb
      have hb' : (bestOp (L.drop i) opsA 0 [] 0).1 = [] := by simpa using hb
      split at h
      · cases h
      · rename_i h38
        split at h
        · cases h
        · rename_i k P hw
          cases h
          have hends : endsA (L.getD i 0) = false := by
            rw [hg]
            rw [hg] at h38
            rw [hd] at hb'
            exact wordA_first _ _ hb' (hfront _ _ hd) h38
          obtain ⟨h1, h2, h3, h4⟩ := wordA_rise L i _ _ _ _ _ _ ⟨.nil, fun p e => by simp at e, fun p e => by simp at e, fun _ => rfl, Nat.le_refl _⟩ hi hw
          have h5 := h4 (by omega) hlt' hends
          have h6 := h1.ne h5
          refine ⟨rfl, ⟨fun e => by (cases e), fun e => absurd e hlt⟩, h3, fun _ => h5, ⟨fun _ => ?_, fun _ => rfl⟩, fun p e => ?_, fun k p q e1 e2 => ?_, fun p e => ?_⟩
          · apply List.length_pos_iff.2
            intro e
            apply h6
            rw [show P = [] from e]
            rfl
          · apply h1.first
            rw [places, List.head?_map, List.head?_eq_getElem?]
            show Option.map _ _ = _
            rw [show P[0]? = some p from e]
            rfl
          · have hr := List.pairwise_iff_getElem.1 h1.rise
            obtain ⟨l1, g1⟩ := List.getElem?_eq_some_iff.1 (show P[k]? = some p from e1)
            obtain ⟨l2, g2⟩ := List.getElem?_eq_some_iff.1 (show P[k + 1]? = some q from e2)
            have := hr k (k + 1) (by simpa using l1) (by simpa using l2) (by omega)
            rw [List.getElem_map, List.getElem_map, g1, g2] at this
            exact this
          · exact (h1.lo p.place (List.mem_map_of_mem (show p ∈ P from e))).2.2

theorem tokenA_err (L : List UInt8) (i c p : Nat) (h : tokenA L i = .error (c, p)) : p < L.length ∧ (c = 103 ∨ c = 104 ∨ c = 106 ∨ c = 107) := by
  unfold tokenA at h
  split at h
  · cases h
  · rename_i hlt
    simp only [] at h
    split at h
    · cases h
    split at h
    · cases h
      exact ⟨by omega, by omega⟩
    split at h
    · rename_i e he
      cases h
      have := wordA_err _ _ _ _ _ _ _ he
      exact ⟨this.1, by omega⟩
    · cases h

/-- Tokens behind one another, up to the end. -/
def ChainA (n : Nat) : ATok → List ATok → Prop
  | t, [] => TokOkA n t ∧ t.kind = 0 ∧ t.place = n
  | t, u :: us => TokOkA n t ∧ t.place < u.place ∧ ChainA n u us

theorem lexA_chain (L : List UInt8) : ∀ (f k : Nat) (ts : List ATok), k ≤ L.length → L.length - k < f → lexA L f k = .ok ts → ∃ t us, ts = t :: us ∧ k ≤ t.place ∧ ChainA L.length t us := by
  intro f
  induction f with
  | zero => intro k ts _ h; omega
  | succ f ih =>
    intro k ts hk hf h
    rw [lexA] at h
    have hs := skipN_le false (L.drop k)
    have hfront := skip_front false (L.drop k)
    rw [List.length_drop] at hs
    rw [List.drop_drop] at hfront
    obtain ⟨j, hj⟩ : ∃ j, k + skipN false (L.drop k) = j := ⟨_, rfl⟩
    rw [hj] at h hfront
    cases ht : tokenA L j with
    | error e => rw [ht] at h; cases h
    | ok y =>
      obtain ⟨t, n⟩ := y
      rw [ht] at h
      obtain ⟨n1, n2, n3, n4, n5⟩ := tokenA_ok L j t n (by omega) hfront ht
      by_cases hk0 : t.kind = 0
      · simp only [hk0, if_true] at h
        cases h
        have := n2.1 hk0
        exact ⟨_, _, rfl, by omega, n5, hk0, by omega⟩
      · simp only [hk0, if_false] at h
        have h4 := n4 hk0
        cases hl : lexA L f n with
        | error e => rw [hl] at h; cases h
        | ok us =>
          rw [hl] at h
          cases h
          obtain ⟨u, vs, rfl, u1, u2⟩ := ih n us n3 (by omega) hl
          exact ⟨_, _, rfl, by omega, n5, by omega, u2⟩

theorem lexA_err (L : List UInt8) : ∀ (f k c p : Nat), lexA L f k = .error (c, p) → p < L.length ∧ (c = 103 ∨ c = 104 ∨ c = 106 ∨ c = 107) := by
  intro f
  induction f with
  | zero => intro k c p h; cases h
  | succ f ih =>
    intro k c p h
    rw [lexA] at h
    split at h
    · rename_i e he
      cases h
      exact tokenA_err _ _ _ _ he
    · split at h
      · cases h
      · split at h
        · rename_i e he
          cases h
          exact ih _ _ _ he
        · cases h

end Go.Proofs.YtdadgodjjfgmfaaDoor
