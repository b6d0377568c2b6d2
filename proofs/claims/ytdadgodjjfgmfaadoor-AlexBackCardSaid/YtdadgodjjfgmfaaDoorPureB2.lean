/- Dialect B's tokens: what they take of the text. No program stands in it. -/
import Derived.Test.YtdadgodjjfgmfaaDoorPureB
namespace Go.Proofs.YtdadgodjjfgmfaaDoor
open Go Go.RowKit

theorem hasPrefix_le {l o : List UInt8} (h : Lib.hasPrefix l o = true) : o.length ≤ l.length :=
  (List.isPrefixOf_iff_prefix.1 h).length_le

theorem bestOp_ge (l : List UInt8) (ops : List (List UInt8)) : ∀ (i : Nat) (b : List UInt8) (k : Nat), b.length ≤ (bestOp l ops i b k).1.length ∧ ∀ o ∈ ops, Lib.hasPrefix l o = true → o.length ≤ (bestOp l ops i b k).1.length := by
  induction ops with
  | nil => exact fun i b k => ⟨Nat.le_refl _, fun o ho => by cases ho⟩
  | cons o os ih =>
    intro i b k
    rw [bestOp]
    split
    · rename_i h
      obtain ⟨h1, h2⟩ := ih (i + 1) o i
      refine ⟨by omega, fun p hp hpre => ?_⟩
      cases hp with
      | head => exact h1
      | tail _ hp => exact h2 p hp hpre
    · rename_i h
      obtain ⟨h1, h2⟩ := ih (i + 1) b k
      refine ⟨h1, fun p hp hpre => ?_⟩
      cases hp with
      | head =>
        have : ¬ b.length < o.length := fun e => h ⟨e, hpre⟩
        omega
      | tail _ hp => exact h2 p hp hpre

theorem bestOp_mem (l : List UInt8) (ops : List (List UInt8)) : ∀ (i : Nat) (b : List UInt8) (k : Nat), (bestOp l ops i b k = (b, k)) ∨ (∃ j, ops[j]? = some (bestOp l ops i b k).1 ∧ (bestOp l ops i b k).2 = i + j ∧ Lib.hasPrefix l (bestOp l ops i b k).1 = true ∧ b.length < (bestOp l ops i b k).1.length) := by
  induction ops with
  | nil => exact fun i b k => .inl rfl
  | cons o os ih =>
    intro i b k
    rw [bestOp]
    split
    · rename_i h
      refine .inr ?_
      rcases ih (i + 1) o i with e | ⟨j, h1, h2, h3, h4⟩
      · rw [e]
        exact ⟨0, rfl, rfl, h.2, h.1⟩
      · exact ⟨j + 1, by simpa using h1, by omega, h3, by omega⟩
    · rcases ih (i + 1) b k with e | ⟨j, h1, h2, h3, h4⟩
      · exact .inl e
      · exact .inr ⟨j + 1, by simpa using h1, by omega, h3, h4⟩

/-- The longest operator: none; or one of the table's, and it stands there. -/
theorem best_is (l : List UInt8) : (bestOp l opsB 0 [] 0 = ([], 0)) ∨ (opsB[(bestOp l opsB 0 [] 0).2]? = some (bestOp l opsB 0 [] 0).1 ∧ Lib.hasPrefix l (bestOp l opsB 0 [] 0).1 = true ∧ 0 < (bestOp l opsB 0 [] 0).1.length) := by
  rcases bestOp_mem l opsB 0 [] 0 with e | ⟨j, h1, h2, h3, h4⟩
  · exact .inl e
  · refine .inr ⟨?_, h3, h4⟩
    rw [h2, Nat.zero_add]
    exact h1

theorem deadB_le : ∀ (l x : List UInt8) (n : Nat), deadB l = some (x, n) → n ≤ l.length ∧ 1 ≤ n
  | [], x, n, h => by cases h
  | [c], x, n, h => by
    simp only [deadB] at h
    split at h
    · cases h; exact ⟨Nat.le_refl _, Nat.le_refl _⟩
    · cases h
  | c :: d :: l, x, n, h => by
    simp only [deadB] at h
    split at h
    · split at h
      · cases hd : deadB l with
        | none => rw [hd] at h; cases h
        | some y =>
          rw [hd] at h
          cases h
          have := deadB_le l y.1 y.2 hd
          simp only [List.length_cons]
          omega
      · cases h
        simp only [List.length_cons]
        omega
    · cases hd : deadB (d :: l) with
      | none => rw [hd] at h; cases h
      | some y =>
        rw [hd] at h
        cases h
        have := deadB_le (d :: l) y.1 y.2 hd
        simp only [List.length_cons] at this ⊢
        omega

theorem dPre_le (l : List UInt8) : dPre (l.headD 0).toNat ≤ l.length := by
  cases l with
  | nil => simp [dPre]
  | cons c l => unfold dPre; simp only [List.length_cons]; split <;> omega
theorem dKind_range (c : Nat) : 20 ≤ dKind c ∧ dKind c ≤ 22 := by unfold dKind; (repeat' split) <;> omega

theorem dollarB_le (l : List UInt8) (k n : Nat) (x : List UInt8) (z : Nat) (h : dollarB l = some (k, n, x, z)) : z ≤ l.length ∧ 20 ≤ k ∧ k ≤ 23 := by
  unfold dollarB at h
  have h1 := dPre_le l
  have h2 := starName_le (l.drop (dPre (l.headD 0).toNat))
  have h3 := dKind_range (l.headD 0).toNat
  rw [List.length_drop] at h2
  split at h
  · rename_i hc
    cases h
    cases l with
    | nil => exact absurd hc (by decide)
    | cons c l => exact ⟨by simp, by omega, by omega⟩
  · split at h
    · simp only [Option.some.injEq, Prod.mk.injEq] at h
      obtain ⟨hk, _, _, hz⟩ := h
      exact ⟨by omega, by omega, by omega⟩
    · cases h

/-- The front behind blanks is none. -/
theorem skip_front : ∀ (b : Bool) (l : List UInt8) (c : UInt8) (m : List UInt8), l.drop (skipN b l) = c :: m → ¬ (c.toNat = 32 ∨ c.toNat = 9 ∨ c.toNat = 35)
  | b, [], c, m, h => by simp at h
  | true, a :: l, c, m, h => by
    simp only [skipN] at h
    split at h
    · rename_i ha
      simp only [List.drop_zero] at h
      injection h with h1 _
      rw [← h1]; omega
    · exact skip_front true l c m (by simpa using h)
  | false, a :: l, c, m, h => by
    simp only [skipN] at h
    split at h
    · exact skip_front false l c m (by simpa using h)
    · split at h
      · exact skip_front true l c m (by simpa using h)
      · simp only [List.drop_zero] at h
        injection h with h1 _
        rw [← h1]; omega

/-- A byte that begins no operator, no quote, no dollar, and is no blank, begins a word. -/
theorem word_first (c : UInt8) (m : List UInt8) (hb : (bestOp (c :: m) opsB 0 [] 0).1 = []) (h0 : ¬ (c.toNat = 32 ∨ c.toNat = 9 ∨ c.toNat = 35)) (h1 : ¬ (c.toNat = 38 ∨ c.toNat = 96)) (h2 : ¬ c.toNat = 39) (h3 : ¬ c.toNat = 36) : endsB c = false := by
  have hops : ∀ o : UInt8, [o] ∈ opsB → ¬ c.toNat = o.toNat := by
    intro o ho e
    have e' : c = o := UInt8.toNat_inj.1 e
    subst e'
    have := (bestOp_ge (c :: m) opsB 0 [] 0).2 [c] ho (by simp [Lib.hasPrefix, List.isPrefixOf])
    rw [hb] at this
    simp at this
  have e10 := hops 10 (by decide)
  have e59 := hops 59 (by decide)
  have e124 := hops 124 (by decide)
  have e40 := hops 40 (by decide)
  have e41 := hops 41 (by decide)
  have e123 := hops 123 (by decide)
  have e125 := hops 125 (by decide)
  have e60 := hops 60 (by decide)
  have e62 := hops 62 (by decide)
  have e94 := hops 94 (by decide)
  have e61 := hops 61 (by decide)
  have e33 := hops 33 (by decide)
  clear hops
  simp only [show (10 : UInt8).toNat = 10 from rfl, show (59 : UInt8).toNat = 59 from rfl, show (124 : UInt8).toNat = 124 from rfl, show (40 : UInt8).toNat = 40 from rfl, show (41 : UInt8).toNat = 41 from rfl, show (123 : UInt8).toNat = 123 from rfl, show (125 : UInt8).toNat = 125 from rfl,
    show (60 : UInt8).toNat = 60 from rfl, show (62 : UInt8).toNat = 62 from rfl, show (94 : UInt8).toNat = 94 from rfl, show (61 : UInt8).toNat = 61 from rfl, show (33 : UInt8).toNat = 33 from rfl] at *
  rw [endsB, ← Bool.not_eq_true, List.contains_iff_mem]
  simp only [List.mem_cons, List.not_mem_nil, or_false]
  omega

/-- What a token takes: no more than there is; something, but for the end. -/
theorem tokenB_takes (l : List UInt8) (p : Nat) (t : BTok) (n : Nat) (h : tokenB l p = .ok (t, n)) : n ≤ l.length ∧ t.place = p ∧ t.glue = false ∧ (t.kind = 0 ↔ l = []) ∧ ((∀ c m, l = c :: m → ¬ (c.toNat = 32 ∨ c.toNat = 9 ∨ c.toNat = 35)) → l ≠ [] → 1 ≤ n) := by
  cases l with
  | nil =>
    simp only [tokenB] at h
    cases h
    exact ⟨Nat.le_refl _, rfl, rfl, ⟨fun _ => rfl, fun _ => rfl⟩, fun _ e => absurd rfl e⟩
  | cons c m =>
    simp only [tokenB] at h
    split at h
    · rename_i hb
      cases h
      rcases best_is (c :: m) with e | ⟨h1, h2, h3⟩
      · rw [e] at hb; exact absurd rfl hb
      · refine ⟨hasPrefix_le h2, rfl, rfl, ⟨fun e => ?_, fun e => by cases e⟩, fun _ _ => h3⟩
        simp only at e
        rw [e] at h1
        simp only [opsB, List.getElem?_cons_zero, Option.some.injEq] at h1
        exact absurd h1.symm hb
    · rename_i hb
      have hb' : (bestOp (c :: m) opsB 0 [] 0).1 = [] := by simpa using hb
      split at h
      · cases h
      · rename_i h38
        split at h
        · rename_i h39
          split at h
          · rename_i x n' hd
            cases h
            have := deadB_le m x n' hd
            exact ⟨by simp only [List.length_cons]; omega, rfl, rfl, ⟨fun e => by simp at e, fun e => by cases e⟩, fun _ _ => by omega⟩
          · cases h
        · rename_i h39
          split at h
          · split at h
            · rename_i k n' x z hd
              cases h
              have := dollarB_le m k n' x z hd
              exact ⟨by simp only [List.length_cons]; omega, rfl, rfl, ⟨fun e => by simp only at e; omega, fun e => by cases e⟩, fun _ _ => by omega⟩
            · cases h
          · rename_i h36
            cases h
            refine ⟨(List.takeWhile_sublist _).length_le, rfl, rfl, ⟨fun e => by simp at e, fun e => by cases e⟩, fun hne _ => ?_⟩
            have he := word_first c m hb' (hne c m rfl) h38 h39 h36
            rw [List.takeWhile_cons_of_pos (by rw [he]; rfl)]
            simp

end Go.Proofs.YtdadgodjjfgmfaaDoor
