/- Dialect B's tokens: how they rise with their places, and what quotes come to. No program stands in it. -/
import Derived.Test.YtdadgodjjfgmfaaDoorPureB2
namespace Go.Proofs.YtdadgodjjfgmfaaDoor
open Go Go.RowKit

def isBlank (c : UInt8) : Bool := c.toNat == 32 || c.toNat == 9

/-- What the law asks of two tokens, the one behind the other. -/
def PairOk (L : List UInt8) (a b : BTok) : Prop :=
  a.place < b.place ∧ b.place ≤ L.length ∧ (b.glue = true → isBlank (L.getD (b.place - 1) 0) = true → a.kind = 19) ∧
    (b.glue = false → isBlank (L.getD (b.place - 1) 0) = false → b.kind = 0 ∨ b.kind = 1)

theorem prefix_last {x l : List UInt8} (h : x <+: l) (hx : 1 ≤ x.length) (hb : ∀ c ∈ x, isBlank c = false) : isBlank (l.getD (x.length - 1) 0) = false := by
  obtain ⟨r, rfl⟩ := h
  have h1 : x.length - 1 < x.length := by omega
  rw [List.getD_eq_getElem?_getD, List.getElem?_append_left h1, List.getElem?_eq_getElem h1]
  exact hb _ (List.getElem_mem h1)

theorem runName_prefix (l : List UInt8) : runName l <+: l := by
  cases l with
  | nil => exact List.prefix_refl _
  | cons c l =>
    rw [show runName (c :: l) = if isBegin c then (c :: l).takeWhile isGo else [] from rfl]
    split
    · exact List.takeWhile_prefix _
    · exact List.nil_prefix
theorem starName_prefix (l : List UInt8) : starName l <+: l := by
  unfold starName
  split
  · rename_i h
    exact List.isPrefixOf_iff_prefix.1 h
  · exact runName_prefix l

theorem go_blank (c : UInt8) (h : isGo c = true) : isBlank c = false := by
  have h2 : ∀ n : Fin 256, isGo (UInt8.ofNat n.val) = true → isBlank (UInt8.ofNat n.val) = false := by decide +kernel
  have h3 := h2 ⟨c.toNat, c.toNat_lt⟩
  simp only [UInt8.ofNat_toNat] at h3
  exact h3 h
theorem ends_blank (c : UInt8) (h : endsB c = false) : isBlank c = false := by
  have h2 : ∀ n : Fin 256, endsB (UInt8.ofNat n.val) = false → isBlank (UInt8.ofNat n.val) = false := by decide +kernel
  have h3 := h2 ⟨c.toNat, c.toNat_lt⟩
  simp only [UInt8.ofNat_toNat] at h3
  exact h3 h

theorem nameB_go (l : List UInt8) (h : nameB l = true) : 1 ≤ l.length ∧ ∀ c ∈ l, isGo c = true := by
  cases l with
  | nil => cases h
  | cons c l =>
    simp only [nameB, Bool.and_eq_true, List.all_eq_true] at h
    exact ⟨by simp, h.2⟩

theorem dollarB_last (m : List UInt8) (k n : Nat) (x : List UInt8) (z : Nat) (h : dollarB m = some (k, n, x, z)) : 1 ≤ z ∧ isBlank (m.getD (z - 1) 0) = false := by
  unfold dollarB at h
  split at h
  · rename_i hc
    cases h
    cases m with
    | nil => exact absurd hc (by decide)
    | cons c m =>
      refine ⟨by omega, ?_⟩
      show isBlank c = false
      have hc' : 49 ≤ c.toNat ∧ c.toNat ≤ 57 := hc
      unfold isBlank
      rw [Bool.or_eq_false_iff]
      exact ⟨beq_false_of_ne (by omega), beq_false_of_ne (by omega)⟩
  · split at h
    · rename_i hs
      simp only [Option.some.injEq, Prod.mk.injEq] at h
      obtain ⟨hk, _, _, rfl⟩ := h
      generalize hd : dPre (m.headD 0).toNat = pre at *
      generalize hy : starName (m.drop pre) = y at *
      have hp : y <+: m.drop pre := by rw [← hy]; exact starName_prefix _
      have h1 : 1 ≤ y.length ∧ ∀ c ∈ y, isBlank c = false := by
        rcases hs with e | e
        · rw [e]
          exact ⟨by simp, fun c hc => by simp only [List.mem_singleton] at hc; rw [hc]; rfl⟩
        · obtain ⟨a, b⟩ := nameB_go y e
          exact ⟨a, fun c hc => go_blank c (b c hc)⟩
      have h2 := prefix_last hp h1.1 h1.2
      refine ⟨by omega, ?_⟩
      rw [← h2, List.getD_eq_getElem?_getD, List.getD_eq_getElem?_getD, List.getElem?_drop]
      congr 3
      omega
    · cases h

theorem tokenB_last (l : List UInt8) (p : Nat) (t : BTok) (n : Nat) (h : tokenB l p = .ok (t, n)) (hn : 1 ≤ n) (hk : t.kind ≠ 19) : isBlank (l.getD (n - 1) 0) = false := by
  cases l with
  | nil =>
    simp only [tokenB] at h
    cases h
    omega
  | cons c m =>
    simp only [tokenB] at h
    split at h
    · rename_i hb
      cases h
      rcases best_is (c :: m) with e | ⟨h1, h2, h3⟩
      · rw [e] at hb; exact absurd rfl hb
      · have hall : ∀ o ∈ opsB, ∀ c ∈ o, isBlank c = false := by decide +kernel
        exact prefix_last (List.isPrefixOf_iff_prefix.1 h2) h3 (hall _ (List.mem_of_getElem? h1))
    · split at h
      · cases h
      · split at h
        · split at h
          · cases h
            exact absurd rfl hk
          · cases h
        · split at h
          · split at h
            · rename_i k n' x z hd
              cases h
              obtain ⟨h1, h2⟩ := dollarB_last m k n' x z hd
              rw [← h2, show z + 1 - 1 = (z - 1) + 1 from by omega]
              rfl
            · cases h
          · cases h
            refine prefix_last (List.takeWhile_prefix _) hn (fun d hd => ?_)
            have := List.all_eq_true.1 (List.all_takeWhile (p := fun c => !endsB c) (l := c :: m)) d hd
            exact ends_blank d (by simpa using this)

/-- Behind blanks and comments whose last byte is no blank there is the end, or a line's end. -/
theorem skip_last : ∀ (b : Bool) (l : List UInt8), 1 ≤ skipN b l → isBlank (l.getD (skipN b l - 1) 0) = false → (l.drop (skipN b l) = [] ∨ ∃ c m, l.drop (skipN b l) = c :: m ∧ c.toNat = 10)
  | b, [], h, _ => by cases b <;> simp [skipN] at h
  | true, a :: l, h, hb => by
    simp only [skipN] at h hb ⊢
    split at h
    · omega
    · rename_i ha
      rw [if_neg ha] at hb
      simp only [if_neg ha, List.drop_succ_cons]
      by_cases h0 : skipN true l = 0
      · rw [h0, List.drop_zero]
        cases l with
        | nil => exact .inl rfl
        | cons c m =>
          simp only [skipN] at h0
          split at h0
          · exact .inr ⟨c, m, rfl, by assumption⟩
          · omega
      · refine skip_last true l (by omega) ?_
        refine Eq.trans ?_ hb
        rw [show skipN true l + 1 - 1 = (skipN true l - 1) + 1 from by omega]
        rfl
  | false, a :: l, h, hb => by
    simp only [skipN] at h hb ⊢
    split at h
    · rename_i ha
      rw [if_pos ha] at hb
      simp only [if_pos ha, List.drop_succ_cons]
      by_cases h0 : skipN false l = 0
      · rw [h0] at hb
        have : isBlank a = true := by
          unfold isBlank
          rw [Bool.or_eq_true, beq_iff_eq, beq_iff_eq]
          exact ha
        rw [show (a :: l).getD (0 + 1 - 1) 0 = a from rfl, this] at hb
        cases hb
      · refine skip_last false l (by omega) ?_
        refine Eq.trans ?_ hb
        rw [show skipN false l + 1 - 1 = (skipN false l - 1) + 1 from by omega]
        rfl
    · rename_i ha
      split at h
      · rename_i h35
        rw [if_neg ha, if_pos h35] at hb
        simp only [if_neg ha, if_pos h35, List.drop_succ_cons]
        by_cases h0 : skipN true l = 0
        · rw [h0, List.drop_zero]
          cases l with
          | nil => exact .inl rfl
          | cons c m =>
            simp only [skipN] at h0
            split at h0
            · exact .inr ⟨c, m, rfl, by assumption⟩
            · omega
        · refine skip_last true l (by omega) ?_
          refine Eq.trans ?_ hb
          rw [show skipN true l + 1 - 1 = (skipN true l - 1) + 1 from by omega]
          rfl
      · omega

/-- A line's end is a token of its own. -/
theorem tokenB_line (c : UInt8) (m : List UInt8) (p : Nat) (t : BTok) (n : Nat) (hc : c.toNat = 10) (h : tokenB (c :: m) p = .ok (t, n)) : t.kind = 1 := by
  obtain rfl : c = 10 := UInt8.toNat_inj.1 hc
  have hb : bestOp (10 :: m) opsB 0 [] 0 = ([10], 1) := by simp [bestOp, opsB, Lib.hasPrefix, List.isPrefixOf]
  simp only [tokenB, hb] at h
  cases h
  rfl

/-- Tokens behind one another, up to the end. -/
def ChainB (L : List UInt8) : BTok → List BTok → Prop
  | t, [] => t.kind = 0 ∧ t.place = L.length
  | t, u :: us => PairOk L t u ∧ ChainB L u us

theorem lexB_chain (L : List UInt8) : ∀ (f : Nat) (first : Bool) (k : Nat) (ts : List BTok), k ≤ L.length → L.length - k < f → lexB f first (L.drop k) k = .ok ts →
    ∃ t us, ts = t :: us ∧ t.place = k + skipN false (L.drop k) ∧ t.place ≤ L.length ∧ t.glue = (!first && skipN false (L.drop k) == 0) ∧
      ((L.drop t.place = [] ∨ ∃ c m, L.drop t.place = c :: m ∧ c.toNat = 10) → t.kind = 0 ∨ t.kind = 1) ∧ ChainB L t us := by
  intro f
  induction f with
  | zero => intro first k ts _ h; omega
  | succ f ih =>
    intro first k ts hk hf h
    rw [lexB] at h
    have hs := skipN_le false (L.drop k)
    have hfront := skip_front false (L.drop k)
    rw [List.length_drop] at hs
    rw [List.drop_drop] at h hfront
    obtain ⟨j, hj⟩ : ∃ j, k + skipN false (L.drop k) = j := ⟨_, rfl⟩
    rw [hj] at h hfront
    cases ht : tokenB (L.drop j) j with
    | error e => rw [ht] at h; cases h
    | ok y =>
      obtain ⟨t, n⟩ := y
      rw [ht] at h
      obtain ⟨n1, n2, n3, n4, n5⟩ := tokenB_takes _ _ _ _ ht
      rw [List.length_drop] at n1
      have hline : (L.drop j = [] ∨ ∃ c m, L.drop j = c :: m ∧ c.toNat = 10) → t.kind = 0 ∨ t.kind = 1 := by
        rintro (e | ⟨c, m, e, hc⟩)
        · exact .inl (n4.2 e)
        · rw [e] at ht
          exact .inr (tokenB_line c m j t n hc ht)
      by_cases hk0 : t.kind = 0
      · simp only [hk0, if_true] at h
        cases h
        refine ⟨_, _, rfl, ?_, ?_, rfl, ?_, rfl, ?_⟩
        · exact n2.trans hj.symm
        · show t.place ≤ _
          omega
        · exact fun _ => .inl rfl
        · have := congrArg List.length (n4.1 hk0)
          rw [List.length_drop, List.length_nil] at this
          show t.place = _
          omega
      · simp only [hk0, if_false] at h
        have hn1 : 1 ≤ n := n5 hfront (fun e => hk0 (n4.2 e))
        have hd : (L.drop k).drop (skipN false (L.drop k) + n) = L.drop (j + n) := by rw [List.drop_drop]; congr 1; omega
        rw [hd] at h
        cases hl : lexB f false (L.drop (j + n)) (j + n) with
        | error e => rw [hl] at h; cases h
        | ok us =>
          rw [hl] at h
          cases h
          obtain ⟨u, vs, rfl, u1, u2, u3, u4, u5⟩ := ih false (j + n) us (by omega) (by omega) hl
          refine ⟨_, _, rfl, n2.trans hj.symm, ?_, rfl, ?_, ⟨?_, u2, ?_, ?_⟩, u5⟩
          · show t.place ≤ _
            omega
          · show (L.drop t.place = [] ∨ ∃ c m, L.drop t.place = c :: m ∧ c.toNat = 10) → t.kind = 0 ∨ t.kind = 1
            rw [n2]
            exact hline
          · show t.place < u.place
            omega
          · intro hg hb
            show t.kind = 19
            apply Classical.byContradiction
            intro hne
            rw [u3] at hg
            simp only [Bool.not_false, Bool.true_and, beq_iff_eq] at hg
            have := tokenB_last _ _ _ _ ht hn1 hne
            rw [u1, hg] at hb
            rw [List.getD_eq_getElem?_getD, List.getElem?_drop, ← List.getD_eq_getElem?_getD, show j + (n - 1) = j + n + 0 - 1 from by omega, hb] at this
            cases this
          · intro hg hb
            apply u4
            rw [u3] at hg
            simp only [Bool.not_false, Bool.true_and, beq_eq_false_iff_ne] at hg
            have := skip_last false (L.drop (j + n)) (by omega) (by
              refine Eq.trans ?_ hb
              rw [u1, List.getD_eq_getElem?_getD, List.getD_eq_getElem?_getD, List.getElem?_drop]
              congr 3
              omega)
            rw [List.drop_drop, ← u1] at this
            exact this

/-- An error's place lies within the source. -/
theorem tokenB_err (l : List UInt8) (p c q : Nat) (h : tokenB l p = .error (c, q)) : l ≠ [] ∧ q = p ∧ (c = 103 ∨ c = 106 ∨ c = 107) := by
  cases l with
  | nil => simp only [tokenB] at h; cases h
  | cons a m =>
    simp only [tokenB] at h
    refine ⟨by simp, ?_⟩
    (repeat' split at h) <;> cases h <;> simp

theorem lexB_err (L : List UInt8) : ∀ (f : Nat) (first : Bool) (k c q : Nat), k ≤ L.length → lexB f first (L.drop k) k = .error (c, q) → q < L.length ∧ (c = 103 ∨ c = 106 ∨ c = 107) := by
  intro f
  induction f with
  | zero => intro first k c q _ h; cases h
  | succ f ih =>
    intro first k c q hk h
    rw [lexB] at h
    have hs := skipN_le false (L.drop k)
    rw [List.length_drop] at hs
    rw [List.drop_drop] at h
    obtain ⟨j, hj⟩ : ∃ j, k + skipN false (L.drop k) = j := ⟨_, rfl⟩
    rw [hj] at h
    cases ht : tokenB (L.drop j) j with
    | error e =>
      rw [ht] at h
      cases h
      obtain ⟨h1, h2, h3⟩ := tokenB_err _ _ _ _ ht
      refine ⟨?_, h3⟩
      rw [h2]
      apply Classical.byContradiction
      intro hge
      exact h1 (List.drop_eq_nil_of_le (by omega))
    | ok y =>
      obtain ⟨t, n⟩ := y
      rw [ht] at h
      obtain ⟨n1, n2, n3, n4, n5⟩ := tokenB_takes _ _ _ _ ht
      rw [List.length_drop] at n1
      by_cases hk0 : t.kind = 0
      · simp only [hk0, if_true] at h
        cases h
      · simp only [hk0, if_false] at h
        have hd : (L.drop k).drop (skipN false (L.drop k) + n) = L.drop (j + n) := by rw [List.drop_drop]; congr 1; omega
        rw [hd] at h
        cases hl : lexB f false (L.drop (j + n)) (j + n) with
        | error e =>
          rw [hl] at h
          cases h
          exact ih false (j + n) c q (by omega) hl
        | ok us => rw [hl] at h; cases h

/-- The chain, by its places. -/
theorem ChainB.pair {L : List UInt8} : ∀ {t : BTok} {us : List BTok}, ChainB L t us → ∀ i a b, (t :: us)[i]? = some a → (t :: us)[i + 1]? = some b → PairOk L a b
  | t, [], h, i, a, b, h1, h2 => by simp at h2
  | t, u :: us, h, 0, a, b, h1, h2 => by
    simp only [List.getElem?_cons_zero, List.getElem?_cons_succ, Option.some.injEq, Nat.zero_add] at h1 h2
    rw [← h1, ← h2]
    exact h.1
  | t, u :: us, h, i + 1, a, b, h1, h2 => ChainB.pair h.2 i a b (by simpa using h1) (by simpa using h2)
theorem ChainB.last {L : List UInt8} : ∀ {t : BTok} {us : List BTok}, ChainB L t us → ∃ z, (t :: us)[us.length]? = some z ∧ z.kind = 0 ∧ z.place = L.length
  | t, [], h => ⟨t, rfl, h⟩
  | t, u :: us, h => by
    obtain ⟨z, h1, h2⟩ := ChainB.last h.2
    exact ⟨z, by simpa using h1, h2⟩

/-- Each quote twice. -/
def dblB : List UInt8 → List UInt8
  | [] => []
  | c :: l => if c.toNat = 39 then 39 :: 39 :: dblB l else c :: dblB l

theorem dblB_append (l m : List UInt8) : dblB (l ++ m) = dblB l ++ dblB m := by
  induction l with
  | nil => rfl
  | cons c l ih =>
    rw [List.cons_append, dblB, dblB, ih]
    split <;> rfl
theorem dblB_length (l : List UInt8) : (dblB l).length ≤ 2 * l.length := by
  induction l with
  | nil => exact Nat.le_refl _
  | cons c l ih =>
    rw [dblB]
    split <;> simp only [List.length_cons] <;> omega

theorem deadB_cons (c : UInt8) (l : List UInt8) (hc : ¬ c.toNat = 39) (hl : l ≠ []) : deadB (c :: l) = (deadB l).map (fun x => (c :: x.1, x.2 + 1)) := by
  cases l with
  | nil => exact absurd rfl hl
  | cons d l => rw [deadB, if_neg hc]
theorem deadB_two (l : List UInt8) : deadB (39 :: 39 :: l) = (deadB l).map (fun x => (39 :: x.1, x.2 + 2)) := by
  rw [deadB, if_pos (by decide), if_pos (by decide)]

theorem deadB_dbl (l : List UInt8) : deadB (dblB l ++ [39]) = some (l, (dblB l).length + 1) := by
  induction l with
  | nil => decide
  | cons c l ih =>
    rw [dblB]
    split
    · rename_i h
      obtain rfl : c = 39 := UInt8.toNat_inj.1 h
      rw [List.cons_append, List.cons_append, deadB_two, ih]
      rfl
    · rename_i h
      rw [List.cons_append, deadB_cons c _ h (by simp), ih]
      rfl
theorem deadB_open (l : List UInt8) : deadB (dblB l) = none := by
  induction l with
  | nil => rfl
  | cons c l ih =>
    rw [dblB]
    split
    · rw [deadB_two, ih]
      rfl
    · rename_i h
      by_cases hl : dblB l = []
      · rw [hl, deadB, if_neg h]
      · rw [deadB_cons c _ h hl, ih]
        rfl

theorem tokenB_quote (m : List UInt8) (p : Nat) : tokenB (39 :: m) p = match deadB m with
      | some (x, n) => .ok (⟨19, p, 0, x, false⟩, n + 1)
      | none => .error (103, p) := by
  have hb : bestOp (39 :: m) opsB 0 [] 0 = ([], 0) := by simp [bestOp, opsB, Lib.hasPrefix, List.isPrefixOf]
  simp only [tokenB, hb]
  rfl

theorem skip_quote (m : List UInt8) : skipN false (39 :: m) = 0 := by
  rw [skipN, if_neg (by decide), if_neg (by decide)]

/-- A text between quotes, each quote in it twice. -/
theorem lexB_quotes (l : List UInt8) (f : Nat) : ∃ b, lexB (f + 2) true (39 :: (dblB l ++ [39])) 0 = .ok [⟨19, 0, 0, l, false⟩, ⟨0, (dblB l).length + 2, 0, [], b⟩] := by
  refine ⟨true, ?_⟩
  rw [lexB, skip_quote, List.drop_zero, tokenB_quote, deadB_dbl]
  have hd : (39 :: (dblB l ++ [39])).drop (0 + ((dblB l).length + 1 + 1)) = [] := by
    apply List.drop_eq_nil_of_le
    simp
  simp only [hd]
  rw [lexB]
  simp [skipN, tokenB]
/-- The same without the last quote. -/
theorem lexB_quote_open (l : List UInt8) (f : Nat) : lexB (f + 1) true (39 :: dblB l) 0 = .error (103, 0) := by
  rw [lexB, skip_quote, List.drop_zero, tokenB_quote, deadB_open]

end Go.Proofs.YtdadgodjjfgmfaaDoor
