/- Dialect B: what Print writes, token by token; each quote twice, as strings.ReplaceAll has it. No program stands in it. -/
import Derived.Test.YtdadgodjjfgmfaaDoorPureB4
import Derived.Lib.SplitLaws
import Derived.Lib.Replace
import Derived.Lib.IndexBytes
namespace Go.Proofs.YtdadgodjjfgmfaaDoor
open Go Go.RowKit

theorem printR_append (a b : List BTok) : printR (a ++ b) = printR a ++ printR b := by
  induction a with
  | nil => rfl
  | cons t a ih => rw [List.cons_append, printR, printR, ih]; simp
theorem printT_snoc (a : List BTok) (t : BTok) : printT (a ++ [t]) = if a = [] then showB t else printT a ++ (sepB t ++ showB t) := by
  cases a with
  | nil => simp [printT, printR]
  | cons u a =>
    rw [if_neg (by simp), List.cons_append, printT, printT, printR_append]
    simp [printR]
theorem printT_take (ts : List BTok) (k : Nat) (t : BTok) (h : ts[k]? = some t) : printT (ts.take (k + 1)) = if k = 0 then showB t else printT (ts.take k) ++ (sepB t ++ showB t) := by
  obtain ⟨hk, e⟩ := List.getElem?_eq_some_iff.1 h
  rw [List.take_succ_eq_append_getElem hk, e, printT_snoc]
  by_cases h0 : k = 0
  · subst h0
    simp
  · rw [if_neg h0, if_neg]
    intro e2
    have := congrArg List.length e2
    rw [List.length_take, List.length_nil] at this
    omega

theorem index_cons_ne (b c : UInt8) (l : List UInt8) (h : b ≠ c) (i : Nat) (hi : Lib.index l [c] = i) : Lib.index (b :: l) [c] = ((i + 1 : Nat) : Int) := by
  rw [Lib.index_one] at hi ⊢
  unfold Lib.indexByte
  have h1 : (b == c) = false := beq_false_of_ne h
  rw [hi]
  simp [h1] <;> omega
theorem index_cons_eq (c : UInt8) (l : List UInt8) : Lib.index (c :: l) [c] = ((0 : Nat) : Int) := by
  rw [Lib.index_one]
  unfold Lib.indexByte
  simp

theorem replaceK_dbl (l : List UInt8) : Lib.replaceK [39] [39, 39] (Lib.count l [39]) l = dblB l := by
  induction l with
  | nil => rfl
  | cons c l ih =>
    by_cases hc : c = 39
    · subst hc
      rw [Lib.count_cons_eq, Nat.add_comm, Lib.replaceK_hit _ _ _ _ 0 (index_cons_eq 39 l), dblB, if_pos (by decide)]
      simp only [List.take_zero, List.nil_append, Nat.zero_add, List.length_cons, List.length_nil, List.drop_succ_cons, List.drop_zero]
      rw [ih]
      rfl
    · have hc' : ¬ c.toNat = 39 := fun e => hc (UInt8.toNat_inj.1 e)
      rw [Lib.count_cons_ne c 39 l hc, dblB, if_neg hc', ← ih]
      cases hn : Lib.count l [39] with
      | zero => rfl
      | succ m =>
        obtain ⟨i, hi⟩ := Lib.index_of_count (s := l) (old := [39]) (by omega)
        rw [Lib.replaceK_hit _ _ _ _ (i + 1) (index_cons_ne c 39 l hc i hi), Lib.replaceK_hit _ _ _ _ i hi]
        simp
theorem replaceAll_dbl (l : List UInt8) : Lib.replaceAll l [39] [39, 39] = dblB l := by
  rw [Lib.replaceAll, Lib.replace, if_neg (by decide), Lib.replaceNum, if_pos (.inl (by decide))]
  exact replaceK_dbl l

/-- What tokens are: their kinds, numbers, and the lengths of what they show. -/
theorem tokenB_fine (l : List UInt8) (p : Nat) (t : BTok) (n : Nat) (h : tokenB l p = .ok (t, n)) : t.kind ≤ 23 ∧ (t.kind = 23 → t.num ≤ 9) ∧ t.text.length ≤ l.length := by
  cases l with
  | nil =>
    simp only [tokenB] at h
    cases h
    exact ⟨Nat.zero_le _, fun e => by (cases e), Nat.le_refl _⟩
  | cons c m =>
    simp only [tokenB] at h
    split at h
    · cases h
      rcases best_is (c :: m) with e | ⟨h1, h2, h3⟩
      · rename_i hb
        rw [e] at hb
        exact absurd rfl hb
      · have hk : (bestOp (c :: m) opsB 0 [] 0).2 < 18 := (List.getElem?_eq_some_iff.1 h1).1
        exact ⟨by simp only []; omega, fun e => by simp only [] at e; omega, Nat.zero_le _⟩
    · split at h
      · cases h
      · split at h
        · split at h
          · rename_i x n' hd
            cases h
            have h1 := congrArg List.length (deadB_take m x n' hd)
            have h2 := deadB_le m x n' hd
            have h3 : x.length ≤ (dblB x).length := by
              clear hd h1 h2
              induction x with
              | nil => exact Nat.le_refl _
              | cons a x ih => rw [dblB]; split <;> simp only [List.length_cons] <;> omega
            rw [List.length_take, List.length_append, List.length_cons, List.length_nil] at h1
            exact ⟨by simp, fun e => by (cases e), by simp only [List.length_cons]; omega⟩
          · cases h
        · split at h
          · split at h
            · rename_i k n' x z hd
              cases h
              have h1 := dollarB_le m k n' x z hd
              unfold dollarB at hd
              split at hd
              · rename_i hc
                cases hd
                exact ⟨by simp, fun _ => by simp only []; omega, Nat.zero_le _⟩
              · split at hd
                · simp only [Option.some.injEq, Prod.mk.injEq] at hd
                  obtain ⟨rfl, _, rfl, rfl⟩ := hd
                  have h2 := dKind_range (m.headD 0).toNat
                  have h3 := starName_le (m.drop (dPre (m.headD 0).toNat))
                  rw [List.length_drop] at h3
                  exact ⟨by simp only []; omega, fun e => by simp only [] at e; omega, by simp only [List.length_cons]; omega⟩
                · cases hd
            · cases h
          · cases h
            exact ⟨by simp, fun e => by (cases e), (List.takeWhile_sublist _).length_le⟩

theorem lexB_fine : ∀ (f : Nat) (first : Bool) (l : List UInt8) (p : Nat) (ts : List BTok), lexB f first l p = .ok ts → ∀ t ∈ ts, t.kind ≤ 23 ∧ (t.kind = 23 → t.num ≤ 9) ∧ t.text.length ≤ l.length := by
  intro f
  induction f with
  | zero => intro first l p ts h; cases h; intro t ht; cases ht
  | succ f ih =>
    intro first l p ts h
    rw [lexB] at h
    cases ht : tokenB (l.drop (skipN false l)) (p + skipN false l) with
    | error e => rw [ht] at h; cases h
    | ok y =>
      obtain ⟨t, n⟩ := y
      rw [ht] at h
      have hf := tokenB_fine _ _ _ _ ht
      rw [List.length_drop] at hf
      by_cases hk0 : t.kind = 0
      · simp only [hk0, if_true] at h
        cases h
        intro u hu
        rw [List.mem_singleton] at hu
        subst hu
        exact ⟨Nat.zero_le _, fun e => by (cases e), Nat.le_trans hf.2.2 (Nat.sub_le _ _)⟩
      · simp only [hk0, if_false] at h
        cases hl : lexB f false (l.drop (skipN false l + n)) (p + skipN false l + n) with
        | error e => rw [hl] at h; cases h
        | ok us =>
          rw [hl] at h
          cases h
          intro u hu
          cases hu with
          | head => exact ⟨hf.1, hf.2.1, Nat.le_trans hf.2.2 (Nat.sub_le _ _)⟩
          | tail _ hu =>
            have := ih _ _ _ _ hl u hu
            rw [List.length_drop] at this
            exact ⟨this.1, this.2.1, by omega⟩

end Go.Proofs.YtdadgodjjfgmfaaDoor
