/- The plain functions on bytes that the contracts speak of: names, blanks, numbers. No program stands in it. -/
import Derived.Test.YtepebnblbheegaaGreatDoorKit
import Derived.Laws.Bits
namespace Go.Proofs.YtepebnblbheegaaGreatDoor
open Go Go.RowKit

def isLetter (c : UInt8) : Bool := (decide (65 ≤ c.toNat) && decide (c.toNat ≤ 90)) || (decide (97 ≤ c.toNat) && decide (c.toNat ≤ 122))
def isDigit (c : UInt8) : Bool := decide (48 ≤ c.toNat) && decide (c.toNat ≤ 57)
def isBegin (c : UInt8) : Bool := isLetter c || c.toNat == 95
def isGo (c : UInt8) : Bool := isBegin c || isDigit c
/-- The longest run of bytes of which a name could be made. -/
def runName : List UInt8 → List UInt8
  | [] => []
  | c :: l => if isBegin c then (c :: l).takeWhile isGo else []
/-- Is it a name? -/
def nameB : List UInt8 → Bool
  | [] => false
  | c :: l => decide (l.length < 20) && isBegin c && (c :: l).all isGo

theorem or32 (c : UInt8) : (decide ((97 : Int) ≤ bits BinOp.or IntKind.u8 (c.toNat : Int) 32) && decide (bits BinOp.or IntKind.u8 (c.toNat : Int) 32 ≤ 122)) = isLetter c := by
  have h : ∀ n : Fin 256, (decide ((97 : Int) ≤ bits BinOp.or IntKind.u8 (n.val : Int) 32) && decide (bits BinOp.or IntKind.u8 (n.val : Int) 32 ≤ 122)) = isLetter (UInt8.ofNat n.val) := by decide +kernel
  have h1 := h ⟨c.toNat, c.toNat_lt⟩
  simpa using h1

end Go.Proofs.YtepebnblbheegaaGreatDoor

/- Dialect B's tokens, as plain functions on lists of bytes. No program stands in it. -/
namespace Go.Proofs.YtepebnblbheegaaGreatDoor
open Go Go.RowKit

/-- Blanks and comments at the front: how many bytes they are ('true': within a comment). -/
def skipN : Bool → List UInt8 → Nat
  | _, [] => 0
  | true, c :: l => if c.toNat = 10 then 0 else skipN true l + 1
  | false, c :: l => if c.toNat = 32 ∨ c.toNat = 9 then skipN false l + 1 else if c.toNat = 35 then skipN true l + 1 else 0

structure BTok where
  kind : Nat
  place : Nat
  num : Nat
  text : List UInt8
  glue : Bool

def BTok.cells (t : BTok) : List Value := [.int .i64 t.kind, .int .i64 t.place, .int .i64 t.num, .string (bs t.text), .bool t.glue]

def opsB : List (List UInt8) := [[], [10], [59], [38, 38], [124, 124], [124], [40], [41], [123], [125], [96, 123], [60], [62], [62, 62], [60, 60, 60], [94], [61], [33]]

/-- The longest operator that stands at the front (the first of them), and its number. -/
def bestOp (l : List UInt8) : List (List UInt8) → Nat → List UInt8 → Nat → List UInt8 × Nat
  | [], _, b, k => (b, k)
  | o :: os, i, b, k => if b.length < o.length ∧ Lib.hasPrefix l o = true then bestOp l os (i + 1) o i else bestOp l os (i + 1) b k

/-- Does a word end ahead of a byte? -/
def endsB (c : UInt8) : Bool := [32, 9, 10, 59, 38, 124, 40, 41, 123, 125, 60, 62, 94, 61, 33, 36, 96, 39, 35].contains c.toNat

/-- What is between two quotes, behind the first: the text, and how many bytes it is with the last quote. -/
def deadB : List UInt8 → Option (List UInt8 × Nat)
  | [] => none
  | [c] => if c.toNat = 39 then some ([], 1) else none
  | c :: d :: l =>
    if c.toNat = 39 then (if d.toNat = 39 then (deadB l).map (fun x => (39 :: x.1, x.2 + 2)) else some ([], 1))
    else (deadB (d :: l)).map (fun x => (c :: x.1, x.2 + 1))

/-- How many bytes stand between the dollar and the name, and what kind of token that makes. -/
def dPre (c : Nat) : Nat := if c = 35 ∨ c = 34 then 1 else 0
def dKind (c : Nat) : Nat := if c = 35 then 21 else if c = 34 then 22 else 20
/-- A star, or the longest run. -/
def starName (l : List UInt8) : List UInt8 := if Lib.hasPrefix l [42] then [42] else runName l
/-- What begins with a dollar, behind it: its kind, number, text, and how many bytes it is. -/
def dollarB (l : List UInt8) : Option (Nat × Nat × List UInt8 × Nat) :=
  if 49 ≤ (l.headD 0).toNat ∧ (l.headD 0).toNat ≤ 57 then some (23, (l.headD 0).toNat - 48, [], 1)
  else if starName (l.drop (dPre (l.headD 0).toNat)) = [42] ∨ nameB (starName (l.drop (dPre (l.headD 0).toNat))) = true then
    some (dKind (l.headD 0).toNat, 0, starName (l.drop (dPre (l.headD 0).toNat)), dPre (l.headD 0).toNat + (starName (l.drop (dPre (l.headD 0).toNat))).length)
  else none

theorem runName_le (l : List UInt8) : (runName l).length ≤ l.length := by
  cases l with
  | nil => simp [runName]
  | cons c l =>
    rw [show runName (c :: l) = if isBegin c then (c :: l).takeWhile isGo else [] from rfl]
    split
    · exact (List.takeWhile_sublist _).length_le
    · simp
theorem starName_le (l : List UInt8) : (starName l).length ≤ l.length := by
  unfold starName
  split
  · rename_i h
    cases l with
    | nil => exact absurd h (by decide)
    | cons c l => simp
  · exact runName_le l

/-- A token at the front (behind blanks), and how many bytes it is; or an error's number, and its place. -/
def tokenB (l : List UInt8) (p : Nat) : Except (Nat × Nat) (BTok × Nat) :=
  match l with
  | [] => .ok (⟨0, p, 0, [], false⟩, 0)
  | c :: m =>
    let b := bestOp l opsB 0 [] 0
    if b.1 ≠ [] then .ok (⟨b.2, p, 0, [], false⟩, b.1.length)
    else if c.toNat = 38 ∨ c.toNat = 96 then .error (107, p)
    else if c.toNat = 39 then match deadB m with
      | some (x, n) => .ok (⟨19, p, 0, x, false⟩, n + 1)
      | none => .error (103, p)
    else if c.toNat = 36 then match dollarB m with
      | some (k, n, x, z) => .ok (⟨k, p, n, x, false⟩, z + 1)
      | none => .error (106, p)
    else .ok (⟨18, p, 0, l.takeWhile (fun c => !endsB c), false⟩, (l.takeWhile (fun c => !endsB c)).length)

/-- All tokens from a place on. -/
def lexB : Nat → Bool → List UInt8 → Nat → Except (Nat × Nat) (List BTok)
  | 0, _, _, _ => .ok []
  | f + 1, first, l, p =>
    match tokenB (l.drop (skipN false l)) (p + skipN false l) with
    | .error e => .error e
    | .ok (t, n) =>
      if t.kind = 0 then .ok [{ t with glue := !first && skipN false l == 0 }]
      else match lexB f false (l.drop (skipN false l + n)) (p + skipN false l + n) with
        | .error e => .error e
        | .ok ts => .ok ({ t with glue := !first && skipN false l == 0 } :: ts)

theorem skipN_le (b : Bool) (l : List UInt8) : skipN b l ≤ l.length := by
  induction l generalizing b with
  | nil => cases b <;> simp [skipN]
  | cons c l ih =>
    have h1 := ih true
    have h2 := ih false
    cases b <;> simp only [skipN, List.length_cons] <;> (repeat' split) <;> omega

end Go.Proofs.YtepebnblbheegaaGreatDoor

/- Dialect B's tokens: what they take of the text. No program stands in it. -/
namespace Go.Proofs.YtepebnblbheegaaGreatDoor
open Go Go.RowKit

theorem hasPrefix_le {l o : List UInt8} (h : Lib.hasPrefix l o = true) : o.length ≤ l.length :=
  (List.isPrefixOf_iff_prefix.1 h).length_le

theorem bestOp_ge (l : List UInt8) (ops : List (List UInt8)) : ∀ (i : Nat) (b : List UInt8) (k : Nat), b.length ≤ (bestOp l ops i b k).1.length ∧ ∀ o ∈ ops, Lib.hasPrefix l o = true → o.length ≤ (bestOp l ops i b k).1.length := by
  induction ops with
  | nil => exact fun i b k => ⟨Nat.le_refl _, fun o ho => by cases ho⟩
  | cons o os ih =>
    intro i b k
    rw [bestOp]
    split
    · rename_i h
      obtain ⟨h1, h2⟩ := ih (i + 1) o i
      refine ⟨by omega, fun p hp hpre => ?_⟩
      cases hp with
      | head => exact h1
      | tail _ hp => exact h2 p hp hpre
    · rename_i h
      obtain ⟨h1, h2⟩ := ih (i + 1) b k
      refine ⟨h1, fun p hp hpre => ?_⟩
      cases hp with
      | head =>
        have : ¬ b.length < o.length := fun e => h ⟨e, hpre⟩
        omega
      | tail _ hp => exact h2 p hp hpre

theorem bestOp_mem (l : List UInt8) (ops : List (List UInt8)) : ∀ (i : Nat) (b : List UInt8) (k : Nat), (bestOp l ops i b k = (b, k)) ∨ (∃ j, ops[j]? = some (bestOp l ops i b k).1 ∧ (bestOp l ops i b k).2 = i + j ∧ Lib.hasPrefix l (bestOp l ops i b k).1 = true ∧ b.length < (bestOp l ops i b k).1.length) := by
  induction ops with
  | nil => exact fun i b k => .inl rfl
  | cons o os ih =>
    intro i b k
    rw [bestOp]
    split
    · rename_i h
      refine .inr ?_
      rcases ih (i + 1) o i with e | ⟨j, h1, h2, h3, h4⟩
      · rw [e]
        exact ⟨0, rfl, rfl, h.2, h.1⟩
      · exact ⟨j + 1, by simpa using h1, by omega, h3, by omega⟩
    · rcases ih (i + 1) b k with e | ⟨j, h1, h2, h3, h4⟩
      · exact .inl e
      · exact .inr ⟨j + 1, by simpa using h1, by omega, h3, h4⟩

/-- The longest operator: none; or one of the table's, and it stands there. -/
theorem best_is (l : List UInt8) : (bestOp l opsB 0 [] 0 = ([], 0)) ∨ (opsB[(bestOp l opsB 0 [] 0).2]? = some (bestOp l opsB 0 [] 0).1 ∧ Lib.hasPrefix l (bestOp l opsB 0 [] 0).1 = true ∧ 0 < (bestOp l opsB 0 [] 0).1.length) := by
  rcases bestOp_mem l opsB 0 [] 0 with e | ⟨j, h1, h2, h3, h4⟩
  · exact .inl e
  · refine .inr ⟨?_, h3, h4⟩
    rw [h2, Nat.zero_add]
    exact h1

theorem deadB_le : ∀ (l x : List UInt8) (n : Nat), deadB l = some (x, n) → n ≤ l.length ∧ 1 ≤ n
  | [], x, n, h => by cases h
  | [c], x, n, h => by
    simp only [deadB] at h
    split at h
    · cases h; exact ⟨Nat.le_refl _, Nat.le_refl _⟩
    · cases h
  | c :: d :: l, x, n, h => by
    simp only [deadB] at h
    split at h
    · split at h
      · cases hd : deadB l with
        | none => rw [hd] at h; cases h
        | some y =>
          rw [hd] at h
          cases h
          have := deadB_le l y.1 y.2 hd
          simp only [List.length_cons]
          omega
      · cases h
        simp only [List.length_cons]
        omega
    · cases hd : deadB (d :: l) with
      | none => rw [hd] at h; cases h
      | some y =>
        rw [hd] at h
        cases h
        have := deadB_le (d :: l) y.1 y.2 hd
        simp only [List.length_cons] at this ⊢
        omega

theorem dPre_le (l : List UInt8) : dPre (l.headD 0).toNat ≤ l.length := by
  cases l with
  | nil => simp [dPre]
  | cons c l => unfold dPre; simp only [List.length_cons]; split <;> omega
theorem dKind_range (c : Nat) : 20 ≤ dKind c ∧ dKind c ≤ 22 := by unfold dKind; (repeat' split) <;> omega

theorem dollarB_le (l : List UInt8) (k n : Nat) (x : List UInt8) (z : Nat) (h : dollarB l = some (k, n, x, z)) : z ≤ l.length ∧ 20 ≤ k ∧ k ≤ 23 := by
  unfold dollarB at h
  have h1 := dPre_le l
  have h2 := starName_le (l.drop (dPre (l.headD 0).toNat))
  have h3 := dKind_range (l.headD 0).toNat
  rw [List.length_drop] at h2
  split at h
  · rename_i hc
    cases h
    cases l with
    | nil => exact absurd hc (by decide)
    | cons c l => exact ⟨by simp, by omega, by omega⟩
  · split at h
    · simp only [Option.some.injEq, Prod.mk.injEq] at h
      obtain ⟨hk, _, _, hz⟩ := h
      exact ⟨by omega, by omega, by omega⟩
    · cases h

/-- The front behind blanks is none. -/
theorem skip_front : ∀ (b : Bool) (l : List UInt8) (c : UInt8) (m : List UInt8), l.drop (skipN b l) = c :: m → ¬ (c.toNat = 32 ∨ c.toNat = 9 ∨ c.toNat = 35)
  | b, [], c, m, h => by simp at h
  | true, a :: l, c, m, h => by
    simp only [skipN] at h
    split at h
    · rename_i ha
      simp only [List.drop_zero] at h
      injection h with h1 _
      rw [← h1]; omega
    · exact skip_front true l c m (by simpa using h)
  | false, a :: l, c, m, h => by
    simp only [skipN] at h
    split at h
    · exact skip_front false l c m (by simpa using h)
    · split at h
      · exact skip_front true l c m (by simpa using h)
      · simp only [List.drop_zero] at h
        injection h with h1 _
        rw [← h1]; omega

/-- A byte that begins no operator, no quote, no dollar, and is no blank, begins a word. -/
theorem word_first (c : UInt8) (m : List UInt8) (hb : (bestOp (c :: m) opsB 0 [] 0).1 = []) (h0 : ¬ (c.toNat = 32 ∨ c.toNat = 9 ∨ c.toNat = 35)) (h1 : ¬ (c.toNat = 38 ∨ c.toNat = 96)) (h2 : ¬ c.toNat = 39) (h3 : ¬ c.toNat = 36) : endsB c = false := by
  have hops : ∀ o : UInt8, [o] ∈ opsB → ¬ c.toNat = o.toNat := by
    intro o ho e
    have e' : c = o := UInt8.toNat_inj.1 e
    subst e'
    have := (bestOp_ge (c :: m) opsB 0 [] 0).2 [c] ho (by simp [Lib.hasPrefix, List.isPrefixOf])
    rw [hb] at this
    simp at this
  have e10 := hops 10 (by decide)
  have e59 := hops 59 (by decide)
  have e124 := hops 124 (by decide)
  have e40 := hops 40 (by decide)
  have e41 := hops 41 (by decide)
  have e123 := hops 123 (by decide)
  have e125 := hops 125 (by decide)
  have e60 := hops 60 (by decide)
  have e62 := hops 62 (by decide)
  have e94 := hops 94 (by decide)
  have e61 := hops 61 (by decide)
  have e33 := hops 33 (by decide)
  clear hops
  simp only [show (10 : UInt8).toNat = 10 from rfl, show (59 : UInt8).toNat = 59 from rfl, show (124 : UInt8).toNat = 124 from rfl, show (40 : UInt8).toNat = 40 from rfl, show (41 : UInt8).toNat = 41 from rfl, show (123 : UInt8).toNat = 123 from rfl, show (125 : UInt8).toNat = 125 from rfl,
    show (60 : UInt8).toNat = 60 from rfl, show (62 : UInt8).toNat = 62 from rfl, show (94 : UInt8).toNat = 94 from rfl, show (61 : UInt8).toNat = 61 from rfl, show (33 : UInt8).toNat = 33 from rfl] at *
  rw [endsB, ← Bool.not_eq_true, List.contains_iff_mem]
  simp only [List.mem_cons, List.not_mem_nil, or_false]
  omega

/-- What a token takes: no more than there is; something, but for the end. -/
theorem tokenB_takes (l : List UInt8) (p : Nat) (t : BTok) (n : Nat) (h : tokenB l p = .ok (t, n)) : n ≤ l.length ∧ t.place = p ∧ t.glue = false ∧ (t.kind = 0 ↔ l = []) ∧ ((∀ c m, l = c :: m → ¬ (c.toNat = 32 ∨ c.toNat = 9 ∨ c.toNat = 35)) → l ≠ [] → 1 ≤ n) := by
  cases l with
  | nil =>
    simp only [tokenB] at h
    cases h
    exact ⟨Nat.le_refl _, rfl, rfl, ⟨fun _ => rfl, fun _ => rfl⟩, fun _ e => absurd rfl e⟩
  | cons c m =>
    simp only [tokenB] at h
    split at h
    · rename_i hb
      cases h
      rcases best_is (c :: m) with e | ⟨h1, h2, h3⟩
      · rw [e] at hb; exact absurd rfl hb
      · refine ⟨hasPrefix_le h2, rfl, rfl, ⟨fun e => ?_, fun e => by cases e⟩, fun _ _ => h3⟩
        simp only at e
        rw [e] at h1
        simp only [opsB, List.getElem?_cons_zero, Option.some.injEq] at h1
        exact absurd h1.symm hb
    · rename_i hb
      have hb' : (bestOp (c :: m) opsB 0 [] 0).1 = [] := by simpa using hb
      split at h
      · cases h
      · rename_i h38
        split at h
        · rename_i h39
          split at h
          · rename_i x n' hd
            cases h
            have := deadB_le m x n' hd
            exact ⟨by simp only [List.length_cons]; omega, rfl, rfl, ⟨fun e => by simp at e, fun e => by cases e⟩, fun _ _ => by omega⟩
          · cases h
        · rename_i h39
          split at h
          · split at h
            · rename_i k n' x z hd
              cases h
              have := dollarB_le m k n' x z hd
              exact ⟨by simp only [List.length_cons]; omega, rfl, rfl, ⟨fun e => by simp only at e; omega, fun e => by cases e⟩, fun _ _ => by omega⟩
            · cases h
          · rename_i h36
            cases h
            refine ⟨(List.takeWhile_sublist _).length_le, rfl, rfl, ⟨fun e => by simp at e, fun e => by cases e⟩, fun hne _ => ?_⟩
            have he := word_first c m hb' (hne c m rfl) h38 h39 h36
            rw [List.takeWhile_cons_of_pos (by rw [he]; rfl)]
            simp

end Go.Proofs.YtepebnblbheegaaGreatDoor

/- Dialect B's tokens: how they rise with their places, and what quotes come to. No program stands in it. -/
namespace Go.Proofs.YtepebnblbheegaaGreatDoor
open Go Go.RowKit

def isBlank (c : UInt8) : Bool := c.toNat == 32 || c.toNat == 9

/-- What the law asks of two tokens, the one behind the other. -/
def PairOk (L : List UInt8) (a b : BTok) : Prop :=
  a.place < b.place ∧ b.place ≤ L.length ∧ (b.glue = true → isBlank (L.getD (b.place - 1) 0) = true → a.kind = 19) ∧
    (b.glue = false → isBlank (L.getD (b.place - 1) 0) = false → b.kind = 0 ∨ b.kind = 1)

theorem prefix_last {x l : List UInt8} (h : x <+: l) (hx : 1 ≤ x.length) (hb : ∀ c ∈ x, isBlank c = false) : isBlank (l.getD (x.length - 1) 0) = false := by
  obtain ⟨r, rfl⟩ := h
  have h1 : x.length - 1 < x.length := by omega
  rw [List.getD_eq_getElem?_getD, List.getElem?_append_left h1, List.getElem?_eq_getElem h1]
  exact hb _ (List.getElem_mem h1)

theorem runName_prefix (l : List UInt8) : runName l <+: l := by
  cases l with
  | nil => exact List.prefix_refl _
  | cons c l =>
    rw [show runName (c :: l) = if isBegin c then (c :: l).takeWhile isGo else [] from rfl]
    split
    · exact List.takeWhile_prefix _
    · exact List.nil_prefix
theorem starName_prefix (l : List UInt8) : starName l <+: l := by
  unfold starName
  split
  · rename_i h
    exact List.isPrefixOf_iff_prefix.1 h
  · exact runName_prefix l

theorem go_blank (c : UInt8) (h : isGo c = true) : isBlank c = false := by
  have h2 : ∀ n : Fin 256, isGo (UInt8.ofNat n.val) = true → isBlank (UInt8.ofNat n.val) = false := by decide +kernel
  have h3 := h2 ⟨c.toNat, c.toNat_lt⟩
  simp only [UInt8.ofNat_toNat] at h3
  exact h3 h
theorem ends_blank (c : UInt8) (h : endsB c = false) : isBlank c = false := by
  have h2 : ∀ n : Fin 256, endsB (UInt8.ofNat n.val) = false → isBlank (UInt8.ofNat n.val) = false := by decide +kernel
  have h3 := h2 ⟨c.toNat, c.toNat_lt⟩
  simp only [UInt8.ofNat_toNat] at h3
  exact h3 h

theorem nameB_go (l : List UInt8) (h : nameB l = true) : 1 ≤ l.length ∧ ∀ c ∈ l, isGo c = true := by
  cases l with
  | nil => cases h
  | cons c l =>
    simp only [nameB, Bool.and_eq_true, List.all_eq_true] at h
    exact ⟨by simp, h.2⟩

theorem dollarB_last (m : List UInt8) (k n : Nat) (x : List UInt8) (z : Nat) (h : dollarB m = some (k, n, x, z)) : 1 ≤ z ∧ isBlank (m.getD (z - 1) 0) = false := by
  unfold dollarB at h
  split at h
  · rename_i hc
    cases h
    cases m with
    | nil => exact absurd hc (by decide)
    | cons c m =>
      refine ⟨by omega, ?_⟩
      show isBlank c = false
      have hc' : 49 ≤ c.toNat ∧ c.toNat ≤ 57 := hc
      unfold isBlank
      rw [Bool.or_eq_false_iff]
      exact ⟨beq_false_of_ne (by omega), beq_false_of_ne (by omega)⟩
  · split at h
    · rename_i hs
      simp only [Option.some.injEq, Prod.mk.injEq] at h
      obtain ⟨hk, _, _, rfl⟩ := h
      generalize hd : dPre (m.headD 0).toNat = pre at *
      generalize hy : starName (m.drop pre) = y at *
      have hp : y <+: m.drop pre := by rw [← hy]; exact starName_prefix _
      have h1 : 1 ≤ y.length ∧ ∀ c ∈ y, isBlank c = false := by
        rcases hs with e | e
        · rw [e]
          exact ⟨by simp, fun c hc => by simp only [List.mem_singleton] at hc; rw [hc]; rfl⟩
        · obtain ⟨a, b⟩ := nameB_go y e
          exact ⟨a, fun c hc => go_blank c (b c hc)⟩
      have h2 := prefix_last hp h1.1 h1.2
      refine ⟨by omega, ?_⟩
      rw [← h2, List.getD_eq_getElem?_getD, List.getD_eq_getElem?_getD, List.getElem?_drop]
      congr 3
      omega
    · cases h

theorem tokenB_last (l : List UInt8) (p : Nat) (t : BTok) (n : Nat) (h : tokenB l p = .ok (t, n)) (hn : 1 ≤ n) (hk : t.kind ≠ 19) : isBlank (l.getD (n - 1) 0) = false := by
  cases l with
  | nil =>
    simp only [tokenB] at h
    cases h
    omega
  | cons c m =>
    simp only [tokenB] at h
    split at h
    · rename_i hb
      cases h
      rcases best_is (c :: m) with e | ⟨h1, h2, h3⟩
      · rw [e] at hb; exact absurd rfl hb
      · have hall : ∀ o ∈ opsB, ∀ c ∈ o, isBlank c = false := by decide +kernel
        exact prefix_last (List.isPrefixOf_iff_prefix.1 h2) h3 (hall _ (List.mem_of_getElem? h1))
    · split at h
      · cases h
      · split at h
        · split at h
          · cases h
            exact absurd rfl hk
          · cases h
        · split at h
          · split at h
            · rename_i k n' x z hd
              cases h
              obtain ⟨h1, h2⟩ := dollarB_last m k n' x z hd
              rw [← h2, show z + 1 - 1 = (z - 1) + 1 from by omega]
              rfl
            · cases h
          · cases h
            refine prefix_last (List.takeWhile_prefix _) hn (fun d hd => ?_)
            have := List.all_eq_true.1 (List.all_takeWhile (p := fun c => !endsB c) (l := c :: m)) d hd
            exact ends_blank d (by simpa using this)

/-- Behind blanks and comments whose last byte is no blank there is the end, or a line's end. -/
theorem skip_last : ∀ (b : Bool) (l : List UInt8), 1 ≤ skipN b l → isBlank (l.getD (skipN b l - 1) 0) = false → (l.drop (skipN b l) = [] ∨ ∃ c m, l.drop (skipN b l) = c :: m ∧ c.toNat = 10)
  | b, [], h, _ => by cases b <;> simp [skipN] at h
  | true, a :: l, h, hb => by
    simp only [skipN] at h hb ⊢
    split at h
    · omega
    · rename_i ha
      rw [if_neg ha] at hb
      simp only [if_neg ha, List.drop_succ_cons]
      by_cases h0 : skipN true l = 0
      · rw [h0, List.drop_zero]
        cases l with
        | nil => exact .inl rfl
        | cons c m =>
          simp only [skipN] at h0
          split at h0
          · exact .inr ⟨c, m, rfl, by assumption⟩
          · omega
      · refine skip_last true l (by omega) ?_
        refine Eq.trans ?_ hb
        rw [show skipN true l + 1 - 1 = (skipN true l - 1) + 1 from by omega]
        rfl
  | false, a :: l, h, hb => by
    simp only [skipN] at h hb ⊢
    split at h
    · rename_i ha
      rw [if_pos ha] at hb
      simp only [if_pos ha, List.drop_succ_cons]
      by_cases h0 : skipN false l = 0
      · rw [h0] at hb
        have : isBlank a = true := by
          unfold isBlank
          rw [Bool.or_eq_true, beq_iff_eq, beq_iff_eq]
          exact ha
        rw [show (a :: l).getD (0 + 1 - 1) 0 = a from rfl, this] at hb
        cases hb
      · refine skip_last false l (by omega) ?_
        refine Eq.trans ?_ hb
        rw [show skipN false l + 1 - 1 = (skipN false l - 1) + 1 from by omega]
        rfl
    · rename_i ha
      split at h
      · rename_i h35
        rw [if_neg ha, if_pos h35] at hb
        simp only [if_neg ha, if_pos h35, List.drop_succ_cons]
        by_cases h0 : skipN true l = 0
        · rw [h0, List.drop_zero]
          cases l with
          | nil => exact .inl rfl
          | cons c m =>
            simp only [skipN] at h0
            split at h0
            · exact .inr ⟨c, m, rfl, by assumption⟩
            · omega
        · refine skip_last true l (by omega) ?_
          refine Eq.trans ?_ hb
          rw [show skipN true l + 1 - 1 = (skipN true l - 1) + 1 from by omega]
          rfl
      · omega

/-- A line's end is a token of its own. -/
theorem tokenB_line (c : UInt8) (m : List UInt8) (p : Nat) (t : BTok) (n : Nat) (hc : c.toNat = 10) (h : tokenB (c :: m) p = .ok (t, n)) : t.kind = 1 := by
  obtain rfl : c = 10 := UInt8.toNat_inj.1 hc
  have hb : bestOp (10 :: m) opsB 0 [] 0 = ([10], 1) := by simp [bestOp, opsB, Lib.hasPrefix, List.isPrefixOf]
  simp only [tokenB, hb] at h
  cases h
  rfl

/-- Tokens behind one another, up to the end. -/
def ChainB (L : List UInt8) : BTok → List BTok → Prop
  | t, [] => t.kind = 0 ∧ t.place = L.length
  | t, u :: us => PairOk L t u ∧ ChainB L u us

theorem lexB_chain (L : List UInt8) : ∀ (f : Nat) (first : Bool) (k : Nat) (ts : List BTok), k ≤ L.length → L.length - k < f → lexB f first (L.drop k) k = .ok ts →
    ∃ t us, ts = t :: us ∧ t.place = k + skipN false (L.drop k) ∧ t.place ≤ L.length ∧ t.glue = (!first && skipN false (L.drop k) == 0) ∧
      ((L.drop t.place = [] ∨ ∃ c m, L.drop t.place = c :: m ∧ c.toNat = 10) → t.kind = 0 ∨ t.kind = 1) ∧ ChainB L t us := by
  intro f
  induction f with
  | zero => intro first k ts _ h; omega
  | succ f ih =>
    intro first k ts hk hf h
    rw [lexB] at h
    have hs := skipN_le false (L.drop k)
    have hfront := skip_front false (L.drop k)
    rw [List.length_drop] at hs
    rw [List.drop_drop] at h hfront
    obtain ⟨j, hj⟩ : ∃ j, k + skipN false (L.drop k) = j := ⟨_, rfl⟩
    rw [hj] at h hfront
    cases ht : tokenB (L.drop j) j with
    | error e => rw [ht] at h; cases h
    | ok y =>
      obtain ⟨t, n⟩ := y
      rw [ht] at h
      obtain ⟨n1, n2, n3, n4, n5⟩ := tokenB_takes _ _ _ _ ht
      rw [List.length_drop] at n1
      have hline : (L.drop j = [] ∨ ∃ c m, L.drop j = c :: m ∧ c.toNat = 10) → t.kind = 0 ∨ t.kind = 1 := by
        rintro (e | ⟨c, m, e, hc⟩)
        · exact .inl (n4.2 e)
        · rw [e] at ht
          exact .inr (tokenB_line c m j t n hc ht)
      by_cases hk0 : t.kind = 0
      · simp only [hk0, if_true] at h
        cases h
        refine ⟨_, _, rfl, ?_, ?_, rfl, ?_, rfl, ?_⟩
        · exact n2.trans hj.symm
        · show t.place ≤ _
          omega
        · exact fun _ => .inl rfl
        · have := congrArg List.length (n4.1 hk0)
          rw [List.length_drop, List.length_nil] at this
          show t.place = _
          omega
      · simp only [hk0, if_false] at h
        have hn1 : 1 ≤ n := n5 hfront (fun e => hk0 (n4.2 e))
        have hd : (L.drop k).drop (skipN false (L.drop k) + n) = L.drop (j + n) := by rw [List.drop_drop]; congr 1; omega
        rw [hd] at h
        cases hl : lexB f false (L.drop (j + n)) (j + n) with
        | error e => rw [hl] at h; cases h
        | ok us =>
          rw [hl] at h
          cases h
          obtain ⟨u, vs, rfl, u1, u2, u3, u4, u5⟩ := ih false (j + n) us (by omega) (by omega) hl
          refine ⟨_, _, rfl, n2.trans hj.symm, ?_, rfl, ?_, ⟨?_, u2, ?_, ?_⟩, u5⟩
          · show t.place ≤ _
            omega
          · show (L.drop t.place = [] ∨ ∃ c m, L.drop t.place = c :: m ∧ c.toNat = 10) → t.kind = 0 ∨ t.kind = 1
            rw [n2]
            exact hline
          · show t.place < u.place
            omega
          · intro hg hb
            show t.kind = 19
            apply Classical.byContradiction
            intro hne
            rw [u3] at hg
            simp only [Bool.not_false, Bool.true_and, beq_iff_eq] at hg
            have := tokenB_last _ _ _ _ ht hn1 hne
            rw [u1, hg] at hb
            rw [List.getD_eq_getElem?_getD, List.getElem?_drop, ← List.getD_eq_getElem?_getD, show j + (n - 1) = j + n + 0 - 1 from by omega, hb] at this
            cases this
          · intro hg hb
            apply u4
            rw [u3] at hg
            simp only [Bool.not_false, Bool.true_and, beq_eq_false_iff_ne] at hg
            have := skip_last false (L.drop (j + n)) (by omega) (by
              refine Eq.trans ?_ hb
              rw [u1, List.getD_eq_getElem?_getD, List.getD_eq_getElem?_getD, List.getElem?_drop]
              congr 3
              omega)
            rw [List.drop_drop, ← u1] at this
            exact this

/-- An error's place lies within the source. -/
theorem tokenB_err (l : List UInt8) (p c q : Nat) (h : tokenB l p = .error (c, q)) : l ≠ [] ∧ q = p ∧ (c = 103 ∨ c = 106 ∨ c = 107) := by
  cases l with
  | nil => simp only [tokenB] at h; cases h
  | cons a m =>
    simp only [tokenB] at h
    refine ⟨by simp, ?_⟩
    (repeat' split at h) <;> cases h <;> simp

theorem lexB_err (L : List UInt8) : ∀ (f : Nat) (first : Bool) (k c q : Nat), k ≤ L.length → lexB f first (L.drop k) k = .error (c, q) → q < L.length ∧ (c = 103 ∨ c = 106 ∨ c = 107) := by
  intro f
  induction f with
  | zero => intro first k c q _ h; cases h
  | succ f ih =>
    intro first k c q hk h
    rw [lexB] at h
    have hs := skipN_le false (L.drop k)
    rw [List.length_drop] at hs
    rw [List.drop_drop] at h
    obtain ⟨j, hj⟩ : ∃ j, k + skipN false (L.drop k) = j := ⟨_, rfl⟩
    rw [hj] at h
    cases ht : tokenB (L.drop j) j with
    | error e =>
      rw [ht] at h
      cases h
      obtain ⟨h1, h2, h3⟩ := tokenB_err _ _ _ _ ht
      refine ⟨?_, h3⟩
      rw [h2]
      apply Classical.byContradiction
      intro hge
      exact h1 (List.drop_eq_nil_of_le (by omega))
    | ok y =>
      obtain ⟨t, n⟩ := y
      rw [ht] at h
      obtain ⟨n1, n2, n3, n4, n5⟩ := tokenB_takes _ _ _ _ ht
      rw [List.length_drop] at n1
      by_cases hk0 : t.kind = 0
      · simp only [hk0, if_true] at h
        cases h
      · simp only [hk0, if_false] at h
        have hd : (L.drop k).drop (skipN false (L.drop k) + n) = L.drop (j + n) := by rw [List.drop_drop]; congr 1; omega
        rw [hd] at h
        cases hl : lexB f false (L.drop (j + n)) (j + n) with
        | error e =>
          rw [hl] at h
          cases h
          exact ih false (j + n) c q (by omega) hl
        | ok us => rw [hl] at h; cases h

/-- The chain, by its places. -/
theorem ChainB.pair {L : List UInt8} : ∀ {t : BTok} {us : List BTok}, ChainB L t us → ∀ i a b, (t :: us)[i]? = some a → (t :: us)[i + 1]? = some b → PairOk L a b
  | t, [], h, i, a, b, h1, h2 => by simp at h2
  | t, u :: us, h, 0, a, b, h1, h2 => by
    simp only [List.getElem?_cons_zero, List.getElem?_cons_succ, Option.some.injEq, Nat.zero_add] at h1 h2
    rw [← h1, ← h2]
    exact h.1
  | t, u :: us, h, i + 1, a, b, h1, h2 => ChainB.pair h.2 i a b (by simpa using h1) (by simpa using h2)
theorem ChainB.last {L : List UInt8} : ∀ {t : BTok} {us : List BTok}, ChainB L t us → ∃ z, (t :: us)[us.length]? = some z ∧ z.kind = 0 ∧ z.place = L.length
  | t, [], h => ⟨t, rfl, h⟩
  | t, u :: us, h => by
    obtain ⟨z, h1, h2⟩ := ChainB.last h.2
    exact ⟨z, by simpa using h1, h2⟩

/-- Each quote twice. -/
def dblB : List UInt8 → List UInt8
  | [] => []
  | c :: l => if c.toNat = 39 then 39 :: 39 :: dblB l else c :: dblB l

theorem dblB_append (l m : List UInt8) : dblB (l ++ m) = dblB l ++ dblB m := by
  induction l with
  | nil => rfl
  | cons c l ih =>
    rw [List.cons_append, dblB, dblB, ih]
    split <;> rfl
theorem dblB_length (l : List UInt8) : (dblB l).length ≤ 2 * l.length := by
  induction l with
  | nil => exact Nat.le_refl _
  | cons c l ih =>
    rw [dblB]
    split <;> simp only [List.length_cons] <;> omega

theorem deadB_cons (c : UInt8) (l : List UInt8) (hc : ¬ c.toNat = 39) (hl : l ≠ []) : deadB (c :: l) = (deadB l).map (fun x => (c :: x.1, x.2 + 1)) := by
  cases l with
  | nil => exact absurd rfl hl
  | cons d l => rw [deadB, if_neg hc]
theorem deadB_two (l : List UInt8) : deadB (39 :: 39 :: l) = (deadB l).map (fun x => (39 :: x.1, x.2 + 2)) := by
  rw [deadB, if_pos (by decide), if_pos (by decide)]

theorem deadB_dbl (l : List UInt8) : deadB (dblB l ++ [39]) = some (l, (dblB l).length + 1) := by
  induction l with
  | nil => decide
  | cons c l ih =>
    rw [dblB]
    split
    · rename_i h
      obtain rfl : c = 39 := UInt8.toNat_inj.1 h
      rw [List.cons_append, List.cons_append, deadB_two, ih]
      rfl
    · rename_i h
      rw [List.cons_append, deadB_cons c _ h (by simp), ih]
      rfl
theorem deadB_open (l : List UInt8) : deadB (dblB l) = none := by
  induction l with
  | nil => rfl
  | cons c l ih =>
    rw [dblB]
    split
    · rw [deadB_two, ih]
      rfl
    · rename_i h
      by_cases hl : dblB l = []
      · rw [hl, deadB, if_neg h]
      · rw [deadB_cons c _ h hl, ih]
        rfl

theorem tokenB_quote (m : List UInt8) (p : Nat) : tokenB (39 :: m) p = match deadB m with
      | some (x, n) => .ok (⟨19, p, 0, x, false⟩, n + 1)
      | none => .error (103, p) := by
  have hb : bestOp (39 :: m) opsB 0 [] 0 = ([], 0) := by simp [bestOp, opsB, Lib.hasPrefix, List.isPrefixOf]
  simp only [tokenB, hb]
  rfl

theorem skip_quote (m : List UInt8) : skipN false (39 :: m) = 0 := by
  rw [skipN, if_neg (by decide), if_neg (by decide)]

/-- A text between quotes, each quote in it twice. -/
theorem lexB_quotes (l : List UInt8) (f : Nat) : ∃ b, lexB (f + 2) true (39 :: (dblB l ++ [39])) 0 = .ok [⟨19, 0, 0, l, false⟩, ⟨0, (dblB l).length + 2, 0, [], b⟩] := by
  refine ⟨true, ?_⟩
  rw [lexB, skip_quote, List.drop_zero, tokenB_quote, deadB_dbl]
  have hd : (39 :: (dblB l ++ [39])).drop (0 + ((dblB l).length + 1 + 1)) = [] := by
    apply List.drop_eq_nil_of_le
    simp
  simp only [hd]
  rw [lexB]
  simp [skipN, tokenB]
/-- The same without the last quote. -/
theorem lexB_quote_open (l : List UInt8) (f : Nat) : lexB (f + 1) true (39 :: dblB l) 0 = .error (103, 0) := by
  rw [lexB, skip_quote, List.drop_zero, tokenB_quote, deadB_open]

end Go.Proofs.YtepebnblbheegaaGreatDoor
