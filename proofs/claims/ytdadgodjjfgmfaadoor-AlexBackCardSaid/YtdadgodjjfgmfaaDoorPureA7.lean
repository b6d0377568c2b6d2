/- Which parts dialect A's tokens have. No program stands in it. -/
import Derived.Test.YtdadgodjjfgmfaaDoorPureA6
namespace Go.Proofs.YtdadgodjjfgmfaaDoor
open Go Go.RowKit

def NoTwoK : List Nat → Prop
  | [] => True
  | [_] => True
  | a :: b :: K => ¬ (a = 1 ∧ b = 1) ∧ NoTwoK (b :: K)
theorem noTwo_iff : ∀ P : List APart, NoTwo P ↔ NoTwoK (P.map (·.kind))
  | [] => Iff.rfl
  | [_] => Iff.rfl
  | p :: q :: P => by
    have := noTwo_iff (q :: P)
    simp only [NoTwo, List.map_cons, NoTwoK] at this ⊢
    rw [this]
theorem noTwoK_snoc : ∀ (K : List Nat) (k : Nat), NoTwoK K → (K.getLast? = some 1 → k ≠ 1) → NoTwoK (K ++ [k])
  | [], k, _, _ => trivial
  | [a], k, _, h => ⟨fun e => h (by rw [e.1]; rfl) e.2, trivial⟩
  | a :: b :: K, k, h, hl => ⟨h.1, noTwoK_snoc (b :: K) k h.2 (by simpa using hl)⟩
theorem NoTwo.snoc {P : List APart} (h : NoTwo P) (p : APart) (hl : p.kind = 1 → ∀ q, P.getLast? = some q → q.kind ≠ 1) : NoTwo (P ++ [p]) := by
  rw [noTwo_iff] at h ⊢
  rw [List.map_append]
  refine noTwoK_snoc _ _ h fun e e1 => ?_
  rw [List.getLast?_map] at e
  cases hq : P.getLast? with
  | none => rw [hq] at e; cases e
  | some q =>
    rw [hq] at e
    simp only [Option.map_some, Option.some.injEq] at e
    exact hl e1 q hq e
theorem NoTwo.same {Q : List APart} {x y : APart} (h : NoTwo (Q ++ [x])) (e : y.kind = x.kind) : NoTwo (Q ++ [y]) := by
  rw [noTwo_iff] at h ⊢
  rw [List.map_append] at h ⊢
  simpa [e] using h

theorem TextV.snoc {l : List UInt8} : ∀ {c n : UInt8}, TextV l c → PlainA c → (c.toNat = 36 → ¬ SpecialA n) → TextV (l ++ [c]) n := by
  induction l with
  | nil => intro c n _ hp hs; exact ⟨hp, hs, trivial⟩
  | cons d l ih =>
    intro c n h hp hs
    refine ⟨h.1, fun e => ?_, ih h.2.2 hp hs⟩
    cases l with
    | nil => exact h.2.1 e
    | cons d' l => exact h.2.1 e

/-- What holds of a word's parts while it is read. -/
structure InvA (L : List UInt8) (i : Nat) (P : List APart) (j : Bool) : Prop where
  parts : ∀ p ∈ P, PartV p
  two : NoTwo P
  place : ∀ p ∈ P, p.kind = 1 → p.text.headD 0 = L.getD p.place 0
  last : ∀ q, P.getLast? = some q → q.kind = 1 → j = true ∧ TextV q.text (L.getD i 0)
/-- The last part is no text as it is. -/
def NoText (P : List APart) : Prop := ∀ q, P.getLast? = some q → q.kind ≠ 1

theorem InvA.nil (L : List UInt8) (i : Nat) (j : Bool) : InvA L i [] j := ⟨fun _ h => (nomatch h), trivial, fun _ h => (nomatch h), fun _ h => (nomatch h)⟩
theorem InvA.to {L : List UInt8} {i i' : Nat} {P : List APart} {j j' : Bool} (h : InvA L i P j) (hn : NoText P) : InvA L i' P j' := ⟨h.parts, h.two, h.place, fun q hq e => absurd e (hn q hq)⟩
theorem InvA.part {L : List UInt8} {i i' : Nat} {P : List APart} {j j' : Bool} (h : InvA L i P j) (p : APart) (hp : PartV p) (hk : p.kind ≠ 1) : InvA L i' (P ++ [p]) j' ∧ NoText (P ++ [p]) := by
  have hn : NoText (P ++ [p]) := fun q hq => by
    rw [List.getLast?_concat] at hq
    cases hq
    exact hk
  refine ⟨⟨fun x hx => ?_, h.two.snoc p (fun e => absurd e hk), fun x hx hx1 => ?_, fun q hq e => absurd e (hn q hq)⟩, hn⟩
  · rcases List.mem_append.1 hx with hx | hx
    · exact h.parts x hx
    · rw [List.mem_singleton] at hx
      exact hx ▸ hp
  · rcases List.mem_append.1 hx with hx | hx
    · exact h.place x hx hx1
    · rw [List.mem_singleton] at hx
      subst hx
      exact absurd hx1 hk
/-- Dead bytes. -/
theorem InvA.dead {L : List UInt8} {i i' n : Nat} {P : List APart} {j j' : Bool} (h : InvA L i P j) (s : List UInt8) : InvA L i' (bytesA P j 2 n s) j' ∧ NoText (bytesA P j 2 n s) := by
  have hnew : InvA L i' (P ++ [⟨2, n, 0, false, s⟩]) j' ∧ NoText (P ++ [⟨2, n, 0, false, s⟩]) := h.part _ (.inr (.inl ⟨rfl, rfl, rfl⟩)) (by simp)
  unfold bytesA
  split
  · rename_i q hq
    split
    · rename_i hc
      obtain ⟨Q, rfl⟩ := List.getLast?_eq_some_iff.1 hq
      rw [List.dropLast_concat]
      have hqv := h.parts q (by simp)
      have hq2 : PartV { q with text := q.text ++ s } := by
        have hk := hc.2
        rcases hqv with ⟨e, _⟩ | ⟨e, h1, h2⟩ | ⟨e, _⟩ | ⟨e, _⟩ | ⟨e, _⟩ | ⟨e, _⟩
        · omega
        · exact .inr (.inl ⟨e, h1, h2⟩)
        all_goals omega
      have hn : NoText (Q ++ [{ q with text := q.text ++ s }]) := fun x hx => by
        rw [List.getLast?_concat] at hx
        cases hx
        show q.kind ≠ 1
        omega
      refine ⟨⟨fun x hx => ?_, h.two.same rfl, fun x hx hx1 => ?_, fun x hx e => absurd e (hn x hx)⟩, hn⟩
      · rcases List.mem_append.1 hx with hx | hx
        · exact h.parts x (by simp [hx])
        · rw [List.mem_singleton] at hx
          exact hx ▸ hq2
      · rcases List.mem_append.1 hx with hx | hx
        · exact h.place x (by simp [hx]) hx1
        · rw [List.mem_singleton] at hx
          subst hx
          exfalso
          have : q.kind = 1 := hx1
          omega
    · exact hnew
  · exact hnew
/-- A byte as it is. -/
theorem InvA.text {L : List UInt8} {i : Nat} {P : List APart} {j : Bool} (h : InvA L i P j) (hp : PlainA (L.getD i 0)) (hs : (L.getD i 0).toNat = 36 → ¬ SpecialA (L.getD (i + 1) 0)) : InvA L (i + 1) (bytesA P j 1 i [L.getD i 0]) true := by
  have hnew : (∀ q, P.getLast? = some q → q.kind ≠ 1) → InvA L (i + 1) (P ++ [⟨1, i, 0, false, [L.getD i 0]⟩]) true := fun hl => by
    have hpv : PartV ⟨1, i, 0, false, [L.getD i 0]⟩ := .inl ⟨rfl, rfl, rfl, by simp, L.getD (i + 1) 0, hp, hs, trivial⟩
    refine ⟨fun x hx => ?_, h.two.snoc _ (fun _ => hl), fun x hx hx1 => ?_, fun q hq e => ?_⟩
    · rcases List.mem_append.1 hx with hx | hx
      · exact h.parts x hx
      · rw [List.mem_singleton] at hx
        exact hx ▸ hpv
    · rcases List.mem_append.1 hx with hx | hx
      · exact h.place x hx hx1
      · rw [List.mem_singleton] at hx
        subst hx
        rfl
    · rw [List.getLast?_concat] at hq
      cases hq
      exact ⟨rfl, hp, hs, trivial⟩
  unfold bytesA
  split
  · rename_i q hq
    split
    · rename_i hc
      obtain ⟨Q, rfl⟩ := List.getLast?_eq_some_iff.1 hq
      rw [List.dropLast_concat]
      have hlast := h.last q hq hc.2
      have htv : TextV (q.text ++ [L.getD i 0]) (L.getD (i + 1) 0) := hlast.2.snoc hp hs
      have hqv := h.parts q (by simp)
      have hq2 : PartV { q with text := q.text ++ [L.getD i 0] } := by
        rcases hqv with ⟨e, h1, h2, h3, _⟩ | ⟨e, _⟩ | ⟨e, _⟩ | ⟨e, _⟩ | ⟨e, _⟩ | ⟨e, _⟩
        · exact .inl ⟨e, h1, h2, by simp, _, htv⟩
        all_goals omega
      have hne : q.text ≠ [] := by
        rcases hqv with ⟨e, h1, h2, h3, _⟩ | ⟨e, _⟩ | ⟨e, _⟩ | ⟨e, _⟩ | ⟨e, _⟩ | ⟨e, _⟩
        · exact h3
        all_goals omega
      refine ⟨fun x hx => ?_, h.two.same rfl, fun x hx hx1 => ?_, fun x hx e => ?_⟩
      · rcases List.mem_append.1 hx with hx | hx
        · exact h.parts x (by simp [hx])
        · rw [List.mem_singleton] at hx
          exact hx ▸ hq2
      · rcases List.mem_append.1 hx with hx | hx
        · exact h.place x (by simp [hx]) hx1
        · rw [List.mem_singleton] at hx
          subst hx
          have h0 := h.place q (by simp) hc.2
          show (q.text ++ [L.getD i 0]).headD 0 = L.getD q.place 0
          rw [← h0]
          cases hqt : q.text with
          | nil => exact absurd hqt hne
          | cons d l => rfl
      · rw [List.getLast?_concat] at hx
        cases hx
        exact ⟨rfl, htv⟩
    · rename_i hc
      refine hnew fun x hx e => ?_
      rw [hq] at hx
      cases hx
      exact hc ⟨(h.last q hq e).1, e⟩
  · rename_i hq
    exact hnew fun x hx => by rw [hq] at hx; cases hx

theorem nameBytes_nameB (l : List UInt8) (h : nameB l = true) : NameBytes l ∧ l.length ≤ 20 := by
  cases l with
  | nil => cases h
  | cons c l =>
    rw [nameB] at h
    simp only [Bool.and_eq_true, decide_eq_true_eq] at h
    exact ⟨⟨by simp, h.1.2, List.all_eq_true.1 h.2⟩, by simp only [List.length_cons]; omega⟩

theorem begin_none (L : List UInt8) (i : Nat) (h : runName (L.drop i) = []) : isBegin (L.getD i 0) = false := by
  cases hd : L.drop i with
  | nil =>
    have := congrArg List.length hd
    rw [List.length_drop] at this
    simp only [List.length_nil] at this
    rw [List.getD_eq_getElem?_getD, List.getElem?_eq_none (by omega)]
    rfl
  | cons c m =>
    obtain ⟨h1, h2, h3⟩ := drop_head hd
    rw [h2]
    rw [hd, runName] at h
    cases hb : isBegin c with
    | false => rfl
    | true =>
      rw [hb, if_pos rfl, List.takeWhile_cons_of_pos (by rw [isGo, hb]; rfl)] at h
      cases h

theorem dollarA_valid (L : List UInt8) (q : Bool) (i : Nat) (P : List APart) (j : Bool) (i' : Nat) (P' : List APart) (j' : Bool) (h36 : (L.getD i 0).toNat = 36) (hI : InvA L i P j) (h : dollarA L q i P j = .ok (i', P', j')) :
    InvA L i' P' j' ∧ (q = true → NoText P') := by
  unfold dollarA at h
  simp only [] at h
  split at h
  · rename_i hne
    split at h
    · rename_i hn
      cases h
      have := hI.part (i' := i + 1 + (runName (L.drop (i + 1))).length) (j' := false) ⟨3, i, 0, q, runName (L.drop (i + 1))⟩ (.inr (.inr (.inl ⟨rfl, rfl, .inr (nameBytes_nameB _ hn)⟩))) (by simp)
      exact ⟨this.1, fun _ => this.2⟩
    · cases h
  rename_i hne
  have hb := begin_none L (i + 1) (by simpa using hne)
  split at h
  · split at h
    · cases h
    · rename_i n hn
      split at h
      · rename_i hnm
        cases h
        have := hI.part (i' := i + 3 + n) (j' := false) ⟨3, i, 0, q, subs L (i + 2) (i + 2 + n)⟩ (.inr (.inr (.inl ⟨rfl, rfl, .inr (nameBytes_nameB _ hnm)⟩))) (by simp)
        exact ⟨this.1, fun _ => this.2⟩
      · cases h
  rename_i h123
  split at h
  · cases h
    have := hI.part (i' := i + 2) (j' := false) ⟨3, i, 0, q, [42]⟩ (.inr (.inr (.inl ⟨rfl, rfl, .inl rfl⟩))) (by simp)
    exact ⟨this.1, fun _ => this.2⟩
  rename_i h42
  split at h
  · rename_i hd
    cases h
    have := hI.part (i' := i + 2) (j' := false) ⟨5, i, (L.getD (i + 1) 0).toNat - 48, q, []⟩ (.inr (.inr (.inr (.inr (.inl ⟨rfl, by dsimp only; omega, by dsimp only; omega, rfl⟩))))) (by simp)
    exact ⟨this.1, fun _ => this.2⟩
  rename_i hd
  split at h
  · cases h
    have := hI.part (i' := i + 2) (j' := false) ⟨6, i, 0, q, []⟩ (.inr (.inr (.inr (.inr (.inr ⟨rfl, rfl, rfl⟩))))) (by simp)
    exact ⟨this.1, fun _ => this.2⟩
  rename_i h35
  split at h
  · split at h
    · cases h
    · rename_i t ht
      cases h
      have hv := scan_valid L _ _ _ ht
      have := hI.part (i' := t + 1) (j' := false) ⟨4, i, 0, q, subs L (i + 2) t⟩ (.inr (.inr (.inr (.inl ⟨rfl, rfl, by rw [show ((i : Int) + 2) = ((i + 2 : Nat) : Int) from rfl]; exact hv⟩)))) (by simp)
      exact ⟨this.1, fun _ => this.2⟩
  rename_i h40
  cases h
  cases q with
  | true =>
    have := hI.dead (i' := i + 1) (n := i) (j' := true) [36]
    exact ⟨this.1, fun _ => this.2⟩
  | false =>
    have hc : L.getD i 0 = 36 := UInt8.toNat_inj.1 (h36.trans rfl)
    have hp : PlainA (L.getD i 0) := by rw [hc]; unfold PlainA; decide
    have := hI.text hp (fun _ e => by
      unfold SpecialA at e
      rw [hb] at e
      rcases e with e | e | e | e | e | e
      · cases e
      · exact h123 e
      · exact h42 e
      · exact hd e
      · exact h35 e
      · exact h40 e)
    rw [hc] at this
    exact ⟨this, fun e => by cases e⟩

theorem doubleA_valid (L : List UInt8) (b : Nat) : ∀ (f i : Nat) (P : List APart) (j : Bool) (i' : Nat) (P' : List APart) (j' : Bool), InvA L i P j → NoText P → doubleA L b f i P j = .ok (i', P', j') → InvA L i' P' j' ∧ NoText P' := by
  intro f
  induction f with
  | zero => intro i P j i' P' j' _ _ h; cases h
  | succ f ih =>
    intro i P j i' P' j' hI hn h
    simp only [doubleA] at h
    split at h
    · cases h
    rename_i hlt
    split at h
    · cases h
      exact ⟨hI.to hn, hn⟩
    split at h
    · have := hI.dead (i' := i + 2) (n := i) (j' := true) (if [36, 34, 92].contains (L.getD (i + 1) 0).toNat then [L.getD (i + 1) 0] else [L.getD i 0, L.getD (i + 1) 0])
      exact ih _ _ _ _ _ _ this.1 this.2 h
    split at h
    · rename_i h36
      split at h
      · cases h
      · rename_i i2 P2 j2 hd
        have := dollarA_valid L true i P j i2 P2 j2 h36 hI hd
        exact ih _ _ _ _ _ _ this.1 (this.2 rfl) h
    · have := hI.dead (i' := i + 1) (n := i) (j' := true) [L.getD i 0]
      exact ih _ _ _ _ _ _ this.1 this.2 h

theorem wordA_valid (L : List UInt8) : ∀ (f i : Nat) (P : List APart) (j : Bool) (i' : Nat) (P' : List APart), InvA L i P j → wordA L f i P j = .ok (i', P') → (∀ p ∈ P', PartV p) ∧ NoTwo P' ∧ ∀ p ∈ P', p.kind = 1 → p.text.headD 0 = L.getD p.place 0 := by
  intro f
  induction f with
  | zero => intro i P j i' P' hI h; cases h; exact ⟨hI.parts, hI.two, hI.place⟩
  | succ f ih =>
    intro i P j i' P' hI h
    simp only [wordA] at h
    split at h
    · cases h; exact ⟨hI.parts, hI.two, hI.place⟩
    rename_i hlt
    split at h
    · cases h; exact ⟨hI.parts, hI.two, hI.place⟩
    rename_i hen
    split at h
    · exact ih _ _ _ _ _ (hI.part _ (.inr (.inl ⟨rfl, rfl, rfl⟩)) (by simp)).1 h
    rename_i h92
    split at h
    · split at h
      · cases h
      · exact ih _ _ _ _ _ (hI.part _ (.inr (.inl ⟨rfl, rfl, rfl⟩)) (by simp)).1 h
    rename_i h39
    split at h
    · split at h
      · cases h
      · rename_i i2 P2 j2 hd
        have h0 := hI.part (i' := i + 1) (j' := true) ⟨2, i, 0, false, []⟩ (.inr (.inl ⟨rfl, rfl, rfl⟩)) (by simp)
        exact ih _ _ _ _ _ (doubleA_valid L i _ _ _ _ _ _ _ h0.1 h0.2 hd).1 h
    rename_i h34
    split at h
    · rename_i h36
      split at h
      · cases h
      · rename_i i2 P2 j2 hd
        exact ih _ _ _ _ _ (dollarA_valid L false i P j i2 P2 j2 h36 hI hd).1 h
    · rename_i h36
      exact ih _ _ _ _ _ (hI.text ⟨by simpa using hen, h92, h39, h34⟩ (fun e => absurd e h36)) h

/-- What holds of a token. -/
def TokVA (t : ATok) : Prop :=
  (t.kind ≤ 12 ∧ t.parts = []) ∨ (t.kind = 13 ∧ t.parts ≠ [] ∧ (∀ p ∈ t.parts, PartV p) ∧ NoTwo t.parts ∧ ∀ p, t.parts.head? = some p → p.kind = 1 → (p.text.headD 0).toNat ≠ 35)
def ValidA : List ATok → Prop
  | [] => False
  | [t] => t.kind = 0 ∧ TokVA t
  | t :: u :: ts => t.kind ≠ 0 ∧ TokVA t ∧ ValidA (u :: ts)

theorem tokenA_valid (L : List UInt8) (i : Nat) (t : ATok) (n : Nat) (hi : i ≤ L.length) (hfront : ∀ c m, L.drop i = c :: m → ¬ (c.toNat = 32 ∨ c.toNat = 9 ∨ c.toNat = 35)) (h : tokenA L i = .ok (t, n)) : TokVA t := by
  have hok := tokenA_ok L i t n hi hfront h
  unfold tokenA at h
  split at h
  · cases h
    exact .inl ⟨Nat.zero_le _, rfl⟩
  rename_i hlt
  simp only [] at h
  split at h
  · cases h
    refine .inl ⟨?_, rfl⟩
    rcases bestA_is (L.drop i) with e | ⟨e, _, _⟩
    · rw [e]; exact Nat.zero_le _
    · have := (List.getElem?_eq_some_iff.1 e).1
      have h13 : opsA.length = 13 := rfl
      show (bestOp (L.drop i) opsA 0 [] 0).2 ≤ 12
      omega
  split at h
  · cases h
  split at h
  · cases h
  · rename_i k P hw
    cases h
    obtain ⟨v1, v2, v3⟩ := wordA_valid L _ _ _ _ _ _ (InvA.nil L i false) hw
    obtain ⟨o1, o2, o3, o4, t1, t2, t3, t4⟩ := hok
    have hne : P ≠ [] := by
      intro e
      have := t1.1 rfl
      rw [e] at this
      simp at this
    refine .inr ⟨rfl, hne, v1, v2, fun p hp e => ?_⟩
    have hmem : p ∈ P := List.mem_of_mem_head? (by rw [hp]; rfl)
    have hpl := t2 p (by rw [← List.head?_eq_getElem?]; exact hp)
    rw [v3 p hmem e, hpl]
    cases hd : L.drop i with
    | nil =>
      have := congrArg List.length hd
      rw [List.length_drop] at this
      simp only [List.length_nil] at this
      omega
    | cons c m =>
      obtain ⟨d1, d2, d3⟩ := drop_head hd
      have := hfront c m hd
      show (L.getD i 0).toNat ≠ 35
      rw [d2]
      omega

theorem lexA_valid (L : List UInt8) : ∀ (f k : Nat) (ts : List ATok), k ≤ L.length → L.length - k < f → lexA L f k = .ok ts → ValidA ts := by
  intro f
  induction f with
  | zero => intro k ts _ h; omega
  | succ f ih =>
    intro k ts hk hf h
    rw [lexA] at h
    have hs := skipN_le false (L.drop k)
    have hfront := skip_front false (L.drop k)
    rw [List.length_drop] at hs
    rw [List.drop_drop] at hfront
    obtain ⟨j, hj⟩ : ∃ j, k + skipN false (L.drop k) = j := ⟨_, rfl⟩
    rw [hj] at h hfront
    cases ht : tokenA L j with
    | error e => rw [ht] at h; cases h
    | ok y =>
      obtain ⟨t, n⟩ := y
      rw [ht] at h
      obtain ⟨n1, n2, n3, n4, n5⟩ := tokenA_ok L j t n (by omega) hfront ht
      have hv := tokenA_valid L j t n (by omega) hfront ht
      by_cases hk0 : t.kind = 0
      · simp only [hk0, if_true] at h
        cases h
        exact ⟨hk0, hv⟩
      · simp only [hk0, if_false] at h
        have hn1 := n4 hk0
        cases hl : lexA L f n with
        | error e => rw [hl] at h; cases h
        | ok us =>
          rw [hl] at h
          cases h
          have := ih n us n3 (by omega) hl
          cases us with
          | nil => exact absurd this id
          | cons u us => exact ⟨hk0, hv, this⟩

end Go.Proofs.YtdadgodjjfgmfaaDoor
