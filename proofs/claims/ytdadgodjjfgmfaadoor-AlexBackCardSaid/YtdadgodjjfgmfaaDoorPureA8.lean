/- A source of dialect A's tokens is read as these tokens. No program stands in it. -/
import Derived.Test.YtdadgodjjfgmfaaDoorPureA7
namespace Go.Proofs.YtdadgodjjfgmfaaDoor
open Go Go.RowKit

/-- The same tokens, but for places, and texts parted in another way. -/
def AlikeL : List ATok → List ATok → Prop
  | [], [] => True
  | t :: ts, u :: us => t.kind = u.kind ∧ (∀ acc, foldK acc u.parts = foldK acc t.parts) ∧ AlikeL ts us
  | _, _ => False

theorem ends_list (c : UInt8) (h : endsA c = false) : ∀ n ∈ ([32, 9, 10, 59, 38, 124, 40, 41, 60, 62] : List Nat), c.toNat ≠ n := by
  intro n hn e
  unfold endsA at h
  rw [e] at h
  have : ([32, 9, 10, 59, 38, 124, 40, 41, 60, 62] : List Nat).contains n = true := by simpa using hn
  rw [this] at h
  cases h

theorem front_plain (c : UInt8) (m : List UInt8) (h : endsA c = false) (h35 : c.toNat ≠ 35) : skipN false (c :: m) = 0 ∧ bestOp (c :: m) opsA 0 [] 0 = ([], 0) ∧ c.toNat ≠ 38 := by
  have hl := ends_list c h
  refine ⟨?_, ?_, hl 38 (by decide)⟩
  · rw [skipN, if_neg (by have := hl 32 (by decide); have := hl 9 (by decide); omega), if_neg h35]
  · rcases bestOp_mem (c :: m) opsA 0 [] 0 with e | ⟨j, h1, h2, h3, h4⟩
    · exact e
    · exfalso
      have hall : ∀ o ∈ opsA, o = [] ∨ endsA (o.headD 0) = true := by decide
      rcases hall _ (List.mem_of_getElem? h1) with e | e
      · rw [e] at h4
        simp at h4
      · cases ho : (bestOp (c :: m) opsA 0 [] 0).1 with
        | nil => rw [ho] at h4; simp at h4
        | cons d o =>
          rw [ho] at h3 e
          simp only [Lib.hasPrefix, List.isPrefixOf, Bool.and_eq_true, beq_iff_eq] at h3
          rw [List.headD_cons, h3.1, h] at e
          cases e

theorem part_first (p : APart) (hp : PartV p) (h35 : p.kind = 1 → (p.text.headD 0).toNat ≠ 35) : ∃ c m, shownA p = c :: m ∧ endsA c = false ∧ c.toNat ≠ 35 := by
  by_cases h1 : p.kind = 1
  · rcases hp with ⟨e, hn, hq, hne, n, hv⟩ | ⟨e, _⟩ | ⟨e, _⟩ | ⟨e, _⟩ | ⟨e, _⟩ | ⟨e, _⟩
    · cases ht : p.text with
      | nil => exact absurd ht hne
      | cons c l =>
        have h := h35 h1
        rw [ht] at h hv
        exact ⟨c, l, by unfold shownA; rw [if_pos h1, ht], hv.1.1, h⟩
    all_goals omega
  · obtain ⟨c, m, e1, e2⟩ := shown_head p hp h1
    refine ⟨c, m, e1, ?_⟩
    rcases e2 with rfl | rfl | rfl <;> decide

theorem word_front (P : List APart) (hne : P ≠ []) (hV : ∀ p ∈ P, PartV p) (hF : ∀ p, P.head? = some p → p.kind = 1 → (p.text.headD 0).toNat ≠ 35) : ∃ c m, wordP P = c :: m ∧ endsA c = false ∧ c.toNat ≠ 35 := by
  cases P with
  | nil => exact absurd rfl hne
  | cons p P =>
    obtain ⟨c, m, e1, e2, e3⟩ := part_first p (hV p (by simp)) (hF p rfl)
    exact ⟨c, m ++ wordP P, by simp [wordP, e1], e2, e3⟩

theorem op_front (k : Nat) (h1 : 1 ≤ k) (h2 : k ≤ 12) (tail : List UInt8) (ht : TailOk tail) : skipN false (opsA.getD k [] ++ tail) = 0 ∧ bestOp (opsA.getD k [] ++ tail) opsA 0 [] 0 = (opsA.getD k [], k) ∧ opsA.getD k [] ≠ [] := by
  have hk : k = 1 ∨ k = 2 ∨ k = 3 ∨ k = 4 ∨ k = 5 ∨ k = 6 ∨ k = 7 ∨ k = 8 ∨ k = 9 ∨ k = 10 ∨ k = 11 ∨ k = 12 := by omega
  rcases ht with rfl | ⟨m, rfl⟩
  · rcases hk with rfl | rfl | rfl | rfl | rfl | rfl | rfl | rfl | rfl | rfl | rfl | rfl <;> exact ⟨by decide, by decide, by decide⟩
  · rcases hk with rfl | rfl | rfl | rfl | rfl | rfl | rfl | rfl | rfl | rfl | rfl | rfl <;> exact ⟨by simp [opsA, skipN], by simp [bestOp, opsA, Lib.hasPrefix, List.isPrefixOf], by decide⟩

/-- A token, read. -/
theorem token_read (L tail : List UInt8) (i : Nat) (t : ATok) (hv : TokVA t) (hk : t.kind ≠ 0) (ht : TailOk tail) (hd : L.drop i = tokP t ++ tail) :
    skipN false (L.drop i) = 0 ∧ ∃ Q, tokenA L i = .ok (⟨t.kind, i, Q⟩, i + (tokP t).length) ∧ (∀ acc, foldK acc Q = foldK acc t.parts) ∧ 1 ≤ (tokP t).length := by
  rcases hv with ⟨h12, hp⟩ | ⟨h13, hne, hV, hN, hF⟩
  · have htp : tokP t = opsA.getD t.kind [] := by unfold tokP; rw [if_neg (by omega)]
    rw [htp] at hd ⊢
    obtain ⟨o1, o2, o3⟩ := op_front t.kind (by omega) h12 tail ht
    have hlen : 1 ≤ (opsA.getD t.kind []).length := by
      cases ho : opsA.getD t.kind [] with
      | nil => exact absurd ho o3
      | cons _ _ => simp
    have hlt : i < L.length := by
      have := congrArg List.length hd
      rw [List.length_drop, List.length_append] at this
      omega
    rw [hd]
    refine ⟨o1, [], ?_, fun acc => by rw [hp], hlen⟩
    unfold tokenA
    rw [if_neg (by omega), hd]
    simp only [o2]
    rw [if_pos o3]
  · have htp : tokP t = wordP t.parts := by unfold tokP; rw [if_pos h13]
    rw [htp] at hd ⊢
    obtain ⟨c, m, e1, e2, e3⟩ := word_front t.parts hne hV hF
    have hd' := hd
    rw [e1] at hd'
    obtain ⟨a1, a2, a3⟩ := drop_head hd'
    obtain ⟨f1, f2, f3⟩ := front_plain c (m ++ tail) e2 e3
    obtain ⟨Q, w1, w2⟩ := word_read L tail ht t.parts [] (L.length + 1) i false hV hN (fun e => by cases e) hd (by omega)
    rw [hd']
    refine ⟨f1, Q, ?_, w2, by rw [e1]; simp⟩
    unfold tokenA
    rw [if_neg (by omega), hd']
    simp only [show bestOp (c :: m ++ tail) opsA 0 [] 0 = ([], 0) from f2]
    rw [if_neg (by simp), a2, if_neg f3, w1, h13]
    simp

/-- All tokens, read. -/
theorem lex_read (L : List UInt8) : ∀ (ts : List ATok) (first : Bool) (k f : Nat), ValidA ts → L.drop k = printA first ts → L.length - k < f → ∃ us, lexA L f k = .ok us ∧ AlikeL ts us := by
  intro ts
  induction ts with
  | nil => intro first k f h; exact absurd h id
  | cons t ts ih =>
    intro first k f hv hd hf
    obtain ⟨f, rfl⟩ : ∃ g, f = g + 1 := ⟨f - 1, by omega⟩
    cases ts with
    | nil =>
      obtain ⟨h0, hva⟩ := hv
      have htp : tokP t = [] := by
        unfold tokP
        rw [h0]
        rfl
      have hp0 : t.parts = [] := by
        rcases hva with ⟨_, e⟩ | ⟨e, _⟩
        · exact e
        · omega
      have hnil : L.drop k = [] := by
        rw [hd, printA, htp, if_neg (by rw [h0]; simp)]
        rfl
      have hge : L.length ≤ k := by
        have := congrArg List.length hnil
        rw [List.length_drop] at this
        simp only [List.length_nil] at this
        omega
      have htk : tokenA L k = .ok (⟨0, k, []⟩, k) := by
        unfold tokenA
        rw [if_pos hge]
      refine ⟨[⟨0, k, []⟩], ?_, h0, fun acc => by rw [hp0], trivial⟩
      rw [lexA, hnil, show skipN false [] = 0 from rfl, Nat.add_zero, htk]
      simp only [if_true]
    | cons u us =>
      obtain ⟨h0, hva, hvs⟩ := hv
      have htail : TailOk (printA false (u :: us)) := by
        by_cases hu : u.kind = 0
        · left
          cases us with
          | nil =>
            rw [printA, if_neg (by rw [hu]; simp)]
            unfold tokP
            rw [hu]
            rfl
          | cons w ws => exact absurd hu hvs.1
        · right
          rw [printA, if_pos ⟨rfl, hu⟩]
          exact ⟨_, rfl⟩
      obtain ⟨d, hdd, hsk⟩ : ∃ d, L.drop (k + d) = tokP t ++ printA false (u :: us) ∧ skipN false (L.drop k) = d + skipN false (L.drop (k + d)) := by
        cases first with
        | true =>
          refine ⟨0, ?_, by simp⟩
          rw [Nat.add_zero, hd, printA, if_neg (by simp)]
          rfl
        | false =>
          have hd2 : L.drop k = 32 :: (tokP t ++ printA false (u :: us)) := by
            rw [hd, printA, if_pos ⟨rfl, h0⟩]
            rfl
          obtain ⟨a1, a2, a3⟩ := drop_head hd2
          refine ⟨1, a3, ?_⟩
          rw [hd2, a3, skipN, if_pos (by decide)]
          omega
      obtain ⟨s1, Q, s2, s3, s4⟩ := token_read L _ (k + d) t hva h0 htail hdd
      have hlt : k + d < L.length := by
        have := congrArg List.length hdd
        rw [List.length_drop, List.length_append] at this
        omega
      obtain ⟨vs, v1, v2⟩ := ih false (k + d + (tokP t).length) f hvs (drop_more hdd) (by omega)
      refine ⟨⟨t.kind, k + d, Q⟩ :: vs, ?_, rfl, s3, v2⟩
      rw [lexA, hsk, s1, Nat.add_zero, s2]
      simp only [h0, if_false, v1]

/-- A source of Lex's tokens is read as these. -/
theorem lexA_print (L : List UInt8) (ts : List ATok) (h : lexA L (L.length + 1) 0 = .ok ts) : ∃ us, lexA (printA true ts) ((printA true ts).length + 1) 0 = .ok us ∧ AlikeL ts us :=
  lex_read (printA true ts) ts true 0 ((printA true ts).length + 1) (lexA_valid L _ 0 ts (Nat.zero_le _) (by omega) h) rfl (by omega)

end Go.Proofs.YtdadgodjjfgmfaaDoor
