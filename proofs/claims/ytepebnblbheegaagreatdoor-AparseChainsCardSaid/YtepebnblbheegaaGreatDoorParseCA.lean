/- Dialect A: what sources of commands with |, &&, || and ! are parsed as. No program stands in it. -/
import Derived.Test.YtepebnblbheegaaGreatDoorZH
namespace Go.Proofs.YtepebnblbheegaaGreatDoor
open Go Go.RowKit
def oneC : Prog := newP 21 0 [] [litP [99]]
def notP (bang : Bool) (p : Prog) : Prog := if bang = true then newP 27 0 [] [p] else p
def pOf (bang : Bool) (n : Nat) : Prog := notP bang (pipeOf (List.replicate n oneC))
def cOf (k : Nat) (chain p : Prog) : Prog := if k = 0 then p else newP (k : Int) 0 [] [chain, p]
section
variable (nots : Nat → Bool)
def srcC : Nat → List Nat → List UInt8
 | _, [] => []
 | i, 0 :: ops => [32, 124, 32, 99] ++ srcC (i + 1) ops
 | i, (o + 1) :: ops => (if o = 0 then [32, 38, 38, 32] else [32, 124, 124, 32]) ++ ((if nots (i + 1) = true then [33, 32] else []) ++ (99 :: srcC (i + 1) ops))
def tokC : Nat → List Nat → List ATok
 | _, [] => endT
 | i, 0 :: ops => ⟨6, 0, []⟩ :: wordT [99] :: tokC (i + 1) ops
 | i, (o + 1) :: ops => ⟨if o = 0 then 4 else 5, 0, []⟩ :: ((if nots (i + 1) = true then [wordT [33]] else []) ++ (wordT [99] :: tokC (i + 1) ops))
def wantC : Nat → List Nat → Nat → Prog → Bool → Nat → Prog
 | _, [], k, chain, bang, n => cOf k chain (pOf bang n)
 | i, 0 :: ops, k, chain, bang, n => wantC (i + 1) ops k chain bang (n + 1)
 | i, (o + 1) :: ops, k, chain, bang, n => wantC (i + 1) ops (if o = 0 then 25 else 26) (cOf k chain (pOf bang n)) (nots (i + 1)) 1
end
theorem plain_c : ∀ c : UInt8, c = 99 ∨ c = 33 → PlainC c := by
 intro c h
 unfold PlainC PlainA
 rcases h with rfl | rfl <;> exact ⟨⟨by decide, by decide, by decide, by decide⟩, by decide⟩
theorem Lx.oneC {S : List UInt8} {T : List ATok} (c : UInt8) (hc : c = 99 ∨ c = 33) (h : Lx S T) (hS : Stop S) : Lx (c :: S) (wordT [c] :: T) := by
 have := h.plain (l := [c]) (by simp) (by intro x hx; rw [List.mem_singleton] at hx; subst hx; exact plain_c _ hc) (by rcases hc with rfl | rfl <;> decide) hS
 simpa using this
theorem srcC_stop (nots : Nat → Bool) (i : Nat) (ops : List Nat) : Stop (srcC nots i ops) := by
 match ops with
 | [] => exact .inl rfl
 | 0 :: ops => exact .inr ⟨32, _, rfl, by decide⟩
 | (o + 1) :: ops =>
  rw [srcC]
  by_cases h : o = 0
  ·rw [if_pos h]; exact .inr ⟨32, _, rfl, by decide⟩
  ·rw [if_neg h]; exact .inr ⟨32, _, rfl, by decide⟩
theorem Lx.chain (nots : Nat → Bool) : ∀ (ops : List Nat) (i : Nat), Lx (srcC nots i ops) (tokC nots i ops)
 | [], i => Lx.nil
 | 0 :: ops, i => by
  have ih := Lx.chain nots ops (i + 1)
  exact ((((ih.oneC 99 (.inl rfl) (srcC_stop _ _ _)).blank).op' 6 (by omega) (by omega) (.inr ⟨_, rfl⟩)).blank)
 | (o + 1) :: ops, i => by
  have ih := (Lx.chain nots ops (i + 1)).oneC 99 (.inl rfl) (srcC_stop _ _ _)
  have h1 : Lx ((if nots (i + 1) = true then [33, 32] else []) ++ (99 :: srcC nots (i + 1) ops)) ((if nots (i + 1) = true then [wordT [33]] else []) ++ (wordT [99] :: tokC nots (i + 1) ops)) := by
   by_cases h : nots (i + 1) = true
   ·rw [if_pos h, if_pos h]
    exact ih.blank.oneC 33 (.inr rfl) (.inr ⟨32, _, rfl, by decide⟩)
   ·rw [if_neg h, if_neg h]
    exact ih
  rw [srcC, tokC]
  by_cases h : o = 0
  ·rw [if_pos h, if_pos h]
   exact (h1.blank.op' 4 (by omega) (by omega) (.inr ⟨_, rfl⟩)).blank
  ·rw [if_neg h, if_neg h]
   exact (h1.blank.op' 5 (by omega) (by omega) (.inr ⟨_, rfl⟩)).blank
theorem tokC_ne (nots : Nat → Bool) (i : Nat) (ops : List Nat) : tokC nots i ops ≠ [] := by
 match ops with
 | [] => simp [tokC, endT]
 | 0 :: ops => simp [tokC]
 | (o + 1) :: ops => simp [tokC]
theorem tokC_no (nots : Nat → Bool) (i : Nat) (ops : List Nat) (h : ∀ o ∈ ops, o < 3) : turningS (tokC nots i ops) = false ∧ isS (tokC nots i ops) [13] = false ∧ isS (tokC nots i ops) [7] = false := by
 match ops with
 | [] => exact ⟨rfl, rfl, rfl⟩
 | 0 :: ops => exact ⟨rfl, rfl, rfl⟩
 | (o + 1) :: ops =>
  rw [tokC]
  by_cases h : o = 0
  ·rw [if_pos h]; exact ⟨rfl, rfl, rfl⟩
  ·rw [if_neg h]; exact ⟨rfl, rfl, rfl⟩
theorem Par.oneC (d : Nat) (nots : Nat → Bool) (i : Nat) (ops : List Nat) (h : ∀ o ∈ ops, o < 3) : Par (xCommand d) (wordT [99] :: tokC nots i ops) oneC (tokC nots i ops) := by
 obtain ⟨h1, h2, h3⟩ := tokC_no nots i ops h
 have hl : 0 < (tokC nots i ops).length := List.length_pos_iff.2 (tokC_ne _ _ _)
 refine Par.commandSimple ?_ (by simp only [List.length_cons]; omega) ?_
 ·show (!keyA [99] && !(nameB [99] && isS (tokC nots i ops) [7])) = true
  rw [h3]
  rfl
 ·refine Par.simpleWord rfl (.inr rfl) (field_plainW d (by decide) (by decide)) (tokC_ne _ _ _) ?_
  exact Par.simpleEnd [] [litP [99]] [] h1 h2 (by simp)
theorem rep_snoc (n : Nat) : List.replicate n Go.Proofs.YtepebnblbheegaaGreatDoor.oneC ++ [Go.Proofs.YtepebnblbheegaaGreatDoor.oneC] = List.replicate (n + 1) Go.Proofs.YtepebnblbheegaaGreatDoor.oneC := (List.replicate_succ').symm
theorem Par.chains (d : Nat) (nots : Nat → Bool) : ∀ (ops : List Nat) (i k : Nat) (chain : Prog) (bang : Bool) (n : Nat), (∀ o ∈ ops, o < 3) → ∃ l1 S1, Par (xPipeR d (List.replicate n Go.Proofs.YtepebnblbheegaaGreatDoor.oneC)) (wordT [99] :: tokC nots i ops) l1 S1 ∧ Par (xChainR d (cOf k chain (notP bang (pipeOf l1)))) S1 (wantC nots i ops k chain bang (n + 1)) endT
 | [], i, k, chain, bang, n, h => ⟨_, _, Par.pipeREnd (Par.oneC d nots i [] h) rfl, by rw [rep_snoc]; exact Par.chainREnd _ rfl⟩
 | 0 :: ops, i, k, chain, bang, n, h => by
  obtain ⟨l1, S1, h1, h2⟩ := Par.chains d nots ops (i + 1) k chain bang (n + 1) (fun o ho => h o (by simp [ho]))
  exact ⟨l1, S1, Par.pipeRStep (Par.oneC d nots i (0 :: ops) h) rfl (by simp) (by simp [passS, wordT]) (by rw [rep_snoc]; exact h1), h2⟩
 | (o + 1) :: ops, i, k, chain, bang, n, h => by
  obtain ⟨l2, S2, h1, h2⟩ := Par.chains d nots ops (i + 1) (if o = 0 then 25 else 26) (cOf k chain (pOf bang (n + 1))) (nots (i + 1)) 0 (fun o ho => h o (by simp [ho]))
  have ho : o = 0 ∨ o = 1 := by have := h (o + 1) (by simp); omega
  have h6 : isS (tokC nots i ((o + 1) :: ops)) [6] = false := by
   rw [tokC]
   rcases ho with rfl | rfl <;> rfl
  have hp : Par (xPipe d) ((if nots (i + 1) = true then [wordT [33]] else []) ++ (wordT [99] :: tokC nots (i + 1) ops)) (notP (nots (i + 1)) (pipeOf l2)) S2 := by
   cases hn : nots (i + 1) with
   | true => exact Par.pipeNot rfl (by simp) h1
   | false => exact Par.pipe rfl h1
  have hps : ∀ X : List ATok, X = (if nots (i + 1) = true then [wordT [33]] else []) ++ (wordT [99] :: tokC nots (i + 1) ops) → X ≠ [] ∧ passS [1] X = X := by
   rintro X rfl
   cases nots (i + 1) <;> exact ⟨by simp, rfl⟩
  obtain ⟨e1, e2⟩ := hps _ rfl
  refine ⟨_, _, Par.pipeREnd (Par.oneC d nots i ((o + 1) :: ops) h) h6, ?_⟩
  rw [rep_snoc]
  rw [tokC, wantC]
  refine Par.chainRStep ?_ e1 (by rw [e2]; exact e1) (by rw [e2]; exact hp) ?_
  ·rcases ho with rfl | rfl <;> rfl
  ·rcases ho with rfl | rfl
   ·exact h2
   ·exact h2
def srcCA (nots : Nat → Bool) (ops : List Nat) : List UInt8 := (if nots 0 = true then [33, 32] else []) ++ (99 :: srcC nots 0 ops)
def tokCA (nots : Nat → Bool) (ops : List Nat) : List ATok := (if nots 0 = true then [wordT [33]] else []) ++ (wordT [99] :: tokC nots 0 ops)
def wantCA (nots : Nat → Bool) (ops : List Nat) : Prog := wantC nots 0 ops 0 [] (nots 0) 1
theorem lex_chain (nots : Nat → Bool) (ops : List Nat) : Lx (srcCA nots ops) (tokCA nots ops) := by
 have ih := (Lx.chain nots ops 0).oneC 99 (.inl rfl) (srcC_stop _ _ _)
 unfold srcCA tokCA
 cases nots 0 with
 | true => exact ih.blank.oneC 33 (.inr rfl) (.inr ⟨32, _, rfl, by decide⟩)
 | false => exact ih
theorem par_chain (nots : Nat → Bool) (ops : List Nat) (h : ∀ o ∈ ops, o < 3) : Par (xList 0) (tokCA nots ops) (wantCA nots ops) endT := by
 obtain ⟨l1, S1, h1, h2⟩ := Par.chains 1 nots ops 0 0 [] (nots 0) 0 h
 have hp : Par (xPipe 1) (tokCA nots ops) (notP (nots 0) (pipeOf l1)) S1 := by
  unfold tokCA
  cases hn : nots 0 with
  | true => exact Par.pipeNot rfl (by simp) h1
  | false => exact Par.pipe rfl h1
 have hq : passS [1, 2] (tokCA nots ops) = tokCA nots ops ∧ endsS (tokCA nots ops) = false ∧ tokCA nots ops ≠ [] := by
  unfold tokCA
  cases nots 0 <;> exact ⟨rfl, rfl, by simp⟩
 refine Par.list (by omega) (Par.chainsStep (by rw [hq.1]; exact hq.2.2) (by rw [hq.1]; exact hq.2.1) (.inl rfl) (by rw [hq.1]; exact Par.chain hp h2) ?_)
 exact Par.chainsEnd [wantCA nots ops] (S := endT) (by decide) (.inl rfl)
theorem oneC_wfp : WFP okA 2000 false 2 oneC := .node _ _ _ _ _ _ (by rfl) (by rfl) (by rfl) (kids1 (lit_wfp (by decide)))
theorem rep_get (n : Nat) (j : Nat) (kid : Prog) (h : (List.replicate n oneC)[j]? = some kid) : kid = oneC := by
 rw [List.getElem?_replicate] at h
 split at h
 ·cases h; rfl
 ·cases h
theorem pOf_wfp (bang : Bool) (n : Nat) (h1 : 1 ≤ n) (hn : n ≤ 13) : WFP okA 2000 false 4 (pOf bang n) ∧ (pOf bang n).length ≤ 30 := by
 have hp : WFP okA 2000 false 3 (pipeOf (List.replicate n oneC)) ∧ (pipeOf (List.replicate n oneC)).length ≤ 29 := by
  unfold pipeOf
  split
  ·rename_i h
   rw [List.length_replicate] at h
   refine ⟨.node _ _ _ _ _ _ (by rfl) (by rfl) ?_ fun j kid hj => ?_, ?_⟩
   ·unfold childrenB
    simp
    omega
   ·rw [rep_get n j kid hj]
    exact oneC_wfp
   ·rw [len_newP]
    simp [show oneC.length = 2 from rfl]
    omega
  ·rename_i h
   rw [List.length_replicate] at h
   obtain rfl : n = 1 := by omega
   exact ⟨oneC_wfp.mono (by omega), by decide⟩
 unfold pOf notP
 cases bang with
 | true =>
  refine ⟨.node _ _ _ _ _ _ (by rfl) (by rfl) (by rfl) (kids1 hp.1), ?_⟩
  rw [if_pos rfl, (len_one _ _ _ _).1]
  omega
 | false => exact ⟨hp.1.mono (by omega), by simp; omega⟩
theorem wantC_wfp (nots : Nat → Bool) : ∀ (ops : List Nat) (i k : Nat) (chain : Prog) (bang : Bool) (n D z : Nat), (k = 0 ∨ ((k = 25 ∨ k = 26) ∧ WFP okA 2000 false D chain ∧ chain.length ≤ z)) → 4 ≤ D → 1 ≤ n → n + ops.length ≤ 13 → WFP okA 2000 false (D + ops.length + 1) (wantC nots i ops k chain bang n) ∧ (wantC nots i ops k chain bang n).length ≤ z + 31 * (ops.length + 1)
 | [], i, k, chain, bang, n, D, z, hc, hD, h1, hn => by
  obtain ⟨p1, p2⟩ := pOf_wfp bang n h1 (by simp at hn; omega)
  unfold wantC cOf
  rcases hc with rfl | ⟨hk, hc, hz⟩
  ·exact ⟨by rw [if_pos rfl]; exact p1.mono (by omega), by rw [if_pos rfl]; simp; omega⟩
  ·rw [if_neg (by omega)]
   refine ⟨?_, by rw [(len_two _ _ _ _ _).1]; simp; omega⟩
   rcases hk with rfl | rfl
   ·exact .node _ _ _ _ _ _ (by rfl) (by rfl) (by rfl) (kids2 hc (p1.mono (by omega)))
   ·exact .node _ _ _ _ _ _ (by rfl) (by rfl) (by rfl) (kids2 hc (p1.mono (by omega)))
 | 0 :: ops, i, k, chain, bang, n, D, z, hc, hD, h1, hn => by
  simp only [List.length_cons] at hn ⊢
  obtain ⟨q1, q2⟩ := wantC_wfp nots ops (i + 1) k chain bang (n + 1) D z hc hD (by omega) (by omega)
  rw [wantC]
  exact ⟨q1.mono (by omega), by omega⟩
 | (o + 1) :: ops, i, k, chain, bang, n, D, z, hc, hD, h1, hn => by
  simp only [List.length_cons] at hn ⊢
  obtain ⟨p1, p2⟩ := pOf_wfp bang n h1 (by omega)
  have hq : WFP okA 2000 false (D + 1) (cOf k chain (pOf bang n)) ∧ (cOf k chain (pOf bang n)).length ≤ z + 31 := by
   unfold cOf
   rcases hc with rfl | ⟨hk, hc, hz⟩
   ·exact ⟨by rw [if_pos rfl]; exact p1.mono (by omega), by rw [if_pos rfl]; omega⟩
   ·rw [if_neg (by omega)]
    refine ⟨?_, by rw [(len_two _ _ _ _ _).1]; omega⟩
    rcases hk with rfl | rfl
    ·exact .node _ _ _ _ _ _ (by rfl) (by rfl) (by rfl) (kids2 hc (p1.mono (by omega)))
    ·exact .node _ _ _ _ _ _ (by rfl) (by rfl) (by rfl) (kids2 hc (p1.mono (by omega)))
  obtain ⟨q1, q2⟩ := wantC_wfp nots ops (i + 1) (if o = 0 then 25 else 26) (cOf k chain (pOf bang n)) (nots (i + 1)) 1 (D + 1) (z + 31) (.inr ⟨by split <;> simp, hq.1, hq.2⟩) (by omega) (by omega) (by omega)
  rw [wantC]
  exact ⟨q1.mono (by omega), by omega⟩
theorem wantCA_check (nots : Nat → Bool) (ops : List Nat) (hl : ops.length ≤ 12) : checkP (wantCA nots ops) = none := by
 obtain ⟨h1, h2⟩ := wantC_wfp nots ops 0 0 [] (nots 0) 1 4 0 (.inl rfl) (by omega) (by omega) (by omega)
 exact check_okA h1 (by omega) (by show (wantC nots 0 ops 0 [] (nots 0) 1).length ≤ 3000; omega)
theorem srcC_len (nots : Nat → Bool) : ∀ (ops : List Nat) (i : Nat), (srcC nots i ops).length ≤ 7 * ops.length
 | [], i => by simp [srcC]
 | 0 :: ops, i => by
  have := srcC_len nots ops (i + 1)
  rw [srcC]
  simp
  omega
 | (o + 1) :: ops, i => by
  have := srcC_len nots ops (i + 1)
  rw [srcC]
  by_cases h : o = 0 <;> by_cases h2 : nots (i + 1) = true <;> simp [h, h2] <;> omega
theorem parse_chain (nots : Nat → Bool) (ops : List Nat) (h : ∀ o ∈ ops, o < 3) (hl : ops.length ≤ 12) : parseA (srcCA nots ops) = .ok (wantCA nots ops) := by
 refine parseA_of (lex_chain nots ops) (par_chain nots ops h) ?_ (wantCA_check nots ops hl)
 have := srcC_len nots ops 0
 unfold srcCA
 split <;> simp <;> omega
end Go.Proofs.YtepebnblbheegaaGreatDoor
