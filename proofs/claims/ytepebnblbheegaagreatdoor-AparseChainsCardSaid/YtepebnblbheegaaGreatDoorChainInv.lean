/- AparseChains: what its loop holds, round by round. No program stands in it. -/
import Derived.Test.YtepebnblbheegaaGreatDoorParseCA
namespace Go.Proofs.YtepebnblbheegaaGreatDoor
open Go Go.RowKit
structure CInv (nots : Nat → Bool) (ops : List Nat) (k : Nat) (s : List UInt8) (chain : Prog) (kd : Nat) (bang : Bool) (n : Nat) : Prop where
 src : srcCA nots ops = s ++ srcC nots k (ops.drop k)
 want : wantCA nots ops = wantC nots k (ops.drop k) kd chain bang n
 n1 : 1 ≤ n
 n2 : n ≤ k + 1
 kd : (kd = 0 ∧ chain = []) ∨ kd = 25 ∨ kd = 26
 cl : chain.length ≤ 31 * k
 sl : s.length ≤ 3 + 7 * k
theorem CInv.start (nots : Nat → Bool) (ops : List Nat) : CInv nots ops 0 (if nots 0 = true then [33, 32, 99] else [99]) [] 0 (nots 0) 1 where
 src := by
  unfold srcCA
  rw [List.drop_zero]
  cases nots 0 <;> rfl
 want := by rw [List.drop_zero]; rfl
 n1 := Nat.le_refl _
 n2 := Nat.le_refl _
 kd := .inl ⟨rfl, rfl⟩
 cl := Nat.le_refl _
 sl := by split <;> simp
theorem drop_get {ops : List Nat} {k o : Nat} (h : ops[k]? = some o) : ops.drop k = o :: ops.drop (k + 1) := by
 obtain ⟨hk, e⟩ := List.getElem?_eq_some_iff.1 h
 rw [List.drop_eq_getElem_cons hk, e]
theorem CInv.pipe {nots : Nat → Bool} {ops : List Nat} {k : Nat} {s : List UInt8} {chain : Prog} {kd : Nat} {bang : Bool} {n : Nat} (h : CInv nots ops k s chain kd bang n) (ho : ops[k]? = some 0) : CInv nots ops (k + 1) (s ++ [32, 124, 32, 99]) chain kd bang (n + 1) where
 src := by
  rw [h.src, drop_get ho, srcC]
  simp
 want := by rw [h.want, drop_get ho, wantC]
 n1 := by omega
 n2 := by have := h.n2; omega
 kd := h.kd
 cl := by have := h.cl; omega
 sl := by have := h.sl; simp; omega
theorem cOf_len {kd : Nat} {chain p : Prog} (hp : p.length ≤ 30) : (cOf kd chain p).length ≤ chain.length + 31 := by
 unfold cOf
 split
 ·omega
 ·rw [(len_two _ _ _ _ _).1]
  omega
theorem CInv.op {nots : Nat → Bool} {ops : List Nat} {k : Nat} {s : List UInt8} {chain : Prog} {kd : Nat} {bang : Bool} {n : Nat} (h : CInv nots ops k s chain kd bang n) (hl : ops.length ≤ 12) {o : Nat} (ho : ops[k]? = some (o + 1)) :
  CInv nots ops (k + 1) (s ++ ((if o = 0 then [32, 38, 38, 32] else [32, 124, 124, 32]) ++ ((if nots (k + 1) = true then [33, 32] else []) ++ [99]))) (cOf kd chain (pOf bang n)) (if o = 0 then 25 else 26) (nots (k + 1)) 1 where
 src := by
  rw [h.src, drop_get ho, srcC]
  simp
 want := by rw [h.want, drop_get ho, wantC]
 n1 := Nat.le_refl _
 n2 := by omega
 kd := by split <;> simp
 cl := by
  have hk := (List.getElem?_eq_some_iff.1 ho).1
  have h2 := h.n2
  have h3 := cOf_len (kd := kd) (chain := chain) (pOf_wfp bang n h.n1 (by omega)).2
  have h4 := h.cl
  omega
 sl := by
  have h2 := h.sl
  by_cases h3 : o = 0 <;> by_cases h4 : nots (k + 1) = true <;> simp [h3, h4] <;> omega
theorem CInv.done {nots : Nat → Bool} {ops : List Nat} {s : List UInt8} {chain : Prog} {kd : Nat} {bang : Bool} {n : Nat} (h : CInv nots ops ops.length s chain kd bang n) (hl : ops.length ≤ 12) (hm : ∀ o ∈ ops, o < 3) :
  parseA s = .ok (cOf kd chain (pOf bang n)) ∧ (cOf kd chain (pOf bang n)).length ≤ 31 * 13 := by
 have h1 := h.src
 have h2 := h.want
 rw [List.drop_of_length_le (Nat.le_refl _)] at h1 h2
 rw [srcC, List.append_nil] at h1
 rw [wantC] at h2
 refine ⟨by rw [← h1, ← h2]; exact parse_chain nots ops hm hl, ?_⟩
 have h3 := cOf_len (kd := kd) (chain := chain) (pOf_wfp bang n h.n1 (by have := h.n2; omega)).2
 have h4 := h.cl
 omega
end Go.Proofs.YtepebnblbheegaaGreatDoor
