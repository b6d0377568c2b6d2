/- The errors of package api, as they lie when a law begins: each variable holds a pointer of its own. -/
import Derived.Test.YtdadgodjjfgmfaaDoorBlexTok
import Derived.Test.YtdadgodjjfgmfaaDoorRows
import Derived.LaidLaws
import Derived.Stop.LaidErr
import Derived.MakeChecks
import Derived.RowKitTokens
import Derived.Stop.ErrReads
namespace Go.Proofs.YtdadgodjjfgmfaaDoor
open Go Go.RowKit Go.ChangeShapes Go.WideShapes

/-- The errors: number, variable, name, text. -/
def sentRows : List (Nat × Nat × String × List UInt8) := [
  (101, 0, "patois/api.ErrLong", [116, 111, 111, 32, 108, 111, 110, 103]),
  (102, 5, "patois/api.ErrNest", [110, 101, 115, 116, 101, 100, 32, 116, 111, 111, 32, 100, 101, 101, 112]),
  (103, 2, "patois/api.ErrQuote", [97, 32, 113, 117, 111, 116, 101, 32, 116, 104, 97, 116, 32, 100, 111, 101, 115, 32, 110, 111, 116, 32, 101, 110, 100]),
  (104, 6, "patois/api.ErrParen", [97, 32, 98, 114, 97, 99, 107, 101, 116, 32, 116, 104, 97, 116, 32, 100, 111, 101, 115, 32, 110, 111, 116, 32, 101, 110, 100]),
  (105, 7, "patois/api.ErrBrace", [97, 32, 98, 114, 97, 99, 101, 32, 116, 104, 97, 116, 32, 100, 111, 101, 115, 32, 110, 111, 116, 32, 101, 110, 100]),
  (106, 3, "patois/api.ErrName", [110, 111, 32, 110, 97, 109, 101]),
  (107, 1, "patois/api.ErrToken", [110, 111, 32, 116, 111, 107, 101, 110]),
  (108, 8, "patois/api.ErrForm", [105, 116, 32, 100, 111, 101, 115, 32, 110, 111, 116, 32, 115, 116, 97, 110, 100, 32, 104, 101, 114, 101]),
  (109, 9, "patois/api.ErrEnd", [105, 116, 32, 101, 110, 100, 115, 32, 116, 111, 111, 32, 101, 97, 114, 108, 121]),
  (110, 10, "patois/api.ErrNode", [110, 111, 32, 112, 114, 111, 103, 114, 97, 109]),
  (111, 11, "patois/api.ErrMany", [116, 111, 111, 32, 109, 97, 110, 121]),
  (112, 12, "patois/api.ErrFuel", [116, 111, 111, 32, 109, 97, 110, 121, 32, 115, 116, 101, 112, 115]),
  (113, 13, "patois/api.ErrDeep", [99, 97, 108, 108, 101, 100, 32, 116, 111, 111, 32, 100, 101, 101, 112]),
  (114, 14, "patois/api.ErrBig", [116, 111, 111, 32, 98, 105, 103]),
  (115, 15, "patois/api.ErrSay", [105, 116, 32, 99, 97, 110, 110, 111, 116, 32, 98, 101, 32, 115, 97, 105, 100]),
  (116, 16, "patois/api.ErrCode", [110, 111, 32, 99, 111, 100, 101]),
  (117, 17, "patois/api.ErrNumber", [110, 111, 32, 115, 117, 99, 104, 32, 110, 117, 109, 98, 101, 114])]
def toLaid (e : Nat × Nat × String × List UInt8) : String × DataW Unit := (e.2.2.1, .iface "*errors.errorString" (.ptr (.agg [.lit (.string e.2.2.2)])))
def sentText (c : Nat) : List UInt8 := ((sentRows.find? (fun e => e.1 == c)).map (fun e => e.2.2.2)).getD []

/-- The variables hold pointers of their own, to blocks of their own. -/
structure Sents (w : World) (sent : Nat → Addr) : Prop where
  env : Env w sent
  blk : ∀ c, 101 ≤ c → c ≤ 117 → ∃ s t, w.heap[(sent c).block]? = some (.cells s t (0, 0))
  ne : ∀ c d, 101 ≤ c → c ≤ 117 → 101 ≤ d → d ≤ 117 → c ≠ d → sent c ≠ sent d

theorem Sents.below {w w' : World} {sent : Nat → Addr} (h : Sents w sent) (hb : Below w.heap.size w w') : Sents w' sent :=
  ⟨h.env.below hb, fun c h1 h2 => by
    obtain ⟨s, t, e⟩ := h.blk c h1 h2
    exact ⟨s, t, (hb.block _ (lt_of_block e)).trans e⟩, h.ne⟩

theorem starErr : "*" ++ "errors.errorString" = "*errors.errorString" := by decide
theorem nameErr (u : TypeId) (h : Tryd.prog.typeName? 3 u = some "*errors.errorString") : u = 151 :=
  typeName_ptr_named (nm := "errors.errorString") (by rw [starErr]; kernel_rfl) (by kernel_rfl) (by decide) u (by rw [starErr]; exact h)
theorem cellsErr : Tryd.prog.cellsOf 165 = 1 := by kernel_rfl
theorem cellsStr : Tryd.prog.cellsOf 9 = 1 := by kernel_rfl

def SentAt (W : World) (g : Nat) (text : List UInt8) (a : Addr) : Prop :=
  W.cell? ⟨g, 0, none⟩ = some (.iface 151 (.pointer (some a))) ∧ W.cell? a = some (.string (bs text)) ∧ ∃ c t, W.heap[a.block]? = some (.cells c t (0, 0))

set_option maxRecDepth 100000 in
theorem sent_laid {n : String} {text : List UInt8} {r : List (String × DataW Unit)} {W : World} {g : Nat}
    (h : laidMet Tryd.prog ((n, .iface "*errors.errorString" (.ptr (.agg [.lit (.string text)]))) :: r) W)
    (hg : Tryd.prog.globalNamed n = some g) (ht : (Tryd.prog.globals[g]?).map (·.type) = some 25) : ∃ a, SentAt W g text a := by
  obtain ⟨ps, ⟨g0, t0, cs0, f0, p0, q0, hg0, ht0, hv0, hd0, _, e0⟩, _, hrows⟩ := h
  obtain rfl := Option.some.inj (hg.symm.trans hg0)
  obtain rfl := Option.some.inj (ht.symm.trans ht0)
  subst e0
  obtain ⟨l0⟩ := cs0
  have ok0 : ∀ u v, l0 = [.iface u v] → Value.okWide Tryd.prog W .any 0 u v := fun u v e => by
    subst e
    exact (hrows g 0 (by simp [MemPlace.row])).2 u v (by simpa using World.var?_cell hg0 hv0 0)
  obtain ⟨a0, s0, rfl, hc0, hs0, hz0, rfl⟩ := errorString_of_trod Tryd.underlying25 nameErr Tryd.underlying151 Tryd.underlying165 rfl rfl Tryd.underlying9 cellsErr cellsStr hd0 ok0
  obtain ⟨c0, t0, hb0⟩ := (hrows a0.block a0.off (by simp [MemPlace.row])).1
  refine ⟨a0, by simpa using World.var?_cell hg0 hv0 0, ?_, c0, t0, hb0⟩
  rw [hc0, ← hs0, bs_of]

theorem sents_laid (W : World) : ∀ L : List (Nat × Nat × String × List UInt8), (∀ e ∈ L, Tryd.prog.globalNamed e.2.2.1 = some e.2.1 ∧ (Tryd.prog.globals[e.2.1]?).map (·.type) = some 25) →
    laidMet Tryd.prog (L.map toLaid) W → ∀ e ∈ L, ∃ a, SentAt W e.2.1 e.2.2.2 a
  | [], _, _, e, he => by cases he
  | x :: L, hL, h, e, he => by
    cases he with
    | head => exact sent_laid h (hL x (.head _)).1 (hL x (.head _)).2
    | tail _ he => exact sents_laid W L (fun y hy => hL y (.tail _ hy)) (laidMet.tail h) e he

theorem sentRows_ok : (sentRows.all fun e => decide (Tryd.prog.globalNamed e.2.2.1 = some e.2.1) && decide ((Tryd.prog.globals[e.2.1]?).map (·.type) = some 25)) = true := by kernel_rfl
theorem sentRows_vars : errVars = sentRows.map fun e => (e.1, e.2.1) := rfl
theorem sentRows_text : ∀ e ∈ sentRows, e.2.2.2 = sentText e.1 := by decide +kernel
theorem sentRows_codes : ∀ p ∈ errVars, ∀ q ∈ errVars, p.1 = q.1 → p.2 = q.2 := by decide +kernel
theorem sentText_ne : ∀ i : Fin 17, ∀ j : Fin 17, sentText (101 + i.val) = sentText (101 + j.val) → i = j := by decide +kernel
theorem errVars_has : ∀ i : Fin 17, ∃ g, (101 + i.val, g) ∈ errVars := by
  intro i
  have h : (errVars.map (·.1)).contains (101 + i.val) = true := by
    revert i
    decide +kernel
  rw [List.contains_iff_mem, List.mem_map] at h
  obtain ⟨p, hp, e⟩ := h
  exact ⟨p.2, e ▸ hp⟩

/-- Out of a row's own condition. -/
theorem sents_of {W : World} (h : laidMet Tryd.prog (sentRows.map toLaid) W) : ∃ sent, Sents W sent := by
  have hall : ∀ c g, (c, g) ∈ errVars → ∃ a, SentAt W g (sentText c) a := by
    intro c g hcg
    rw [sentRows_vars, List.mem_map] at hcg
    obtain ⟨e, he, h1⟩ := hcg
    have hok := List.all_eq_true.1 sentRows_ok
    obtain ⟨a, ha⟩ := sents_laid W sentRows (fun y hy => by have := hok y hy; simpa using this) h e he
    have h2 : e.1 = c := congrArg Prod.fst h1
    have h3 : e.2.1 = g := congrArg Prod.snd h1
    rw [sentRows_text e he, h2, h3] at ha
    exact ⟨a, ha⟩
  have hch : ∀ c, ∃ a, ∀ g, (c, g) ∈ errVars → SentAt W g (sentText c) a := by
    intro c
    by_cases hc : ∃ g, (c, g) ∈ errVars
    · obtain ⟨g, hg⟩ := hc
      obtain ⟨a, ha⟩ := hall c g hg
      refine ⟨a, fun g' hg' => ?_⟩
      obtain rfl : g = g' := sentRows_codes _ hg _ hg' rfl
      exact ha
    · exact ⟨⟨0, 0, none⟩, fun g hg => absurd ⟨g, hg⟩ hc⟩
  refine ⟨fun c => Classical.choose (hch c), fun c g hg => (Classical.choose_spec (hch c) g hg).1, fun c h1 h2 => ?_, fun c d h1 h2 h3 h4 hne e => ?_⟩
  · obtain ⟨g, hg⟩ := errVars_has ⟨c - 101, by omega⟩
    rw [show 101 + (⟨c - 101, by omega⟩ : Fin 17).val = c from by simp only []; omega] at hg
    exact (Classical.choose_spec (hch c) g hg).2.2
  · obtain ⟨g, hg⟩ := errVars_has ⟨c - 101, by omega⟩
    rw [show 101 + (⟨c - 101, by omega⟩ : Fin 17).val = c from by simp only []; omega] at hg
    obtain ⟨g', hg'⟩ := errVars_has ⟨d - 101, by omega⟩
    rw [show 101 + (⟨d - 101, by omega⟩ : Fin 17).val = d from by simp only []; omega] at hg'
    have e1 := (Classical.choose_spec (hch c) g hg).2.1
    have e2 := (Classical.choose_spec (hch d) g' hg').2.1
    rw [show Classical.choose (hch c) = Classical.choose (hch d) from e] at e1
    have e3 := e1.symm.trans e2
    simp only [Option.some.injEq, Value.string.injEq] at e3
    have e4 := bs_inj e3
    have e5 := sentText_ne ⟨c - 101, by omega⟩ ⟨d - 101, by omega⟩ (by
      rw [show 101 + (⟨c - 101, by omega⟩ : Fin 17).val = c from by simp only []; omega, show 101 + (⟨d - 101, by omega⟩ : Fin 17).val = d from by simp only []; omega]
      exact e4)
    have e6 := congrArg Fin.val e5
    simp only [] at e6
    omega

/-- Out of the row's condition as it stands in the row. -/
theorem sents_row {l : List (String × DataW Unit)} {W : World} (hl : l = sentRows.map toLaid) (h : laidMetH Tryd.prog l W) : ∃ sent, Sents W sent := by
  subst hl
  rw [MakeChecks.laidMetH_plain _ _ _ (by decide +kernel)] at h
  exact sents_of h

end Go.Proofs.YtdadgodjjfgmfaaDoor
