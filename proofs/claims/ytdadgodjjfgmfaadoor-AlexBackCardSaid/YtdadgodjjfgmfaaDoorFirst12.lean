/- The chapter's examples, as the statements of dialect B's tokens begin with them. -/
import Derived.Test.YtdadgodjjfgmfaaDoorSee3
import Derived.Test.YtdadgodjjfgmfaaDoorBlexLex
import Derived.Test.YtdadgodjjfgmfaaDoorPureB3
namespace Go.Proofs.YtdadgodjjfgmfaaDoor
open Go Go.RowKit

theorem lex1 : lexB 13 true [120, 61, 40, 97, 32, 39, 98, 39, 39, 99, 39, 41] 0 = .ok [⟨18, 0, 0, [120], false⟩, ⟨16, 1, 0, [], true⟩, ⟨6, 2, 0, [], true⟩, ⟨18, 3, 0, [97], true⟩, ⟨19, 5, 0, [98, 39, 99], false⟩, ⟨7, 11, 0, [], true⟩, ⟨0, 12, 0, [], true⟩] := by kernel_rfl
theorem lex2 : lexB 8 true [36, 35, 120, 94, 36, 34, 121] 0 = .ok [⟨21, 0, 0, [120], false⟩, ⟨15, 3, 0, [], true⟩, ⟨22, 4, 0, [121], true⟩, ⟨0, 7, 0, [], true⟩] := by kernel_rfl
theorem lex3 : lexB 2 true [36] 0 = .error (106, 0) := by kernel_rfl

/-- The cells of a row that stands in memory. -/
theorem row_cell {w : World} {B : Nat} {e : TypeId} {size : Nat} {v : Value} {n : Nat} {xs : List Value} (h : w.ownsRow B e size v n xs) (hn : 0 < n) :
    ∃ g cap, v = .slice (some ⟨g, 0, none⟩) n cap ∧ n ≤ cap ∧ cap ≤ maxLen ∧ B ≤ g ∧ g < w.heap.size ∧ ∀ (k : Nat) (u : Value), xs[k]? = some u → w.cell? ⟨g, k, none⟩ = some u := by
  rcases h.2 with ⟨_, h0⟩ | ⟨g, cap, cur, hv, hg, hh, hc1, hc2, hsz, ht⟩
  · omega
  · refine ⟨g, cap, hv, hc1, hc2, hg, lt_of_block hh, fun k u hk => ?_⟩
    rw [← ht, List.getElem?_take] at hk
    split at hk
    · simp only [World.cell?, hh]
      simpa using hk
    · cases hk
theorem flat_get {α : Type} (f : α → List Value) (m : Nat) (hm : ∀ a, (f a).length = m) : ∀ (ts : List α) (i j : Nat) (t : α) (u : Value), ts[i]? = some t → (f t)[j]? = some u → (ts.flatMap f)[m * i + j]? = some u
  | [], i, j, t, u, h, _ => by simp at h
  | a :: ts, 0, j, t, u, h, hu => by
    simp only [List.getElem?_cons_zero, Option.some.injEq] at h
    subst h
    have hj := (List.getElem?_eq_some_iff.1 hu).1
    rw [List.flatMap_cons, Nat.mul_zero, Nat.zero_add, List.getElem?_append_left hj]
    exact hu
  | a :: ts, i + 1, j, t, u, h, hu => by
    rw [List.flatMap_cons, List.getElem?_append_right (by rw [hm, Nat.mul_succ]; omega), hm, Nat.mul_succ, show m * i + m + j - m = m * i + j from by omega]
    exact flat_get f m hm ts i j t u (by simpa using h) hu
theorem tok_cells (t : BTok) : t.cells.length = 5 := rfl

theorem xLex_ok (s : ByteArray) (w : World) (hs : s.size ≤ 8192) (sent : Nat → Addr) (hE : Env w sent) (ts : List BTok) (hT : lexB (s.size + 1) true s.data.toList 0 = .ok ts) :
    Calls Tryd.prog 16 #[.string s] w fun e w' => ∃ v, e = .returned (.tuple #[v, .nilIface]) ∧ Toks w' w.heap.size v ts ∧ Below w.heap.size w w' :=
  xLex_any s w hs sent hE _ _ (Lib.hid hT) (Lib.hid fun ts' v w' e h1 h2 => by cases e; exact ⟨v, rfl, h1, h2⟩) (Lib.hid fun c p b w' e => by cases e)
theorem xLex_bad (s : ByteArray) (w : World) (hs : s.size ≤ 8192) (sent : Nat → Addr) (hE : Env w sent) (c p : Nat) (hT : lexB (s.size + 1) true s.data.toList 0 = .error (c, p)) :
    Calls Tryd.prog 16 #[.string s] w fun e w' => ∃ b, e = .returned (.tuple #[.slice none 0 0, .iface 102 (.pointer (some ⟨b, 0, none⟩))]) ∧ ErrAt w' b sent c p ∧ Below w.heap.size w w' :=
  xLex_any s w hs sent hE _ _ (Lib.hid hT) (Lib.hid fun ts' v w' e => by cases e) (Lib.hid fun c' p' b w' e h1 h2 => by cases e; exact ⟨b, rfl, h1, h2⟩)

set_option maxRecDepth 100000 in
set_option maxHeartbeats 4000000 in
theorem first12_any (w : World) (sent : Nat → Addr) (hS : Sents w sent) :
    Calls Tryd.prog 15 #[] w fun e w' => e = .returned (.bool true) ∧ Below w.heap.size w w' := by
  go_enter Tryd.func15, Tryd.ntmps15
  go_wp2_with fail
  refine (xLex_ok ⟨#[120, 61, 40, 97, 32, 39, 98, 39, 39, 99, 39, 41]⟩ w (by decide) sent hS.env _ lex1).mono ?_
  rintro e w1 ⟨v1, rfl, hT1, hb1⟩
  obtain ⟨g1, p1, rfl, hp1, hp2, hg1, hg2, hc1⟩ := row_cell hT1 (by decide)
  have hS1 := hS.below hb1
  clear hS hT1
  have a0 := hc1 9 (.bool true) rfl
  have a1 := hc1 20 (.int .i64 19) rfl
  have a2 := hc1 23 (.string ⟨#[98, 39, 99]⟩) rfl
  have a3 := hc1 24 (.bool false) rfl
  clear hc1
  go_wp2_with fail
  refine (xLex_ok ⟨#[36, 35, 120, 94, 36, 34, 121]⟩ w1 (by decide) sent hS1.env _ lex2).mono ?_
  rintro e w2 ⟨v2, rfl, hT2, hb2⟩
  obtain ⟨g2, q1, rfl, hq1, hq2, hg3, hg4, hc2⟩ := row_cell hT2 (by decide)
  have hS2 := hS1.below hb2
  have b0 := hc2 0 (.int .i64 21) rfl
  have b1 := hc2 10 (.int .i64 22) rfl
  have b2 := hc2 13 (.string ⟨#[121]⟩) rfl
  have a0 := bSome hb2 a0
  have a1 := bSome hb2 a1
  have a2 := bSome hb2 a2
  have a3 := bSome hb2 a3
  have hB2 := bNext hb1 hb2
  clear hS1 hT2 hc2 hb1 hb2
  go_wp2_with fail
  refine (xLex_bad ⟨#[36]⟩ w2 (by decide) sent hS2.env _ _ lex3).mono ?_
  rintro e w3 ⟨b, rfl, hE, hb3⟩
  have hS3 := hS2.below hb3
  have b0 := bSome hb3 b0
  have b1 := bSome hb3 b1
  have b2 := bSome hb3 b2
  have a0 := bSome hb3 a0
  have a1 := bSome hb3 a1
  have a2 := bSome hb3 a2
  have a3 := bSome hb3 a3
  have hB3 := bNext hB2 hb3
  clear hS2 hB2 hb3
  go_wp2_with fail
  refine (rPlaced_any 106 0 rfl _).mono ?_
  unfold faultV
  rintro e w4 ⟨k, rfl, hk, hk2, hb4⟩
  have hB4 := bNext hB3 hb4
  have hS4 := hS3.below hb4
  have hE4 : ErrAt w4 b sent 106 ((0 : Nat) : Int) := Blk.below hE hb4
  clear hS3 hE hB3 hb4 a0 a1 a2 a3 b0 b1 b2
  go_wp2_with fail
  refine (seeSame_at w4 sent hS4 106 (by decide) (by decide) _ b hE4 106 0 k hk).mono ?_
  rintro e w5 ⟨rfl, hb5⟩
  have hB5 := bNext hB4 hb5
  clear hS4 hE4 hB4 hb5
  go_wp2_with fail
  go_ret
  exact ⟨rfl, hB5⟩

end Go.Proofs.YtdadgodjjfgmfaaDoor
