/- The chapter's examples, as the statements of dialect A's tokens begin with them. -/
import Derived.Test.YtdadgodjjfgmfaaDoorAlex8
import Derived.Test.YtdadgodjjfgmfaaDoorFirst12
namespace Go.Proofs.YtdadgodjjfgmfaaDoor
open Go Go.RowKit

/-- A word's parts, in a block. -/
def PRow (w : World) (g : Nat) (P : List APart) : Prop := ∀ (i : Nat) (a : APart), P[i]? = some a → ∀ (j : Nat) (u : Value), a.cells[j]? = some u → w.cell? ⟨g, i * 5 + j, none⟩ = some u
theorem PRow.below {w w' : World} {g : Nat} {P : List APart} (h : PRow w g P) (hb : Below w.heap.size w w') : PRow w' g P := fun i a h1 j u h2 => bSome hb (h i a h1 j u h2)
theorem PRow.facts {w : World} {g : Nat} {P : List APart} (h : PRow w g P) (i : Nat) (a : APart) (ha : P[i]? = some a) :
    w.cell? ⟨g, i * 5, none⟩ = some (.int .i64 a.kind) ∧ w.cell? ⟨g, i * 5 + 1, none⟩ = some (.int .i64 a.place) ∧ w.cell? ⟨g, i * 5 + 2, none⟩ = some (.int .i64 a.num) ∧ w.cell? ⟨g, i * 5 + 3, none⟩ = some (.bool a.quoted) ∧ w.cell? ⟨g, i * 5 + 4, none⟩ = some (.string (bs a.text)) :=
  ⟨h i a ha 0 _ rfl, h i a ha 1 _ rfl, h i a ha 2 _ rfl, h i a ha 3 _ rfl, h i a ha 4 _ rfl⟩
/-- A slice of parts as the statements read it. -/
def PSl (w : World) (v : Value) (P : List APart) : Prop := ∃ ao cap, v = .slice ao P.length cap ∧ P.length ≤ cap ∧ cap ≤ maxLen ∧ (0 < P.length → ∃ g, ao = some ⟨g, 0, none⟩ ∧ g < w.heap.size ∧ PRow w g P)
theorem PSl.below {w w' : World} {v : Value} {P : List APart} (h : PSl w v P) (hb : Below w.heap.size w w') : PSl w' v P := by
  obtain ⟨ao, cap, h1, h2, h3, h4⟩ := h
  exact ⟨ao, cap, h1, h2, h3, fun h0 => by
    obtain ⟨g, e1, e2, e3⟩ := h4 h0
    exact ⟨g, e1, Nat.lt_of_lt_of_le e2 hb.size, e3.below hb⟩⟩
theorem PartsAt.psl {w : World} {B : Nat} {v : Value} {P : List APart} (h : PartsAt w B v P) : PSl w v P := by
  by_cases h0 : 0 < P.length
  · obtain ⟨g, cap, hv, h1, h2, h3, h4, h5⟩ := row_cell h h0
    refine ⟨_, cap, hv, h1, h2, fun _ => ⟨g, rfl, h4, fun i a ha j u hu => ?_⟩⟩
    rw [Nat.mul_comm]
    exact h5 _ _ (flat_get APart.cells 5 (fun _ => rfl) P i j a u ha hu)
  · rcases h.2 with ⟨hv, hz⟩ | ⟨g, cap, cur, hv, _, _, hc1, hc2, _⟩
    · exact ⟨none, 0, by rw [hv, hz], by omega, by unfold maxLen; omega, fun h => absurd h h0⟩
    · exact ⟨_, cap, hv, hc1, hc2, fun h => absurd h h0⟩

/-- Tokens in a block, each with its parts. -/
def ATRow (w : World) (g : Nat) (ts : List ATok) : Prop := ∀ (i : Nat) (t : ATok), ts[i]? = some t → w.cell? ⟨g, i * 3, none⟩ = some (.int .i64 t.kind) ∧ w.cell? ⟨g, i * 3 + 1, none⟩ = some (.int .i64 t.place) ∧ ∃ v2, w.cell? ⟨g, i * 3 + 2, none⟩ = some v2 ∧ PSl w v2 t.parts
theorem ATRow.below {w w' : World} {g : Nat} {ts : List ATok} (h : ATRow w g ts) (hb : Below w.heap.size w w') : ATRow w' g ts := fun i t ht => by
  obtain ⟨h1, h2, v2, h3, h4⟩ := h i t ht
  exact ⟨bSome hb h1, bSome hb h2, v2, bSome hb h3, h4.below hb⟩

theorem aLex_row (s : ByteArray) (w : World) (hs : s.size ≤ 8192) (sent : Nat → Addr) (hE : Env w sent) (ts : List ATok) (hT : lexA s.data.toList (s.size + 1) 0 = .ok ts) (hne : 0 < ts.length) :
    Calls Tryd.prog 30 #[.string s] w fun e w' => ∃ g cap, e = .returned (.tuple #[.slice (some ⟨g, 0, none⟩) ts.length cap, .nilIface]) ∧ ts.length ≤ cap ∧ cap ≤ maxLen ∧ g < w'.heap.size ∧ ATRow w' g ts ∧ Below w.heap.size w w' := by
  refine (aLex_ok s w hs sent hE ts hT).mono ?_
  rintro e w' ⟨v, tv, rfl, rfl, hA, hb⟩
  rw [List.length_map] at hne ⊢
  obtain ⟨g, cap, rfl, h1, h2, h3, h4, h5⟩ := row_cell hA.row hne
  refine ⟨g, cap, rfl, h1, h2, h4, fun i t ht => ?_, hb⟩
  rw [List.getElem?_map] at ht
  cases hx : tv[i]? with
  | none => rw [hx] at ht; cases ht
  | some x =>
    rw [hx] at ht
    cases ht
    have hc : ∀ j u, (AVTok.cells x)[j]? = some u → w'.cell? ⟨g, i * 3 + j, none⟩ = some u := fun j u hu => by
      rw [Nat.mul_comm]
      exact h5 _ _ (flat_get AVTok.cells 3 (fun _ => rfl) tv i j x u hx hu)
    exact ⟨hc 0 _ rfl, hc 1 _ rfl, x.2, hc 2 _ rfl, (hA.parts x (List.mem_of_getElem? hx)).psl⟩

theorem alex1 : lexA [97, 32, 34, 36, 120, 34, 98, 62, 102] 10 0 = .ok [⟨13, 0, [⟨1, 0, 0, false, [97]⟩]⟩, ⟨13, 2, [⟨2, 2, 0, false, []⟩, ⟨3, 3, 0, true, [120]⟩, ⟨1, 6, 0, false, [98]⟩]⟩, ⟨10, 7, []⟩, ⟨13, 8, [⟨1, 8, 0, false, [102]⟩]⟩, ⟨0, 9, []⟩] := by kernel_rfl
theorem alex2 : lexA [39, 97] 3 0 = .error (103, 0) := by kernel_rfl
theorem alex3 : lexA [97, 32, 38, 32, 98] 6 0 = .error (107, 2) := by kernel_rfl
theorem alex4 : lexA [36, 40, 97, 32, 40, 98, 41, 32, 39, 41, 39, 41, 99] 14 0 = .ok [⟨13, 0, [⟨4, 0, 0, false, [97, 32, 40, 98, 41, 32, 39, 41, 39]⟩, ⟨1, 12, 0, false, [99]⟩]⟩, ⟨0, 13, []⟩] := by kernel_rfl

set_option maxRecDepth 100000 in
set_option maxHeartbeats 8000000 in
theorem first10_any (w : World) (sent : Nat → Addr) (hS : Sents w sent) :
    Calls Tryd.prog 29 #[] w fun e w' => e = .returned (.bool true) ∧ Below w.heap.size w w' := by
  go_enter Tryd.func29, Tryd.ntmps29
  go_wp2_with fail
  refine (aLex_row ⟨#[97, 32, 34, 36, 120, 34, 98, 62, 102]⟩ w (by decide) sent hS.env _ alex1 (by decide)).mono ?_
  rintro e w1 ⟨g1, p1, rfl, hp1, hp2, hg1, hT1, hb1⟩
  obtain ⟨-, -, v1, a1, hP1⟩ := hT1 1 _ rfl
  obtain ⟨a0, -, -⟩ := hT1 2 _ rfl
  obtain ⟨ao1, q1, rfl, hq1, hq2, hq3⟩ := hP1
  obtain ⟨x1, rfl, hx1, hX1⟩ := hq3 (by decide)
  obtain ⟨b0, -, -, b3, -⟩ := hX1.facts 1 _ rfl
  have hS1 := hS.below hb1
  have a0 : w1.cell? ⟨g1, 6, none⟩ = some (.int .i64 10) := a0
  have a1 : w1.cell? ⟨g1, 5, none⟩ = some (.slice (some ⟨x1, 0, none⟩) 3 q1) := a1
  have b0 : w1.cell? ⟨x1, 5, none⟩ = some (.int .i64 3) := b0
  have b3 : w1.cell? ⟨x1, 8, none⟩ = some (.bool true) := b3
  clear hS hT1 hX1 hq3
  go_wp2_with fail
  refine (aLex_bad ⟨#[39, 97]⟩ w1 (by decide) sent hS1.env _ _ alex2).mono ?_
  rintro e w2 ⟨e1, rfl, hE1, hb2⟩
  have hS2 := hS1.below hb2
  have hB2 := bNext hb1 hb2
  have a0 := bSome hb2 a0
  have a1 := bSome hb2 a1
  have b0 := bSome hb2 b0
  have b3 := bSome hb2 b3
  clear hS1 hb1 hb2
  go_wp2_with fail
  refine (aLex_bad ⟨#[97, 32, 38, 32, 98]⟩ w2 (by decide) sent hS2.env _ _ alex3).mono ?_
  rintro e w3 ⟨e2, rfl, hE2, hb3⟩
  have hS3 := hS2.below hb3
  have hB3 := bNext hB2 hb3
  have a0 := bSome hb3 a0
  have a1 := bSome hb3 a1
  have b0 := bSome hb3 b0
  have b3 := bSome hb3 b3
  have hE1 : ErrAt w3 e1 sent 103 ((0 : Nat) : Int) := Blk.below hE1 hb3
  clear hS2 hB2 hb3
  go_wp2_with fail
  refine (aLex_row ⟨#[36, 40, 97, 32, 40, 98, 41, 32, 39, 41, 39, 41, 99]⟩ w3 (by decide) sent hS3.env _ alex4 (by decide)).mono ?_
  rintro e w4 ⟨g2, p2, rfl, hp3, hp4, hg2, hT2, hb4⟩
  obtain ⟨-, -, v2, c1, hP2⟩ := hT2 0 _ rfl
  obtain ⟨ao2, q2, rfl, hq4, hq5, hq6⟩ := hP2
  obtain ⟨x2, rfl, hx2, hX2⟩ := hq6 (by decide)
  obtain ⟨-, -, -, -, d4⟩ := hX2.facts 0 _ rfl
  have c1 : w4.cell? ⟨g2, 2, none⟩ = some (.slice (some ⟨x2, 0, none⟩) 2 q2) := c1
  replace d4 : w4.cell? ⟨x2, 4, none⟩ = some (.string ⟨#[97, 32, 40, 98, 41, 32, 39, 41, 39]⟩) := d4
  have hS4 := hS3.below hb4
  have hB4 := bNext hB3 hb4
  have a0 := bSome hb4 a0
  have a1 := bSome hb4 a1
  have b0 := bSome hb4 b0
  have b3 := bSome hb4 b3
  have hE1 : ErrAt w4 e1 sent 103 ((0 : Nat) : Int) := Blk.below hE1 hb4
  have hE2 : ErrAt w4 e2 sent 107 ((2 : Nat) : Int) := Blk.below hE2 hb4
  clear hS3 hB3 hb4 hT2 hX2 hq6
  go_wp2_with fail
  refine (rPlaced_any 103 0 rfl _).mono ?_
  unfold faultV
  rintro e w5 ⟨k, rfl, hk, hk2, hb5⟩
  have hB5 := bNext hB4 hb5
  have hS5 := hS4.below hb5
  have hE1 : ErrAt w5 e1 sent 103 ((0 : Nat) : Int) := Blk.below hE1 hb5
  have hE2 : ErrAt w5 e2 sent 107 ((2 : Nat) : Int) := Blk.below hE2 hb5
  clear hS4 hB4 hb5 a0 a1 b0 b3 c1 d4
  go_wp2_with fail
  refine (seeSame_at w5 sent hS5 103 (by decide) (by decide) _ e1 hE1 103 0 k hk).mono ?_
  rintro e w6 ⟨rfl, hb6⟩
  have hB6 := bNext hB5 hb6
  have hS6 := hS5.below hb6
  have hE2 : ErrAt w6 e2 sent 107 ((2 : Nat) : Int) := Blk.below hE2 hb6
  clear hS5 hB5 hb6 hE1
  go_wp2_with fail
  refine (rPlaced_any 107 2 rfl _).mono ?_
  unfold faultV
  rintro e w7 ⟨k2, rfl, hk3, hk4, hb7⟩
  have hB7 := bNext hB6 hb7
  have hS7 := hS6.below hb7
  have hE2 : ErrAt w7 e2 sent 107 ((2 : Nat) : Int) := Blk.below hE2 hb7
  clear hS6 hB6 hb7
  go_wp2_with fail
  refine (seeSame_at w7 sent hS7 107 (by decide) (by decide) _ e2 hE2 107 2 k2 hk3).mono ?_
  rintro e w8 ⟨rfl, hb8⟩
  have hB8 := bNext hB7 hb8
  clear hS7 hB7 hb8 hE2
  go_wp2_with fail
  go_ret
  exact ⟨rfl, hB8⟩

end Go.Proofs.YtdadgodjjfgmfaaDoor
