/- AlexNames. -/
import Derived.Test.YtdadgodjjfgmfaaDoorAlexPlaces
import Derived.Test.YtdadgodjjfgmfaaDoorRNames
namespace Go.Proofs.YtdadgodjjfgmfaaDoor
open Go Go.RowKit

theorem nameBytes_of (s : ByteArray) (h0 : 0 < s.size) (h1 : s.data.toList.all isGo = true) (h2 : isDigit (bat s 0) = false) : NameBytes s.data.toList := by
  have hd := drop_bat s 0 h0
  rw [List.drop_zero] at hd
  have hg : isGo (bat s 0) = true := List.all_eq_true.1 h1 _ (by rw [hd]; simp)
  refine ⟨by rw [hd]; simp, ?_, List.all_eq_true.1 h1⟩
  rw [hd]
  unfold isGo at hg
  rw [h2, Bool.or_false] at hg
  exact hg

set_option maxHeartbeats 4000000 in
set_option maxRecDepth 100000 in
theorem alexNames_long (s : ByteArray) (w : World) (sent : Nat → Addr) (hS : Sents w sent) (h : 40 < s.size) :
    Calls Tryd.prog 10 #[.string s] w fun e w' => e = .returned (.bool true) ∧ Below w.heap.size w w' := by
  go_enter Tryd.func10, Tryd.ntmps10
  go_wp2_with fail
  refine (first10_any w sent hS).mono ?_
  rintro e w1 ⟨rfl, hb1⟩
  go_wp2_with fail
  go_ret
  exact ⟨rfl, hb1⟩

set_option maxHeartbeats 4000000 in
set_option maxRecDepth 100000 in
theorem alexNames_none (s : ByteArray) (w : World) (sent : Nat → Addr) (hS : Sents w sent) (h : s.size ≤ 20) (hn : Hid (nameB s.data.toList = false)) :
    Calls Tryd.prog 10 #[.string s] w fun e w' => e = .returned (.bool true) ∧ Below w.heap.size w w' := by
  go_enter Tryd.func10, Tryd.ntmps10
  go_wp2_with fail
  refine (first10_any w sent hS).mono ?_
  rintro e w1 ⟨rfl, hb1⟩
  go_wp2_with (go_at_call 31; refine (rName_any _ _ (by omega)).mono ?_; rintro e w' ⟨rfl, rfl⟩; rw [hn.out])
  go_ret
  exact ⟨rfl, hb1⟩

set_option maxHeartbeats 8000000 in
set_option maxRecDepth 100000 in
theorem alexNames_in (s : ByteArray) (w : World) (sent : Nat → Addr) (hS : Sents w sent) (h : s.size ≤ 40) (h0 : 0 < s.size) (nb : Bool) (hn : Hid (nameB s.data.toList = nb)) (hc : nb = true ∨ (nb = false ∧ 20 < s.size)) :
    Calls Tryd.prog 10 #[.string s] w fun e w' => e = .returned (.bool true) ∧ Below w.heap.size w w' := by
  obtain ⟨e1, e2⟩ := ne_empty s h0
  go_enter Tryd.func10, Tryd.ntmps10
  go_wp2_with fail
  refine (first10_any w sent hS).mono ?_
  rintro e w1 ⟨rfl, hb1⟩
  have hS1 := hS.below hb1
  clear hS
  go_upto_region 2 with fail
  go_cut [30] (fun s30 w3 => s30 = .bool false ∧ w3 = w1)
  case first =>
    rcases hc with rfl | ⟨rfl, h20⟩
    · go_wp2_with (go_at_call 31; refine (rName_any _ _ (by omega)).mono ?_; rintro e w' ⟨rfl, rfl⟩; rw [hn.out])
      go_meet
      case rel => exact ⟨by first | rfl | (simp; done) | (simp; omega), rfl⟩
    · go_wp2_with (go_at_call 31; refine (rName_any _ _ (by omega)).mono ?_; rintro e w' ⟨rfl, rfl⟩; rw [hn.out])
      go_meet
      case rel => exact ⟨by first | rfl | (simp; done) | (simp; omega), rfl⟩
  case rest =>
    obtain ⟨rfl, rfl⟩ := hcut
    clear hn hc
    go_wp2_with fail
    go_loopg [4] (s.size) (fun m y w5 => ∃ k : Nat, m = s.size - k ∧ k ≤ s.size ∧ y = .int .i64 k ∧ w5 = wc ∧ Hid ((s.data.toList.take k).all isGo = true) ∧ Hid (0 < k → isDigit (bat s 0) = false))
    case atStart => exact ⟨0, rfl, Nat.zero_le _, rfl, rfl, Lib.hid rfl, Lib.hid fun h => absurd h (by decide)⟩
    case round =>
      obtain ⟨k, rfl, hk, rfl, rfl, hall, hdig⟩ := hrel
      by_cases hlt : k < s.size
      · have hB := Lib.hid (getElem_bat s k hlt)
        cases hg : isGo (s[k]) with
        | false =>
          have HG := Lib.hid hg
          clear hg
          go_wp2_with (go_at_call 32; refine (rLetter_any _ _).mono ?_; rintro e w' ⟨rfl, rfl⟩; rw [HG.out])
          go_ret
          exact ⟨rfl, hb1⟩
        | true =>
          have HG := Lib.hid hg
          have HA : Hid ((s.data.toList.take (k + 1)).all isGo = true) := Lib.hid (by rw [all_take_succ s k hlt, hall.out, ← hB.out, HG.out]; rfl)
          clear hg
          by_cases hk0 : k = 0
          · subst hk0
            have hgb := Lib.hid (getElem_bat s 0 h0)
            by_cases hd : isDigit s[0] = true
            · unfold isDigit at hd
              simp only [Bool.and_eq_true, decide_eq_true_eq] at hd
              obtain ⟨d1, d2⟩ := hd
              go_wp2_with (go_at_call 32; refine (rLetter_any _ _).mono ?_; rintro e w' ⟨rfl, rfl⟩; rw [HG.out])
              go_ret
              exact ⟨rfl, hb1⟩
            · have HD : Hid (0 < 0 + 1 → isDigit (bat s 0) = false) := Lib.hid fun _ => by rw [← hgb.out]; simpa using hd
              have hd' : s[0].toNat < 48 ∨ (48 ≤ s[0].toNat ∧ 57 < s[0].toNat) := by
                unfold isDigit at hd
                simp only [Bool.and_eq_true, decide_eq_true_eq] at hd
                omega
              clear hd
              rcases hd' with d1 | ⟨d1, d2⟩
              · go_wp2_with (go_at_call 32; refine (rLetter_any _ _).mono ?_; rintro e w' ⟨rfl, rfl⟩; rw [HG.out])
                go_roundg (s.size - (0 + 1))
                case measure => omega
                case rel => exact ⟨0 + 1, rfl, by omega, by go_num, rfl, HA, HD⟩
              · go_wp2_with (go_at_call 32; refine (rLetter_any _ _).mono ?_; rintro e w' ⟨rfl, rfl⟩; rw [HG.out])
                go_roundg (s.size - (0 + 1))
                case measure => omega
                case rel => exact ⟨0 + 1, rfl, by omega, by go_num, rfl, HA, HD⟩
          · have HD : Hid (0 < k + 1 → isDigit (bat s 0) = false) := Lib.hid fun _ => hdig.out (by omega)
            have k1 : ((k : Int) == 0) = false := by rw [beq_eq_false_iff_ne]; omega
            go_wp2_with (go_at_call 32; refine (rLetter_any _ _).mono ?_; rintro e w' ⟨rfl, rfl⟩; rw [HG.out])
            go_roundg (s.size - (k + 1))
            case measure => omega
            case rel => exact ⟨k + 1, rfl, by omega, by go_num, rfl, HA, HD⟩
      · have hNB := nameBytes_of s h0 (by have := hall.out; rw [List.take_of_length_le (by rw [size_eq]; omega)] at this; exact this) (hdig.out (by omega))
        have hx1 := lexA_name s.data.toList hNB
        have hx2 := lexA_braces s.data.toList hNB
        obtain ⟨U1, hU1⟩ : ∃ U, (⟨#[36]⟩ : ByteArray) ++ s = U := ⟨_, rfl⟩
        obtain ⟨T1, hT1⟩ : ∃ U, U1 ++ ⟨#[45]⟩ = U := ⟨_, rfl⟩
        obtain ⟨U2, hU2⟩ : ∃ U, (⟨#[120, 36, 123]⟩ : ByteArray) ++ s = U := ⟨_, rfl⟩
        obtain ⟨T2, hT2⟩ : ∃ U, U2 ++ ⟨#[125, 121]⟩ = U := ⟨_, rfl⟩
        have q1 : T1 = bs (36 :: (s.data.toList ++ [45])) := by
          rw [← hT1, ← hU1, show (⟨#[36]⟩ : ByteArray) ++ s = bs [36] ++ bs s.data.toList from by rw [bs_of]; rfl, show (⟨#[45]⟩ : ByteArray) = bs [45] from rfl, bsAppA, bsAppA]
          rfl
        have q2 : T2 = bs (120 :: 36 :: 123 :: (s.data.toList ++ [125, 121])) := by
          rw [← hT2, ← hU2, show (⟨#[120, 36, 123]⟩ : ByteArray) ++ s = bs [120, 36, 123] ++ bs s.data.toList from by rw [bs_of]; rfl, show (⟨#[125, 121]⟩ : ByteArray) = bs [125, 121] from rfl, bsAppA, bsAppA]
          rfl
        have y1 : U1.size ≤ 60 := by
          rw [← hU1, show (⟨#[36]⟩ : ByteArray) ++ s = bs [36] ++ bs s.data.toList from by rw [bs_of]; rfl, bsAppA, bs_size]
          simp only [List.length_append, List.length_cons, List.length_nil, size_eq]
          omega
        have y2 : U2.size ≤ 60 := by
          rw [← hU2, show (⟨#[120, 36, 123]⟩ : ByteArray) ++ s = bs [120, 36, 123] ++ bs s.data.toList from by rw [bs_of]; rfl, bsAppA, bs_size]
          simp only [List.length_append, List.length_cons, List.length_nil, size_eq]
          omega
        have y3 : T1.size ≤ 60 := by
          rw [q1, bs_size]
          simp only [List.length_append, List.length_cons, List.length_nil, size_eq]
          omega
        have y4 : T2.size ≤ 60 := by
          rw [q2, bs_size]
          simp only [List.length_append, List.length_cons, List.length_nil, size_eq]
          omega
        have l1 : T1.data.toList = 36 :: (s.data.toList ++ [45]) := by rw [q1, bs_list]
        have l2 : T2.data.toList = 120 :: 36 :: 123 :: (s.data.toList ++ [125, 121]) := by rw [q2, bs_list]
        rw [← l1] at hx1
        rw [← l2] at hx2
        simp only [size_eq] at hx1 hx2
        clear q1 q2 l1 l2 hNB hall hdig
        by_cases h20 : 20 < s.size
        · rw [if_neg (by omega)] at hx1 hx2
          have HX1 := Lib.hid hx1
          have HX2 := Lib.hid hx2
          clear hx1 hx2
          go_wp2_with fail
          refine (aLex_bad T1 wr (by omega) sent hS1.env _ _ HX1.out).mono ?_
          rintro e w2 ⟨b1, rfl, hE1, hb2⟩
          have hS2 := hS1.below hb2
          have hB2 := bNext hb1 hb2
          clear hS1 hb1 hb2
          go_wp2_with fail
          refine (aLex_bad T2 w2 (by omega) sent hS2.env _ _ HX2.out).mono ?_
          rintro e w3 ⟨b2, rfl, hE2, hb3⟩
          have hS3 := hS2.below hb3
          have hB3 := bNext hB2 hb3
          have hE1 : ErrAt w3 b1 sent 106 ((0 : Nat) : Int) := Blk.below hE1 hb3
          clear hS2 hB2 hb3 HX1 HX2
          go_wp2_with fail
          refine (rPlaced_any 106 0 rfl _).mono ?_
          unfold faultV
          rintro e w5 ⟨k, rfl, hk, hk2, hb5⟩
          have hB5 := bNext hB3 hb5
          have hS5 := hS3.below hb5
          have hE1 : ErrAt w5 b1 sent 106 ((0 : Nat) : Int) := Blk.below hE1 hb5
          have hE2 : ErrAt w5 b2 sent 106 ((1 : Nat) : Int) := Blk.below hE2 hb5
          clear hS3 hB3 hb5
          go_wp2_with fail
          refine (seeSame_at w5 sent hS5 106 (by decide) (by decide) _ b1 hE1 106 0 k hk).mono ?_
          rintro e w6 ⟨rfl, hb6⟩
          have hB6 := bNext hB5 hb6
          have hS6 := hS5.below hb6
          have hE2 : ErrAt w6 b2 sent 106 ((1 : Nat) : Int) := Blk.below hE2 hb6
          clear hS5 hB5 hb6 hE1
          go_wp2_with fail
          refine (rPlaced_any 106 1 rfl _).mono ?_
          unfold faultV
          rintro e w7 ⟨k2, rfl, hk3, hk4, hb7⟩
          have hB7 := bNext hB6 hb7
          have hS7 := hS6.below hb7
          have hE2 : ErrAt w7 b2 sent 106 ((1 : Nat) : Int) := Blk.below hE2 hb7
          clear hS6 hB6 hb7
          go_wp2_with fail
          refine (seeSame_at w7 sent hS7 106 (by decide) (by decide) _ b2 hE2 106 1 k2 hk3).mono ?_
          rintro e w8 ⟨rfl, hb8⟩
          have hB8 := bNext hB7 hb8
          clear hS7 hB7 hb8 hE2
          go_wp2_with fail
          go_ret
          exact ⟨rfl, hB8⟩
        · rw [if_pos (by omega)] at hx1 hx2
          have HX1 := Lib.hid hx1
          have HX2 := Lib.hid hx2
          clear hx1 hx2
          go_wp2_with fail
          refine (aLex_row T1 wr (by omega) sent hS1.env _ HX1.out (Nat.zero_lt_succ _)).mono ?_
          rintro e w2 ⟨g1, p1, rfl, hp1, hp2, hg1, hR1, hb2⟩
          obtain ⟨-, -, v1, a1, hP1⟩ := hR1 0 _ rfl
          obtain ⟨ao1, c1, rfl, hq1, hq2, hq3⟩ := hP1
          obtain ⟨x1, rfl, hx1, hX1⟩ := hq3 (Nat.zero_lt_succ _)
          obtain ⟨b0, -, -, -, b4⟩ := hX1.facts 0 _ rfl
          replace a1 : w2.cell? ⟨g1, 2, none⟩ = some (.slice (some ⟨x1, 0, none⟩) 2 c1) := a1
          replace b0 : w2.cell? ⟨x1, 0, none⟩ = some (.int .i64 3) := b0
          replace b4 : w2.cell? ⟨x1, 4, none⟩ = some (.string s) := by
            dsimp only at b4
            rw [bs_of] at b4
            exact b4
          have hS2 := hS1.below hb2
          have hB2 := bNext hb1 hb2
          clear hS1 hb1 hb2 hR1 hq3 hX1
          go_wp2_with fail
          refine (aLex_row T2 w2 (by omega) sent hS2.env _ HX2.out (Nat.zero_lt_succ _)).mono ?_
          rintro e w3 ⟨g2, p2, rfl, hp3, hp4, hg2, hR2, hb3⟩
          obtain ⟨-, -, v2, a2, hP2⟩ := hR2 0 _ rfl
          obtain ⟨ao2, c2, rfl, hq4, hq5, hq6⟩ := hP2
          obtain ⟨x2, rfl, hx2, hX2⟩ := hq6 (Nat.zero_lt_succ _)
          obtain ⟨-, -, -, -, d4⟩ := hX2.facts 1 _ rfl
          obtain ⟨-, -, -, -, f4⟩ := hX2.facts 2 _ rfl
          replace a2 : w3.cell? ⟨g2, 2, none⟩ = some (.slice (some ⟨x2, 0, none⟩) 3 c2) := a2
          replace d4 : w3.cell? ⟨x2, 9, none⟩ = some (.string s) := by
            dsimp only at d4
            rw [bs_of] at d4
            exact d4
          replace f4 : w3.cell? ⟨x2, 14, none⟩ = some (.string ⟨#[121]⟩) := f4
          have hB3 := bNext hB2 hb3
          replace a1 := bSome hb3 a1
          replace b0 := bSome hb3 b0
          replace b4 := bSome hb3 b4
          clear hS2 hB2 hb3 hR2 hq6 hX2
          go_wp2_with fail
          go_ret
          exact ⟨rfl, hB3⟩

/-- patoislaw10.AlexNames. -/
theorem alexNames_any (s : ByteArray) (w : World) (sent : Nat → Addr) (hS : Sents w sent) :
    Calls Tryd.prog 10 #[.string s] w fun e w' => e = .returned (.bool true) ∧ Below w.heap.size w w' := by
  by_cases h : 40 < s.size
  · exact alexNames_long s w sent hS h
  · by_cases h0 : s.size = 0
    · exact alexNames_none s w sent hS (by omega) (Lib.hid (by rw [empty_of_size s h0]; rfl))
    · cases hn : nameB s.data.toList with
      | true => exact alexNames_in s w sent hS (by omega) (by omega) true (Lib.hid hn) (.inl rfl)
      | false =>
        by_cases h20 : s.size ≤ 20
        · exact alexNames_none s w sent hS h20 (Lib.hid hn)
        · exact alexNames_in s w sent hS (by omega) (by omega) false (Lib.hid hn) (.inr ⟨rfl, by omega⟩)

end Go.Proofs.YtdadgodjjfgmfaaDoor
