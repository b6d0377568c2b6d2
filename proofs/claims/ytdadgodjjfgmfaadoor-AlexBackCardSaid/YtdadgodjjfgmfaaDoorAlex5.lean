/- Dialect A's reader: what is between two double quotes. -/
import Derived.Test.YtdadgodjjfgmfaaDoorAlex4
namespace Go.Proofs.YtdadgodjjfgmfaaDoor
open Go Go.RowKit

theorem aPeek0 (r q B : Nat) (s : ByteArray) (i : Nat) (v : Value) (P : List APart) (j : Bool) (w : World) (hs : s.size ≤ 1000000) (hi : i ≤ 1000000) (hR : ARdr w r q B s i v P j) :
    Calls Tryd.prog 79 #[.pointer (some ⟨r, 0, none⟩), .int .i64 0] w fun e w' => e = .returned (.int .u8 (bat s i).toNat) ∧ Below w.heap.size w w' :=
  aPeek_any r q B s i v P j 0 w hs hi (by decide) hR

theorem idx3 (c : UInt8) (b : Bool) (w : World) (h : Hid ([36, 34, 92].contains c.toNat = b)) :
    Calls Tryd.prog 85 #[.string ⟨#[36, 34, 92]⟩, .int .u8 c.toNat] w fun e w' => ∃ x : Int, e = .returned (.int .i64 x) ∧ decide (0 ≤ x) = b ∧ w' = w := by
  refine (Tryd.strings_IndexByte _ _ _).mono ?_
  rintro e w' ⟨rfl, rfl⟩
  refine ⟨_, rfl, ?_, rfl⟩
  rw [indexByte_ge, show ((c.toNat : Int).toNat.toUInt8) = c from by simp, ← h.out]
  have h : ∀ n : Fin 256, List.contains ([36, 34, 92] : List UInt8) (UInt8.ofNat n.val) = List.contains ([36, 34, 92] : List Nat) (UInt8.ofNat n.val).toNat := by decide +kernel
  have h1 := h ⟨c.toNat, c.toNat_lt⟩
  simpa using h1

theorem subs_one (s : ByteArray) (i : Nat) (h : i < s.size) : subs s.data.toList (i : Int) ((i : Int) + 1) = [bat s i] := by
  unfold subs
  rw [Int.toNat_natCast, show ((i : Int) + 1).toNat = i + 1 from rfl, List.drop_take, drop_bat s i h, show i + 1 - i = 1 from by omega]
  rfl
theorem subs_two (s : ByteArray) (i : Nat) (h : i + 1 < s.size) : subs s.data.toList (i : Int) ((i : Int) + 2) = [bat s i, bat s (i + 1)] := by
  unfold subs
  rw [Int.toNat_natCast, show ((i : Int) + 2).toNat = i + 2 from rfl, List.drop_take, drop_bat s i (by omega), drop_bat s (i + 1) h, show i + 2 - i = 2 from by omega]
  rfl

theorem extract_two (x y : UInt8) : (bs [x, y]).extract 1 2 = bs [y] := by rw [extract_bs, bs_list]; rfl

section
variable (s : ByteArray) (a f i : Nat) (P : List APart) (j : Bool)
theorem double_eq : doubleA s.data.toList a (f + 1) i P j =
    if s.data.toList.length ≤ i then .error (103, a)
    else if (bat s i).toNat = 34 then .ok (i + 1, P, false)
    else if (bat s i).toNat = 92 ∧ i + 1 < s.data.toList.length then
      doubleA s.data.toList a f (i + 2) (bytesA P j 2 i (if [36, 34, 92].contains (bat s (i + 1)).toNat then [bat s (i + 1)] else [bat s i, bat s (i + 1)])) true
    else if (bat s i).toNat = 36 then match dollarA s.data.toList true i P j with
      | .error e => .error e
      | .ok (i', P', j') => doubleA s.data.toList a f i' P' j'
    else doubleA s.data.toList a f (i + 1) (bytesA P j 2 i [bat s i]) true := rfl
end

set_option maxHeartbeats 8000000 in
set_option maxRecDepth 100000 in
theorem aDouble_any (r q B : Nat) (s : ByteArray) (a : Nat) (v : Value) (P : List APart) (j : Bool) (w : World) (hs : s.size ≤ 8192) (hi : a < s.size) (hSm : SmallA P a) (hBw : B ≤ w.heap.size) (hR : ARdr w r q B s a v P j) (sent : Nat → Addr) (hE : Env w sent) (hG : ∀ c g, (c, g) ∈ errVars → ¬ RB r B g)
    (X : Except (Nat × Nat) AState) (hX : Hid (doubleA s.data.toList a (s.data.toList.length + 1) (a + 1) (P ++ [⟨2, a, 0, false, []⟩]) true = X)) :
    Calls Tryd.prog 93 #[.pointer (some ⟨r, 0, none⟩)] w (StepPost w r q B s sent X) := by
  have hs' : s.size ≤ 1000000 := by omega
  have c1 := hR.c1
  have hPl : P.length ≤ 100000 := by have := hSm.1; omega
  have HA := Lib.hid (aAdd_any r q B s a v P j ⟨2, a, 0, false, []⟩ true w hPl hBw hR)
  unfold APart.cells at HA
  go_enter Tryd.func93, Tryd.ntmps93
  go_upto_region 3 with (go_at_call 91; refine HA.out.mono ?_; rintro e w2 ⟨rfl, ⟨v2, hR2⟩, hK2⟩)
  clear HA c1
  have c1 := hR2.c1
  have f1 := hR2.fr 1
  go_wp2_with fail
  have hS2 : SmallA (P ++ [⟨2, a, 0, false, []⟩]) (a + 1) := hSm.part _ (by simp) (by omega)
  go_loopg [] (s.size - (a + 1)) (fun n wr => ∃ (k f : Nat) (P' : List APart) (j' : Bool) (v' : Value), n = s.size - k ∧ k ≤ s.size ∧ s.size - k < f ∧ SmallA P' k ∧ ARdr wr r q B s k v' P' j' ∧ Kept (RB r B) w wr ∧ Hid (doubleA s.data.toList a f k P' j' = X))
  case atStart =>
    exact ⟨a + 1, _, _, true, v2, rfl, by omega, by rw [size_eq]; omega, hS2, ARdr.moveTo (.of hR2) (by go_num), hK2.setCell (fun _ => .inl rfl) _, hX⟩
  case round =>
    clear hX hR hR2 hK2 hS2 hSm hPl c1 f1
    obtain ⟨k, f, P', j', v', rfl, hk, hf, hSm, hR, hK, hX⟩ := hrel
    obtain ⟨g, rfl⟩ : ∃ g, f = g + 1 := ⟨f - 1, by omega⟩
    rw [double_eq, size_eq] at hX
    have hPl : P'.length ≤ 100000 := by have := hSm.1; omega
    have hPt : ∀ p ∈ P', p.text.length ≤ 1000000 := fun p hp => by have := hSm.2 p hp; omega
    have hBr : B ≤ wr.heap.size := Nat.le_trans hBw hK.size
    have HM := Lib.hid fun w1 h => aMore_any r q B s k v' P' j' w1 hs' (by omega) h
    by_cases hlt : k < s.size
    · have hX1 := Lib.hid ((if_neg (by omega)).symm.trans hX.out)
      rw [show decide (k < s.size) = true from by rw [decide_eq_true_eq]; exact hlt] at HM
      have HP := Lib.hid fun w1 h => aPeek0 r q B s k v' P' j' w1 hs' (by omega) h
      clear hX
      go_upto_block 2 with (first
        | (go_at_call 78; refine (HM.out _ hR).mono ?_; rintro e w3 ⟨rfl, hb3⟩; have hR3 := hR.below hb3)
        | (go_at_call 79; refine (HP.out _ hR3).mono ?_; rintro e w4 ⟨rfl, hb4⟩))
      have hR4 := hR3.below hb4
      have hK4 := (hK.andBelow hb3).andBelow hb4
      have hBr4 : B ≤ w4.heap.size := Nat.le_trans hBw hK4.size
      clear hR hK hBr hR3 hb3 hb4 HM HP
      have c1 := hR4.c1
      have f1 := hR4.fr 1
      by_cases h34 : (bat s k).toNat = 34
      · have HX := Lib.hid ((if_pos h34).symm.trans hX1.out)
        have d1 : (((bat s k).toNat : Int) == 34) = true := by rw [beq_iff_eq]; omega
        have f3 := hR4.fr 3
        have c3 := hR4.c3
        clear hX1 h34
        go_wp2_with fail
        go_ret
        exact StepPost.ok HX rfl ((ARdr.moveTo (.of hR4) (by go_num)).join false) ((hK4.setCell (fun _ => .inl rfl) _).setCell (fun _ => .inl rfl) _)
      · have hX2 := Lib.hid ((if_neg h34).symm.trans hX1.out)
        have d1 : (((bat s k).toNat : Int) == 34) = false := by rw [beq_eq_false_iff_ne]; omega
        have g0 := cell_regrown hR4.c0
        have g1 := cell_regrown hR4.c1
        have g2 := cell_regrown hR4.cs
        clear hX1
        go_upto_region 12 with fail
        by_cases h92 : (bat s k).toNat = 92
        · have d2 : (((bat s k).toNat : Int) == 92) = true := by rw [beq_iff_eq]; omega
          refine wp_region_quiet_below (by kernel_rfl) (by kernel_rfl) ?_
          repeat (go_big_quiet_step ((go_at_call 35; exact Calls.regrown_of (bLen_any s _))))
          refine wpQuiet_nil ?_
          intro w5 hw'
          have hb : Below w4.heap.size w4 w5 := below_of_regrown hw'
          clear hw'
          have hR5 := hR4.below hb
          have hK5 := hK4.andBelow hb
          have hBr5 : B ≤ w5.heap.size := Nat.le_trans hBr4 hb.size
          clear hR4 hK4 hBr4 hb g0 g1 g2 c1 f1
          by_cases hlt2 : k + 1 < s.size
          · have hX3 := Lib.hid ((if_pos ⟨h92, hlt2⟩).symm.trans hX2.out)
            clear hX2 h92 h34
            have g0 := cell_regrown hR5.c0
            have g1 := cell_regrown hR5.c1
            have g2 := cell_regrown hR5.cs
            go_upto_region 13 with fail
            refine wp_region_quiet_below (by kernel_rfl) (by kernel_rfl) ?_
            repeat (go_big_quiet_step ((go_at_call 26; exact Calls.regrown_of (bSlice_any s _ _ _ hs'))))
            refine wpQuiet_nil ?_
            intro w6 hw'
            have hb : Below w5.heap.size w5 w6 := below_of_regrown hw'
            clear hw'
            rw [subs_two s k hlt2]
            have hR6 := hR5.below hb
            have hK6 := hK5.andBelow hb
            have hBr6 : B ≤ w6.heap.size := Nat.le_trans hBr5 hb.size
            clear hR5 hK5 hBr5 hb g0 g1 g2
            have hz2 : (bs [bat s k, bat s (k + 1)]).size = 2 := rfl
            have hge : (bs [bat s k, bat s (k + 1)])[1] = bat s (k + 1) := rfl
            cases hcc : [36, 34, 92].contains (bat s (k + 1)).toNat with
            | true =>
              rw [hcc] at hX3
              have HX := Lib.hid ((congrArg (fun l => doubleA s.data.toList a g (k + 2) (bytesA P' j' 2 k l) true) (if_pos rfl)).symm.trans hX3.out)
              have HI := Lib.hid hcc
              clear hX3 hcc
              go_upto_region 16 with (go_at_call 85; refine (idx3 (bat s (k + 1)) true _ HI).mono ?_; rintro e w7 ⟨x, rfl, hx, rfl⟩)
              rw [extract_two]
              have HB := Lib.hid (aBytes_any r q B s k v' P' j' 2 ([bat s (k + 1)]) w7 hPt (by simp) hPl (by omega) hBr6 hR6 _ (Lib.hid rfl))
              have hSm' : SmallA (bytesA P' j' 2 k ([bat s (k + 1)])) (k + 2) := hSm.bytes _ _ _ _ (by simp) (by omega)
              go_wp2_with (go_at_call 95; refine HB.out.mono ?_; rintro e w8 ⟨rfl, ⟨v8, hR8⟩, hK8⟩; have c1 := hR8.c1; have f1 := hR8.fr 1)
              go_roundg (s.size - (k + 2))
              case measure => omega
              case rel => exact ⟨k + 2, g, _, true, v8, rfl, by omega, by omega, hSm', ARdr.moveTo (.of hR8) (by go_num), (hK6.same hK8).setCell (fun _ => .inl rfl) _, HX⟩
            | false =>
              rw [hcc] at hX3
              have HX := Lib.hid ((congrArg (fun l => doubleA s.data.toList a g (k + 2) (bytesA P' j' 2 k l) true) (if_neg (by decide))).symm.trans hX3.out)
              have HI := Lib.hid hcc
              clear hX3 hcc
              go_upto_region 16 with (go_at_call 85; refine (idx3 (bat s (k + 1)) false _ HI).mono ?_; rintro e w7 ⟨x, rfl, hx, rfl⟩)
              have HB := Lib.hid (aBytes_any r q B s k v' P' j' 2 ([bat s k, bat s (k + 1)]) w7 hPt (by simp) hPl (by omega) hBr6 hR6 _ (Lib.hid rfl))
              have hSm' : SmallA (bytesA P' j' 2 k ([bat s k, bat s (k + 1)])) (k + 2) := hSm.bytes _ _ _ _ (by simp) (by omega)
              go_wp2_with (go_at_call 95; refine HB.out.mono ?_; rintro e w8 ⟨rfl, ⟨v8, hR8⟩, hK8⟩; have c1 := hR8.c1; have f1 := hR8.fr 1)
              go_roundg (s.size - (k + 2))
              case measure => omega
              case rel => exact ⟨k + 2, g, _, true, v8, rfl, by omega, by omega, hSm', ARdr.moveTo (.of hR8) (by go_num), (hK6.same hK8).setCell (fun _ => .inl rfl) _, HX⟩
          · have hX3 := Lib.hid ((if_neg (fun h => hlt2 h.2)).symm.trans hX2.out)
            have hXd := Lib.hid ((if_neg (by omega)).symm.trans hX3.out)
            obtain ⟨hR4, hK4, hBr4⟩ : ARdr w5 r q B s k v' P' j' ∧ Kept (RB r B) w w5 ∧ B ≤ w5.heap.size := ⟨hR5, hK5, hBr5⟩
            have c1 := hR4.c1
            have f1 := hR4.fr 1
            have d3 : (((bat s k).toNat : Int) == 36) = false := by rw [beq_eq_false_iff_ne]; omega
            clear hX2 hX3 hR5 hK5 hBr5 h92 h34
            have HX := Lib.hid (show doubleA s.data.toList a g (k + 1) (bytesA P' j' 2 k (subs s.data.toList (k : Int) ((k : Int) + 1))) true = X by rw [subs_one s k hlt]; exact hXd.out)
            have hSm' : SmallA (bytesA P' j' 2 k (subs s.data.toList (k : Int) ((k : Int) + 1))) (k + 1) := hSm.bytes _ _ _ _ (by rw [subs_one s k hlt]; simp) (by omega)
            clear hXd hSm
            have hw1 : IntKind.i64.wrap ((k : Int) + 1) = (k : Int) + 1 := by rw [IntKind.wrap_i64]; omega
            have HB := Lib.hid fun w5 h1 h2 => aBytes_any r q (B) s k v' P' j' 2 (subs s.data.toList (k : Int) ((k : Int) + 1)) w5 hPt (by rw [subs_one s k hlt]; simp) hPl (by omega) h1 h2 _ (Lib.hid rfl)
            have c0 := hR4.c0
            have cs := hR4.cs
            go_wp2_with fail
            go_region_held3 (fun w' => w'.cell? ⟨r, 0, none⟩ = some (.pointer (some ⟨q, 0, none⟩)) ∧ w'.cell? ⟨r, 1, none⟩ = some (.int .i64 (k : Int)) ∧ w'.cell? ⟨q, 0, none⟩ = some (.string s)) (first | exact ⟨k0, k1, ks⟩ | exact ⟨hR5.c0, hR5.c1, hR5.cs⟩ | go_keep)
              (first
                | (go_at_call 26; refine (bSlice_any s _ _ _ hs').mono ?_; rintro e w5 ⟨rfl, hb5⟩; have hR5 := hR4.drew.below hb5; have hBw5 : B ≤ w5.heap.size := Nat.le_trans hBr4 hb5.size)
                | (go_at_call 95; refine (HB.out _ hBw5 hR5).mono ?_; rintro e w6 ⟨rfl, ⟨v6, hR6⟩, hK6⟩; have k0 := hR6.c0; have k1 := hR6.c1; have ks := hR6.cs))
            have f1' := hR6.fr 1
            have hK7 := (hK4.drew.andBelow hb5).same hK6
            clear hK6 hK4 hR4 hR5 hb5 c0 c1 cs f1 HB
            go_wp2_with fail
            go_roundg (s.size - (k + 1))
            case measure => omega
            case rel => exact ⟨k + 1, g, _, true, v6, rfl, by omega, by omega, hSm', ARdr.moveTo (.of hR6) (by go_num), hK7.setCell (fun _ => .inl rfl) _, HX⟩
        · have d2 : (((bat s k).toNat : Int) == 92) = false := by rw [beq_eq_false_iff_ne]; omega
          have hX3 := Lib.hid ((if_neg (fun h => h92 h.1)).symm.trans hX2.out)
          clear hX2 h92 h34
          refine wp_region_quiet_below (by kernel_rfl) (by kernel_rfl) ?_
          repeat (go_big_quiet_step ((go_at_call 35; exact Calls.regrown_of (bLen_any s _))))
          refine wpQuiet_nil ?_
          intro w5 hw'
          have hb : Below w4.heap.size w4 w5 := below_of_regrown hw'
          clear hw'
          have hR5 := hR4.below hb
          have hK5 := hK4.andBelow hb
          have hBr5 : B ≤ w5.heap.size := Nat.le_trans hBr4 hb.size
          clear hR4 hK4 hBr4 hb g0 g1 g2 c1 f1
          obtain ⟨hR4, hK4, hBr4⟩ : ARdr w5 r q B s k v' P' j' ∧ Kept (RB r B) w w5 ∧ B ≤ w5.heap.size := ⟨hR5, hK5, hBr5⟩
          clear hR5 hK5 hBr5
          by_cases h36 : (bat s k).toNat = 36
          · have d3 : (((bat s k).toNat : Int) == 36) = true := by rw [beq_iff_eq]; omega
            have hX4 := Lib.hid ((if_pos h36).symm.trans hX3.out)
            have he1 := hK4.cell (hE 106 3 (by decide)) (hG 106 3 (by decide))
            have he2 := hK4.cell (hE 104 6 (by decide)) (hG 104 6 (by decide))
            clear hX3 h36
            cases hd : dollarA s.data.toList true k P' j' with
            | error e =>
              obtain ⟨ec, ep⟩ := e
              rw [hd] at hX4
              have HX := Lib.hid hX4.out
              dsimp only at HX
              have HD := Lib.hid (aDollar_any r q B s k v' P' j' true w5 hs hlt hPt hPl hBr4 hR4 sent he1 he2 _ (Lib.hid hd))
              clear hX4 hd
              go_wp2_with (go_at_call 94; refine HD.out.mono ?_; rintro e w6 hst; obtain ⟨b, rfl, hE6, hK6⟩ := hst)
              go_ret
              exact StepPost.bad HX rfl hE6 (hK4.same hK6)
            | ok st =>
              obtain ⟨i2, P2, j2⟩ := st
              rw [hd] at hX4
              have HX := Lib.hid hX4.out
              dsimp only at HX
              obtain ⟨hS6, hi6, hi7⟩ := dollarA_small _ _ _ _ _ _ _ _ (by rw [size_eq]; exact hlt) hSm hd
              rw [size_eq] at hi7
              have HD := Lib.hid (aDollar_any r q B s k v' P' j' true w5 hs hlt hPt hPl hBr4 hR4 sent he1 he2 _ (Lib.hid hd))
              clear hX4 hd
              go_wp2_with (go_at_call 94; refine HD.out.mono ?_; rintro e w6 hst; obtain ⟨rfl, ⟨v6, hR6⟩, hK6⟩ := hst)
              go_roundg (s.size - i2)
              case measure => omega
              case rel => exact ⟨i2, g, P2, j2, v6, rfl, by omega, by omega, hS6, hR6, hK4.same hK6, HX⟩
          · have hXd := Lib.hid ((if_neg h36).symm.trans hX3.out)
            have d3 : (((bat s k).toNat : Int) == 36) = false := by rw [beq_eq_false_iff_ne]; omega
            have c1 := hR4.c1
            have f1 := hR4.fr 1
            clear hX3 h36
            have HX := Lib.hid (show doubleA s.data.toList a g (k + 1) (bytesA P' j' 2 k (subs s.data.toList (k : Int) ((k : Int) + 1))) true = X by rw [subs_one s k hlt]; exact hXd.out)
            have hSm' : SmallA (bytesA P' j' 2 k (subs s.data.toList (k : Int) ((k : Int) + 1))) (k + 1) := hSm.bytes _ _ _ _ (by rw [subs_one s k hlt]; simp) (by omega)
            clear hXd hSm
            have hw1 : IntKind.i64.wrap ((k : Int) + 1) = (k : Int) + 1 := by rw [IntKind.wrap_i64]; omega
            have HB := Lib.hid fun w5 h1 h2 => aBytes_any r q (B) s k v' P' j' 2 (subs s.data.toList (k : Int) ((k : Int) + 1)) w5 hPt (by rw [subs_one s k hlt]; simp) hPl (by omega) h1 h2 _ (Lib.hid rfl)
            have c0 := hR4.c0
            have cs := hR4.cs
            go_wp2_with fail
            go_region_held3 (fun w' => w'.cell? ⟨r, 0, none⟩ = some (.pointer (some ⟨q, 0, none⟩)) ∧ w'.cell? ⟨r, 1, none⟩ = some (.int .i64 (k : Int)) ∧ w'.cell? ⟨q, 0, none⟩ = some (.string s)) (first | exact ⟨k0, k1, ks⟩ | exact ⟨hR5.c0, hR5.c1, hR5.cs⟩ | go_keep)
              (first
                | (go_at_call 26; refine (bSlice_any s _ _ _ hs').mono ?_; rintro e w5 ⟨rfl, hb5⟩; have hR5 := hR4.drew.below hb5; have hBw5 : B ≤ w5.heap.size := Nat.le_trans hBr4 hb5.size)
                | (go_at_call 95; refine (HB.out _ hBw5 hR5).mono ?_; rintro e w6 ⟨rfl, ⟨v6, hR6⟩, hK6⟩; have k0 := hR6.c0; have k1 := hR6.c1; have ks := hR6.cs))
            have f1' := hR6.fr 1
            have hK7 := (hK4.drew.andBelow hb5).same hK6
            clear hK6 hK4 hR4 hR5 hb5 c0 c1 cs f1 HB
            go_wp2_with fail
            go_roundg (s.size - (k + 1))
            case measure => omega
            case rel => exact ⟨k + 1, g, _, true, v6, rfl, by omega, by omega, hSm', ARdr.moveTo (.of hR6) (by go_num), hK7.setCell (fun _ => .inl rfl) _, HX⟩
    · have hX1 := Lib.hid ((if_pos (by omega)).symm.trans hX.out)
      rw [show decide (k < s.size) = false from by rw [decide_eq_false_iff_not]; exact hlt] at HM
      have hev := hK.cell (hE 103 2 (by decide)) (hG 103 2 (by decide))
      clear hX
      go_wp2_with (first
        | (go_at_call 78; refine (HM.out _ hR).mono ?_; rintro e w3 ⟨rfl, hb3⟩; have hev3 := bSome hb3 hev)
        | (go_at_call 80; refine (aFault_any _ _ _ _).mono ?_; rintro e w6 ⟨rfl, rfl⟩))
      go_ret
      exact StepPost.bad hX1 rfl (by unfold ErrAt; (apply Blk.as); (exact Blk.newAt _ _ rfl); rfl) ((hK.andBelow hb3).alloc _)

end Go.Proofs.YtdadgodjjfgmfaaDoor
