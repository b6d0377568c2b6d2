/- Dialect A's reader: a word's parts. -/
import Derived.Test.YtdadgodjjfgmfaaDoorAlex5
import Derived.Deep.RegionWith
namespace Go.Proofs.YtdadgodjjfgmfaaDoor
open Go Go.RowKit

section
variable (s : ByteArray) (f i : Nat) (P : List APart) (j : Bool)
theorem word_eq : wordA s.data.toList (f + 1) i P j =
    if s.data.toList.length ≤ i then .ok (i, P)
    else if endsA (bat s i) = true then .ok (i, P)
    else if (bat s i).toNat = 92 then wordA s.data.toList f (min (i + 2) s.data.toList.length) (P ++ [⟨2, i, 0, false, if i + 1 < s.data.toList.length then [bat s (i + 1)] else [92]⟩]) false
    else if (bat s i).toNat = 39 then match singleA s.data.toList i P with
      | .error e => .error e
      | .ok (i', P', j') => wordA s.data.toList f i' P' j'
    else if (bat s i).toNat = 34 then match doubleA s.data.toList i (s.data.toList.length + 1) (i + 1) (P ++ [⟨2, i, 0, false, []⟩]) true with
      | .error e => .error e
      | .ok (i', P', j') => wordA s.data.toList f i' P' j'
    else if (bat s i).toNat = 36 then match dollarA s.data.toList false i P j with
      | .error e => .error e
      | .ok (i', P', j') => wordA s.data.toList f i' P' j'
    else wordA s.data.toList f (i + 1) (bytesA P j 1 i [bat s i]) true := by
  rw [wordA, singleA]
  cases idxA 39 (List.drop (i + 1) s.data.toList) <;> rfl
end

theorem subs_next (s : ByteArray) (i : Nat) : subs s.data.toList ((i : Int) + 1) ((i : Int) + 2) = if i + 1 < s.size then [bat s (i + 1)] else [] := by
  by_cases h : i + 1 < s.size
  · rw [if_pos h]
    have := subs_one s (i + 1) h
    exact this
  · rw [if_neg h]
    unfold subs
    apply List.drop_eq_nil_of_le
    rw [List.length_take, size_eq, show ((i : Int) + 1).toNat = i + 1 from rfl]
    omega

theorem singleA_small (s : ByteArray) (i : Nat) (P : List APart) (i2 : Nat) (P2 : List APart) (j2 : Bool) (h : singleA s.data.toList i P = .ok (i2, P2, j2)) (hS : SmallA P i) (hi : i < s.size) : SmallA P2 i2 ∧ i < i2 ∧ i2 ≤ s.size := by
  unfold singleA at h
  split at h
  · cases h
  · rename_i n hn
    cases h
    have hx := idxA_lt _ _ _ hn
    rw [List.length_drop, size_eq] at hx
    have hsl := subs_le s.data.toList (i + 1) (i + 1 + n)
    exact ⟨hS.part _ (by dsimp only; simp only [Int.natCast_add, Int.cast_ofNat_Int] at *; omega) (by omega), by omega, by omega⟩

/-- What a word comes to. -/
def WordPost (w : World) (r q : Nat) (s : ByteArray) (sent : Nat → Addr) (X : Except (Nat × Nat) (Nat × List APart)) (e : Ending) (w' : World) : Prop :=
  match X with
  | .ok (i', P') => ∃ v' j', e = .returned (.tuple #[v', .nilIface]) ∧ ARdr w' r q w.heap.size s i' v' P' j' ∧ Kept (At r) w w'
  | .error (c, p) => ∃ b, e = .returned (.tuple #[.slice none 0 0, .iface 102 (.pointer (some ⟨b, 0, none⟩))]) ∧ ErrAt w' b sent c p ∧ Kept (At r) w w'
theorem Kept.at {w w' : World} {r : Nat} (h : Kept (RB r w.heap.size) w w') : Kept (At r) w w' := h.mono fun k hk e => e.elim id fun h => absurd hk (by omega)
theorem WordPost.ok {w w' : World} {r q : Nat} {s : ByteArray} {sent : Nat → Addr} {X : Except (Nat × Nat) (Nat × List APart)} {e : Ending} {i' : Nat} {P' : List APart} {j' : Bool} {v' : Value} (hX : Hid (.ok (i', P') = X)) (he : e = .returned (.tuple #[v', .nilIface])) (hR : ARdr w' r q w.heap.size s i' v' P' j') (hK : Kept (RB r w.heap.size) w w') : WordPost w r q s sent X e w' := by
  have := hX.out
  subst this
  exact ⟨v', j', he, hR, hK.at⟩
theorem WordPost.bad {w w' : World} {r q : Nat} {s : ByteArray} {sent : Nat → Addr} {X : Except (Nat × Nat) (Nat × List APart)} {e : Ending} {c p b : Nat} (hX : Hid (.error (c, p) = X)) (he : e = .returned (.tuple #[.slice none 0 0, .iface 102 (.pointer (some ⟨b, 0, none⟩))])) (hE : ErrAt w' b sent c p) (hK : Kept (RB r w.heap.size) w w') : WordPost w r q s sent X e w' := by
  have := hX.out
  subst this
  exact ⟨b, he, hE, hK.at⟩

set_option maxHeartbeats 8000000 in
set_option maxRecDepth 100000 in
theorem aWord_any (r q : Nat) (s : ByteArray) (i : Nat) (v : Value) (j : Bool) (w : World) (hs : s.size ≤ 8192) (hi : i ≤ s.size) (hH : Blk w r [.pointer (some ⟨q, 0, none⟩), .int .i64 i, v, .bool j]) (hQ : Blk w q [.string s]) (hne : r ≠ q) (sent : Nat → Addr) (hE : Env w sent) (hG : ∀ c g, (c, g) ∈ errVars → g ≠ r)
    (X : Except (Nat × Nat) (Nat × List APart)) (hX : Hid (wordA s.data.toList (s.data.toList.length + 1) i [] false = X)) :
    Calls Tryd.prog 81 #[.pointer (some ⟨r, 0, none⟩)] w (WordPost w r q s sent X) := by
  have hs' : s.size ≤ 1000000 := by omega
  have hGB : Hid (∀ c g, (c, g) ∈ errVars → ¬ RB r w.heap.size g) := Lib.hid fun c g hg e => e.elim (hG c g hg) (fun h => by have := hE.lt hg; omega)
  have d2 := hH.cell 2 rfl
  have d3 := hH.cell 3 rfl
  have f2 := hH.free 2
  have f3 := hH.free 3
  have hR0 : ARdr ((w.setCell ⟨r, 2, none⟩ (.slice none 0 0)).setCell ⟨r, 3, none⟩ (.bool false)) r q w.heap.size s i (.slice none 0 0) [] false :=
    ⟨((hH.set 2 (.slice none 0 0)).set 3 (.bool false)).as rfl, (hQ.other hne _).other hne _, PartsAt.nil _ _, hne, hH.lt, hQ.lt⟩
  have hK0 : Kept (RB r w.heap.size) w ((w.setCell ⟨r, 2, none⟩ (.slice none 0 0)).setCell ⟨r, 3, none⟩ (.bool false)) := ((Kept.refl _ _).setCell (fun _ => .inl rfl) _).setCell (fun _ => .inl rfl) _
  go_enter Tryd.func81, Tryd.ntmps81
  go_wp2_with fail
  go_loopg [] (s.size - i) (fun n wr => ∃ (k f : Nat) (P' : List APart) (j' : Bool) (v' : Value), n = s.size - k ∧ k ≤ s.size ∧ s.size - k < f ∧ SmallA P' k ∧ ARdr wr r q w.heap.size s k v' P' j' ∧ Kept (RB r w.heap.size) w wr ∧ Hid (wordA s.data.toList f k P' j' = X))
  case atStart => exact ⟨i, _, [], false, _, rfl, hi, by rw [size_eq]; omega, SmallA.nil _, hR0, hK0, hX⟩
  case round =>
    clear hX hR0 hK0 d2 d3 f2 f3 hQ hH
    obtain ⟨k, f, P', j', v', rfl, hk, hf, hSm, hR, hK, hX⟩ := hrel
    obtain ⟨g, rfl⟩ : ∃ g, f = g + 1 := ⟨f - 1, by omega⟩
    rw [word_eq, size_eq] at hX
    have hPl : P'.length ≤ 100000 := by have := hSm.1; omega
    have hPt : ∀ p ∈ P', p.text.length ≤ 1000000 := fun p hp => by have := hSm.2 p hp; omega
    have HM := Lib.hid fun w1 h => aMore_any r q w.heap.size s k v' P' j' w1 hs' (by omega) h
    by_cases hlt : k < s.size
    · have hX1 := Lib.hid ((if_neg (by omega)).symm.trans hX.out)
      rw [show decide (k < s.size) = true from by rw [decide_eq_true_eq]; exact hlt] at HM
      have HP := Lib.hid fun w1 h => aPeek0 r q w.heap.size s k v' P' j' w1 hs' (by omega) h
      clear hX
      cases hen : endsA (bat s k) with
      | true =>
        have HX := Lib.hid ((if_pos hen).symm.trans hX1.out)
        have HEn := Lib.hid hen
        clear hX1 hen
        go_wp2_with (first
          | (go_at_call 78; refine (HM.out _ hR).mono ?_; rintro e w3 ⟨rfl, hb3⟩; have hR3 := hR.below hb3)
          | (go_at_call 79; refine (HP.out _ hR3).mono ?_; rintro e w4 ⟨rfl, hb4⟩; have hR4 := hR3.below hb4; have c2 := hR4.c2)
          | (go_at_call 90; refine (aEnds_any _ _).mono ?_; rintro e w' ⟨rfl, rfl⟩; rw [HEn.out]))
        go_ret2
        exact WordPost.ok HX rfl hR4 ((hK.andBelow hb3).andBelow hb4)
      | false =>
        have hX2 := Lib.hid ((if_neg (by rw [hen]; decide)).symm.trans hX1.out)
        have HEn := Lib.hid hen
        clear hX1 hen
        go_upto_block 2 with (first
          | (go_at_call 78; refine (HM.out _ hR).mono ?_; rintro e w3 ⟨rfl, hb3⟩; have hR3 := hR.below hb3)
          | (go_at_call 79; first | (refine (HP.out _ hR3).mono ?_; rintro e w4 ⟨rfl, hb4⟩; have hR4 := hR3.below hb4) | (refine (HP.out _ hR4).mono ?_; rintro e w5 ⟨rfl, hb5⟩; have hR5 := hR4.below hb5))
          | (go_at_call 90; refine (aEnds_any _ _).mono ?_; rintro e w' ⟨rfl, rfl⟩; rw [HEn.out]))
        have hK5 := ((hK.andBelow hb3).andBelow hb4).andBelow hb5
        have hBr5 : w.heap.size ≤ w5.heap.size := hK5.size
        clear hR hK hR3 hR4 hb3 hb4 hb5 HM HP HEn
        obtain ⟨hR4, hK4, hBr4⟩ : ARdr w5 r q w.heap.size s k v' P' j' ∧ Kept (RB r w.heap.size) w w5 ∧ w.heap.size ≤ w5.heap.size := ⟨hR5, hK5, hBr5⟩
        clear hR5 hK5 hBr5
        by_cases h92 : (bat s k).toNat = 92
        · have hX3 := Lib.hid ((if_pos h92).symm.trans hX2.out)
          have d1 : (((bat s k).toNat : Int) == 92) = true := by rw [beq_iff_eq]; omega
          have g0 := cell_regrown hR4.c0
          have g1 := cell_regrown hR4.c1
          have g2 := cell_regrown hR4.cs
          clear hX2 h92
          go_upto_region 8 with fail
          refine wp_region_quiet_below (by kernel_rfl) (by kernel_rfl) ?_
          repeat (go_big_quiet_step ((go_at_call 26; exact Calls.regrown_of (bSlice_any s _ _ _ hs'))))
          refine wpQuiet_nil ?_
          intro w6 hw'
          have hb : Below w5.heap.size w5 w6 := below_of_regrown hw'
          clear hw'
          have hR6 := hR4.below hb
          have hK6 := hK4.andBelow hb
          clear hR4 hK4 hBr4 hb g0 g1 g2
          rw [subs_next]
          by_cases hlt2 : k + 1 < s.size
          · rw [if_pos hlt2]
            rw [if_pos hlt2] at hX3
            have hz : 0 < (bs [bat s (k + 1)]).size := by simp [bs_size]
            obtain ⟨e1, e2⟩ := ne_empty _ hz
            clear hz
            have HA := Lib.hid (aAdd_any r q w.heap.size s k v' P' j' ⟨2, k, 0, false, [bat s (k + 1)]⟩ false w6 hPl hK6.size hR6)
            unfold APart.cells at HA
            have hS7 : SmallA (P' ++ [⟨2, k, 0, false, [bat s (k + 1)]⟩]) (min (k + 2) s.size) := hSm.part _ (by simp; omega) (by omega)
            have c1 := hR6.c1
            go_upto_region 12 with (go_at_call 91; refine HA.out.mono ?_; rintro e w7 ⟨rfl, ⟨v7, hR7⟩, hK7⟩)
            have hK8 := hK6.same hK7
            clear hR6 hK6 hK7 HA c1
            have c0 := hR7.drew.c0
            have c1 := hR7.drew.c1
            have cs := hR7.drew.cs
            have f1 := hR7.drew.fr 1
            have hw2 : IntKind.i64.wrap ((k : Int) + 2) = (k : Int) + 2 := by rw [IntKind.wrap_i64]; omega
            go_region_with (go_at_call 35; refine (bLen_any s _).mono ?_; rintro e w8 ⟨rfl, hb8⟩; have hR8 := hR7.drew.below hb8; have c18 := hR8.c1; have f18 := hR8.fr 1)
            all_goals
              go_wp2_with fail
              go_roundg (s.size - min (k + 2) s.size)
              case measure => omega
              case rel => exact ⟨min (k + 2) s.size, g, _, false, v7, rfl, by omega, by omega, hS7, ARdr.moveTo (.of hR8) (by congr 1; omega), (hK8.drew.andBelow hb8).setCell (fun _ => .inl rfl) _, hX3⟩
          · rw [if_neg hlt2]
            rw [if_neg hlt2] at hX3
            have e1 : (bs []).toList = [] := by rw [Lib.toList_data, bs_list]
            have e2 : (bs []).toList.isEmpty = true := by rw [e1]; rfl
            have HA := Lib.hid (aAdd_any r q w.heap.size s k v' P' j' ⟨2, k, 0, false, [92]⟩ false w6 hPl hK6.size hR6)
            unfold APart.cells at HA
            have hS7 : SmallA (P' ++ [⟨2, k, 0, false, [92]⟩]) (min (k + 2) s.size) := hSm.part _ (by simp; omega) (by omega)
            have c1 := hR6.c1
            go_upto_region 12 with (go_at_call 91; refine HA.out.mono ?_; rintro e w7 ⟨rfl, ⟨v7, hR7⟩, hK7⟩)
            have hK8 := hK6.same hK7
            clear hR6 hK6 hK7 HA c1
            have c0 := hR7.drew.c0
            have c1 := hR7.drew.c1
            have cs := hR7.drew.cs
            have f1 := hR7.drew.fr 1
            have hw2 : IntKind.i64.wrap ((k : Int) + 2) = (k : Int) + 2 := by rw [IntKind.wrap_i64]; omega
            go_region_with (go_at_call 35; refine (bLen_any s _).mono ?_; rintro e w8 ⟨rfl, hb8⟩; have hR8 := hR7.drew.below hb8; have c18 := hR8.c1; have f18 := hR8.fr 1)
            all_goals
              go_wp2_with fail
              go_roundg (s.size - min (k + 2) s.size)
              case measure => omega
              case rel => exact ⟨min (k + 2) s.size, g, _, false, v7, rfl, by omega, by omega, hS7, ARdr.moveTo (.of hR8) (by congr 1; omega), (hK8.drew.andBelow hb8).setCell (fun _ => .inl rfl) _, hX3⟩
        · have hX3 := Lib.hid ((if_neg h92).symm.trans hX2.out)
          have d1 : (((bat s k).toNat : Int) == 92) = false := by rw [beq_eq_false_iff_ne]; omega
          clear hX2 h92
          have he3 := hK4.cell (hE 103 2 (by decide)) (hGB.out 103 2 (by decide))
          have he1 := hK4.cell (hE 106 3 (by decide)) (hGB.out 106 3 (by decide))
          have he2 := hK4.cell (hE 104 6 (by decide)) (hGB.out 104 6 (by decide))
          by_cases h39 : (bat s k).toNat = 39
          · have hX4 := Lib.hid ((if_pos h39).symm.trans hX3.out)
            have d2 : (((bat s k).toNat : Int) == 39) = true := by rw [beq_iff_eq]; omega
            clear hX3 h39
            cases hd : singleA s.data.toList k P' with
            | error e =>
              obtain ⟨ec, ep⟩ := e
              rw [hd] at hX4
              have HX := Lib.hid hX4.out
              dsimp only at HX
              have HD := Lib.hid (aSingle_any r q w.heap.size s k v' P' j' w5 hs' hlt hPl hBr4 hR4 sent he3 _ (Lib.hid (by first | exact hd | (rw [size_eq]; exact hd))))
              clear hX4 hd
              go_wp2_with (go_at_call 92; refine HD.out.mono ?_; rintro e w6 hst; obtain ⟨b, rfl, hE6, hK6⟩ := hst)
              go_ret2
              exact WordPost.bad HX rfl hE6 (hK4.same hK6)
            | ok st =>
              obtain ⟨i2, P2, j2⟩ := st
              rw [hd] at hX4
              have HX := Lib.hid hX4.out
              dsimp only at HX
              obtain ⟨hS6, hi6, hi7⟩ : SmallA P2 i2 ∧ k < i2 ∧ i2 ≤ s.size := singleA_small s k P' i2 P2 j2 hd hSm hlt
              have HD := Lib.hid (aSingle_any r q w.heap.size s k v' P' j' w5 hs' hlt hPl hBr4 hR4 sent he3 _ (Lib.hid (by first | exact hd | (rw [size_eq]; exact hd))))
              clear hX4 hd
              go_wp2_with (go_at_call 92; refine HD.out.mono ?_; rintro e w6 hst; obtain ⟨rfl, ⟨v6, hR6⟩, hK6⟩ := hst)
              go_roundg (s.size - i2)
              case measure => omega
              case rel => exact ⟨i2, g, P2, j2, v6, rfl, by omega, by omega, hS6, hR6, hK4.same hK6, HX⟩
          · have hX4 := Lib.hid ((if_neg h39).symm.trans hX3.out)
            have d2 : (((bat s k).toNat : Int) == 39) = false := by rw [beq_eq_false_iff_ne]; omega
            clear hX3 h39
            by_cases h34 : (bat s k).toNat = 34
            · have hX5 := Lib.hid ((if_pos h34).symm.trans hX4.out)
              have d3 : (((bat s k).toNat : Int) == 34) = true := by rw [beq_iff_eq]; omega
              clear hX4 h34
              have hE5 : Env w5 sent := fun c g hg => hK4.cell (hE c g hg) (hGB.out c g hg)
              cases hd : doubleA s.data.toList k (s.size + 1) (k + 1) (P' ++ [⟨2, k, 0, false, []⟩]) true with
              | error e =>
                obtain ⟨ec, ep⟩ := e
                rw [hd] at hX5
                have HX := Lib.hid hX5.out
                dsimp only at HX
                have HD := Lib.hid (aDouble_any r q w.heap.size s k v' P' j' w5 hs hlt hSm hBr4 hR4 sent hE5 hGB.out _ (Lib.hid (by first | exact hd | (rw [size_eq]; exact hd))))
                clear hX5 hd
                go_wp2_with (go_at_call 93; refine HD.out.mono ?_; rintro e w6 hst; obtain ⟨b, rfl, hE6, hK6⟩ := hst)
                go_ret2
                exact WordPost.bad HX rfl hE6 (hK4.same hK6)
              | ok st =>
                obtain ⟨i2, P2, j2⟩ := st
                rw [hd] at hX5
                have HX := Lib.hid hX5.out
                dsimp only at HX
                obtain ⟨hS6, hi6, hi7⟩ : SmallA P2 i2 ∧ k < i2 ∧ i2 ≤ s.size := (by have h := doubleA_small _ _ _ _ _ _ _ _ _ (hSm.part ⟨2, k, 0, false, []⟩ (by simp) (Nat.lt_succ_self k)) (by rw [size_eq]; exact hlt) hd; rw [size_eq] at h; exact ⟨h.1, by omega, h.2.2⟩)
                have HD := Lib.hid (aDouble_any r q w.heap.size s k v' P' j' w5 hs hlt hSm hBr4 hR4 sent hE5 hGB.out _ (Lib.hid (by first | exact hd | (rw [size_eq]; exact hd))))
                clear hX5 hd
                go_wp2_with (go_at_call 93; refine HD.out.mono ?_; rintro e w6 hst; obtain ⟨rfl, ⟨v6, hR6⟩, hK6⟩ := hst)
                go_roundg (s.size - i2)
                case measure => omega
                case rel => exact ⟨i2, g, P2, j2, v6, rfl, by omega, by omega, hS6, hR6, hK4.same hK6, HX⟩
            · have hX5 := Lib.hid ((if_neg h34).symm.trans hX4.out)
              have d3 : (((bat s k).toNat : Int) == 34) = false := by rw [beq_eq_false_iff_ne]; omega
              clear hX4 h34
              by_cases h36 : (bat s k).toNat = 36
              · have hX6 := Lib.hid ((if_pos h36).symm.trans hX5.out)
                have d4 : (((bat s k).toNat : Int) == 36) = true := by rw [beq_iff_eq]; omega
                clear hX5 h36
                cases hd : dollarA s.data.toList false k P' j' with
                | error e =>
                  obtain ⟨ec, ep⟩ := e
                  rw [hd] at hX6
                  have HX := Lib.hid hX6.out
                  dsimp only at HX
                  have HD := Lib.hid (aDollar_any r q w.heap.size s k v' P' j' false w5 hs hlt hPt hPl hBr4 hR4 sent he1 he2 _ (Lib.hid (by first | exact hd | (rw [size_eq]; exact hd))))
                  clear hX6 hd
                  go_wp2_with (go_at_call 94; refine HD.out.mono ?_; rintro e w6 hst; obtain ⟨b, rfl, hE6, hK6⟩ := hst)
                  go_ret2
                  exact WordPost.bad HX rfl hE6 (hK4.same hK6)
                | ok st =>
                  obtain ⟨i2, P2, j2⟩ := st
                  rw [hd] at hX6
                  have HX := Lib.hid hX6.out
                  dsimp only at HX
                  obtain ⟨hS6, hi6, hi7⟩ : SmallA P2 i2 ∧ k < i2 ∧ i2 ≤ s.size := (by have h := dollarA_small _ _ _ _ _ _ _ _ (by rw [size_eq]; exact hlt) hSm hd; rw [size_eq] at h; exact h)
                  have HD := Lib.hid (aDollar_any r q w.heap.size s k v' P' j' false w5 hs hlt hPt hPl hBr4 hR4 sent he1 he2 _ (Lib.hid (by first | exact hd | (rw [size_eq]; exact hd))))
                  clear hX6 hd
                  go_wp2_with (go_at_call 94; refine HD.out.mono ?_; rintro e w6 hst; obtain ⟨rfl, ⟨v6, hR6⟩, hK6⟩ := hst)
                  go_roundg (s.size - i2)
                  case measure => omega
                  case rel => exact ⟨i2, g, P2, j2, v6, rfl, by omega, by omega, hS6, hR6, hK4.same hK6, HX⟩
              · have hX6 := Lib.hid ((if_neg h36).symm.trans hX5.out)
                have d4 : (((bat s k).toNat : Int) == 36) = false := by rw [beq_eq_false_iff_ne]; omega
                have c1 := hR4.c1
                have f1 := hR4.fr 1
                have HX := Lib.hid (show wordA s.data.toList g (k + 1) (bytesA P' j' 1 k (subs s.data.toList (k : Int) ((k : Int) + 1))) true = X by rw [subs_one s k hlt]; exact hX6.out)
                have hSm' : SmallA (bytesA P' j' 1 k (subs s.data.toList (k : Int) ((k : Int) + 1))) (k + 1) := hSm.bytes _ _ _ _ (by rw [subs_one s k hlt]; simp) (by omega)
                clear hX5 hX6 h36 hSm he1 he2 he3
                have hw1 : IntKind.i64.wrap ((k : Int) + 1) = (k : Int) + 1 := by rw [IntKind.wrap_i64]; omega
                have HB := Lib.hid fun w5 h1 h2 => aBytes_any r q (w.heap.size) s k v' P' j' 1 (subs s.data.toList (k : Int) ((k : Int) + 1)) w5 hPt (by rw [subs_one s k hlt]; simp) hPl (by omega) h1 h2 _ (Lib.hid rfl)
                have c0 := hR4.c0
                have cs := hR4.cs
                go_wp2_with fail
                go_region_held3 (fun w' => w'.cell? ⟨r, 0, none⟩ = some (.pointer (some ⟨q, 0, none⟩)) ∧ w'.cell? ⟨r, 1, none⟩ = some (.int .i64 (k : Int)) ∧ w'.cell? ⟨q, 0, none⟩ = some (.string s)) (first | exact ⟨k0, k1, ks⟩ | exact ⟨hR5.c0, hR5.c1, hR5.cs⟩ | go_keep)
                  (first
                    | (go_at_call 26; refine (bSlice_any s _ _ _ hs').mono ?_; rintro e w5 ⟨rfl, hb5⟩; have hR5 := hR4.drew.below hb5; have hBw5 : w.heap.size ≤ w5.heap.size := Nat.le_trans hBr4 hb5.size)
                    | (go_at_call 95; refine (HB.out _ hBw5 hR5).mono ?_; rintro e w6 ⟨rfl, ⟨v6, hR6⟩, hK6⟩; have k0 := hR6.c0; have k1 := hR6.c1; have ks := hR6.cs))
                have f1' := hR6.fr 1
                have hK7 := (hK4.drew.andBelow hb5).same hK6
                clear hK6 hK4 hR4 hR5 hb5 c0 c1 cs f1 HB
                go_wp2_with fail
                go_roundg (s.size - (k + 1))
                case measure => omega
                case rel => exact ⟨k + 1, g, _, true, v6, rfl, by omega, by omega, hSm', ARdr.moveTo (.of hR6) (by go_num), hK7.setCell (fun _ => .inl rfl) _, HX⟩
    · have hX1 := Lib.hid ((if_pos (by omega)).symm.trans hX.out)
      rw [show decide (k < s.size) = false from by rw [decide_eq_false_iff_not]; exact hlt] at HM
      clear hX
      go_wp2_with (go_at_call 78; refine (HM.out _ hR).mono ?_; rintro e w3 ⟨rfl, hb3⟩; have hR3 := hR.below hb3; have c2 := hR3.c2)
      go_ret2
      exact WordPost.ok hX1 rfl hR3 (hK.andBelow hb3)

end Go.Proofs.YtdadgodjjfgmfaaDoor
