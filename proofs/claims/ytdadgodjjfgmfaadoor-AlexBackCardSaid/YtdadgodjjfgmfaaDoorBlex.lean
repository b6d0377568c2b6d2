/- What dialect B's reader does to the world. -/
import Derived.Test.YtdadgodjjfgmfaaDoorBuilder
import Derived.Test.YtdadgodjjfgmfaaDoorPureB
import Derived.Deep.LoopGhost
namespace Go.Proofs.YtdadgodjjfgmfaaDoor
open Go Go.RowKit

/-- The reader at block r, over the source at block q, at a place. -/
structure Rdr (w : World) (r q : Nat) (s : ByteArray) (i : Nat) : Prop where
  here : Blk w r [.pointer (some ⟨q, 0, none⟩), .int .i64 i]
  src : Blk w q [.string s]
  ne : r ≠ q

theorem Rdr.below {w w' : World} {r q : Nat} {s : ByteArray} {i : Nat} (h : Rdr w r q s i) (hb : Below w.heap.size w w') : Rdr w' r q s i :=
  ⟨h.here.below hb, h.src.below hb, h.ne⟩
theorem Rdr.kept {w w' : World} {r q : Nat} {s : ByteArray} {i : Nat} {S : Nat → Prop} (h : Rdr w r q s i) (hk : Kept S w w') (h1 : ¬ S r) (h2 : ¬ S q) : Rdr w' r q s i :=
  ⟨h.here.kept hk h1, h.src.kept hk h2, h.ne⟩
theorem Rdr.alloc {w : World} {r q : Nat} {s : ByteArray} {i : Nat} (h : Rdr w r q s i) (o : Obj) : Rdr (w.alloc o) r q s i := ⟨h.here.alloc o, h.src.alloc o, h.ne⟩
theorem Rdr.drew {w : World} {r q : Nat} {s : ByteArray} {i : Nat} (h : Rdr w r q s i) : Rdr w.drew r q s i := ⟨h.here, h.src, h.ne⟩
theorem Rdr.drewN {w : World} {r q : Nat} {s : ByteArray} {i : Nat} (h : Rdr w r q s i) (n : Nat) : Rdr (w.drewN n) r q s i := ⟨h.here, h.src, h.ne⟩
theorem Rdr.other {w : World} {r q : Nat} {s : ByteArray} {i : Nat} (h : Rdr w r q s i) {p : Addr} (h1 : p.block ≠ r) (h2 : p.block ≠ q) (u : Value) : Rdr (w.setCell p u) r q s i := ⟨h.here.other h1 u, h.src.other h2 u, h.ne⟩
theorem Rdr.move {w : World} {r q : Nat} {s : ByteArray} {i : Nat} (h : Rdr w r q s i) (j : Nat) : Rdr (w.setCell ⟨r, 1, none⟩ (.int .i64 j)) r q s j :=
  ⟨by have := h.here.set 1 (.int .i64 j); exact this, h.src.other h.ne _, h.ne⟩
/-- The reader, at whatever place. -/
def RdrAny (w : World) (r q : Nat) (s : ByteArray) : Prop := ∃ i, Rdr w r q s i
theorem RdrAny.of {w : World} {r q : Nat} {s : ByteArray} {i : Nat} (h : Rdr w r q s i) : RdrAny w r q s := ⟨i, h⟩
theorem RdrAny.alloc {w : World} {r q : Nat} {s : ByteArray} (h : RdrAny w r q s) (o : Obj) : RdrAny (w.alloc o) r q s := h.elim fun _ k => ⟨_, k.alloc o⟩
theorem RdrAny.other {w : World} {r q : Nat} {s : ByteArray} (h : RdrAny w r q s) {p : Addr} (h1 : p.block ≠ r) (h2 : p.block ≠ q) (u : Value) : RdrAny (w.setCell p u) r q s := h.elim fun _ k => ⟨_, k.other h1 h2 u⟩
theorem RdrAny.move {w : World} {r q : Nat} {s : ByteArray} (h : RdrAny w r q s) (j : Nat) : RdrAny (w.setCell ⟨r, 1, none⟩ (.int .i64 j)) r q s := h.elim fun _ k => ⟨_, k.move j⟩
theorem Rdr.moveTo {w : World} {r q : Nat} {s : ByteArray} {j : Nat} {v : Value} (h : RdrAny w r q s) (hv : v = .int .i64 (j : Nat)) : Rdr (w.setCell ⟨r, 1, none⟩ v) r q s j := by
  rw [hv]
  exact h.elim fun _ k => k.move j
theorem Rdr.c0 {w : World} {r q : Nat} {s : ByteArray} {i : Nat} (h : Rdr w r q s i) : w.cell? ⟨r, 0, none⟩ = some (.pointer (some ⟨q, 0, none⟩)) := h.here.cell 0 rfl
theorem Rdr.c1 {w : World} {r q : Nat} {s : ByteArray} {i : Nat} (h : Rdr w r q s i) : w.cell? ⟨r, 1, none⟩ = some (.int .i64 i) := h.here.cell 1 rfl
theorem Rdr.cs {w : World} {r q : Nat} {s : ByteArray} {i : Nat} (h : Rdr w r q s i) : w.cell? ⟨q, 0, none⟩ = some (.string s) := h.src.cell 0 rfl
theorem Rdr.f1 {w : World} {r q : Nat} {s : ByteArray} {i : Nat} (h : Rdr w r q s i) : w.frozen? ⟨r, 1, none⟩ = false := h.here.free 1

theorem skip_blank (s : ByteArray) (k : Nat) (h : k < s.size) (hb : (bat s k).toNat = 32 ∨ (bat s k).toNat = 9) : k + skipN false (s.data.toList.drop k) = k + 1 + skipN false (s.data.toList.drop (k + 1)) := by
  rw [drop_bat s k h, skipN, if_pos hb]; omega
theorem skip_sharp (s : ByteArray) (k : Nat) (h : k < s.size) (hb : (bat s k).toNat = 35) : k + skipN false (s.data.toList.drop k) = k + 1 + skipN true (s.data.toList.drop (k + 1)) := by
  rw [drop_bat s k h, skipN, if_neg (by omega), if_pos hb]; omega
theorem skip_else (s : ByteArray) (k : Nat) (h : k < s.size) (hb : ¬ ((bat s k).toNat = 32 ∨ (bat s k).toNat = 9)) (hc : ¬ (bat s k).toNat = 35) : k + skipN false (s.data.toList.drop k) = k := by
  rw [drop_bat s k h, skipN, if_neg hb, if_neg hc]; rfl
theorem skip_at_end (b : Bool) (s : ByteArray) (k : Nat) (h : s.size ≤ k) : k + skipN b (s.data.toList.drop k) = k := by
  rw [List.drop_eq_nil_of_le (by rw [size_eq]; omega)]
  cases b <;> rfl
theorem skip_on (s : ByteArray) (k : Nat) (h : k < s.size) (hb : ¬ (bat s k).toNat = 10) : k + skipN true (s.data.toList.drop k) = k + 1 + skipN true (s.data.toList.drop (k + 1)) := by
  rw [drop_bat s k h, skipN, if_neg hb]; omega
theorem skip_line (s : ByteArray) (k : Nat) (h : k < s.size) (hb : (bat s k).toNat = 10) : k + skipN true (s.data.toList.drop k) = k + skipN false (s.data.toList.drop k) := by
  rw [drop_bat s k h, skipN, if_pos hb, skipN, if_neg (by omega), if_neg (by omega)]

set_option maxHeartbeats 1000000 in
theorem xSkip_any (r q : Nat) (s : ByteArray) (i t : Nat) (w : World) (hs : s.size ≤ 1000000) (hi : i ≤ s.size) (hR : Rdr w r q s i) (ht : Hid (i + skipN false (s.data.toList.drop i) = t)) :
    Calls Tryd.prog 45 #[.pointer (some ⟨r, 0, none⟩)] w fun e w' => e = .returned (.tuple #[]) ∧ Rdr w' r q s t ∧ Kept (At r) w w' := by
  go_enter Tryd.func45, Tryd.ntmps45
  go_wp2_with fail
  go_loopg [] (s.size - i) (fun n wr => ∃ k : Nat, n = s.size - k ∧ k ≤ s.size ∧ Rdr wr r q s k ∧ Kept (At r) w wr ∧ Hid (k + skipN false (s.data.toList.drop k) = t))
  case atStart => exact ⟨i, rfl, hi, hR, Kept.refl _ _, ht⟩
  case round =>
    obtain ⟨k, hn, hk, hR, hK, ht⟩ := hrel
    clear hi
    have g0 := cell_regrown hR.c0
    have g1 := cell_regrown hR.c1
    have g2 := cell_regrown hR.cs
    go_wp2_with fail
    by_cases hlt : k < s.size
    · refine wp_region_quiet_below (by kernel_rfl) (by kernel_rfl) ?_
      repeat (go_big_quiet_step ((go_at_call 27; exact Calls.regrown_of (bByte_in s k _ hs hlt))))
      refine wpQuiet_nil ?_
      intro w1 hw'
      have hb : Below wr.heap.size wr w1 := below_of_regrown hw'
      clear hw'
      have hR1 := hR.below hb
      have hK1 := hK.andBelow hb
      have k0 := hR1.c0
      have k1 := hR1.c1
      have k2 := hR1.cs
      have f1 := hR1.f1
      clear g0 g1 g2 hb
      by_cases hbl : (bat s k).toNat = 32 ∨ (bat s k).toNat = 9
      · have HN := Lib.hid ((skip_blank s k hlt hbl).symm.trans ht.out)
        rcases hbl with hbl | hbl
        · have d1 : (((bat s k).toNat : Int) == 32) = true := by rw [beq_iff_eq]; omega
          clear hbl
          go_wp2_with fail
          go_roundg (s.size - (k + 1))
          case measure => omega
          case rel => exact ⟨k + 1, rfl, by omega, hR1.move (k + 1), hK1.setCell (p := ⟨r, 1, none⟩) (fun _ => rfl) _, HN⟩
        · have d1 : (((bat s k).toNat : Int) == 32) = false := by rw [beq_eq_false_iff_ne]; omega
          have d2 : (((bat s k).toNat : Int) == 9) = true := by rw [beq_iff_eq]; omega
          clear hbl
          go_wp2_with fail
          go_roundg (s.size - (k + 1))
          case measure => omega
          case rel => exact ⟨k + 1, rfl, by omega, hR1.move (k + 1), hK1.setCell (p := ⟨r, 1, none⟩) (fun _ => rfl) _, HN⟩
      · by_cases hsh : (bat s k).toNat = 35
        · have HN := Lib.hid ((skip_sharp s k hlt hsh).symm.trans ht.out)
          have d1 : (((bat s k).toNat : Int) == 32) = false := by rw [beq_eq_false_iff_ne]; omega
          have d2 : (((bat s k).toNat : Int) == 9) = false := by rw [beq_eq_false_iff_ne]; omega
          have d3 : (((bat s k).toNat : Int) == 35) = true := by rw [beq_iff_eq]; omega
          have d4 : (((bat s k).toNat : Int) == 10) = false := by rw [beq_eq_false_iff_ne]; omega
          have d5 : (((bat s k).toNat : Int) != 10) = true := by rw [bne_iff_ne]; omega
          have hk35 := Lib.hid hsh
          clear hbl hsh
          go_wp2_with fail
          obtain ⟨wo, rfl⟩ : ∃ wo : World, wo = w1 := ⟨_, rfl⟩
          go_loopg [2, 3] (s.size - k) (fun n c x wr => ∃ j : Nat, n = s.size - j ∧ k ≤ j ∧ j ≤ s.size ∧ Rdr wr r q s j ∧ Kept (At r) w wr ∧ 
            ((j < s.size ∧ c = .int .u8 (bat s j).toNat ∧ x = .bool true ∧ Hid ((j = k ∧ k + 1 + skipN true (s.data.toList.drop (k + 1)) = t) ∨ (k < j ∧ j + skipN true (s.data.toList.drop j) = t))) ∨ (s.size = j ∧ c = .int .u8 0 ∧ x = .bool false ∧ Hid (j = t))))
          case atStart => exact ⟨k, rfl, Nat.le_refl _, hk, hR1, hK1, .inl ⟨hlt, rfl, rfl, Lib.hid (.inl ⟨rfl, HN.out⟩)⟩⟩
          case round =>
            obtain ⟨j, rfl, hkj, hj, hR, hK, hcase⟩ := hrel
            clear HN hK1 hR1 k0 k1 k2 f1
            rcases hcase with ⟨hlt, rfl, rfl, ht⟩ | ⟨hge, rfl, rfl, ht⟩
            · by_cases h10 : (bat s j).toNat = 10
              · have HT : Hid (k < j ∧ j + skipN false (s.data.toList.drop j) = t) := Lib.hid (by
                  rcases ht.out with ⟨rfl, _⟩ | ⟨h1, h⟩
                  · exact absurd (hk35.out.symm.trans h10) (by decide)
                  · rw [skip_line s j hlt h10] at h; exact ⟨h1, h⟩)
                have e1 : (((bat s j).toNat : Int) != 10) = false := by rw [bne_eq_false_iff_eq]; omega
                clear h10
                go_wp2_with fail
                go_roundg (s.size - j)
                case measure => have := HT.out.1; omega
                case rel => exact ⟨j, rfl, hj, hR, hK, Lib.hid HT.out.2⟩
              · have HT : Hid (j + 1 + skipN true (s.data.toList.drop (j + 1)) = t) := Lib.hid (by
                  rcases ht.out with ⟨rfl, h⟩ | ⟨_, h⟩
                  · exact h
                  · rw [skip_on s j hlt h10] at h; exact h)
                have e1 : (((bat s j).toNat : Int) != 10) = true := by rw [bne_iff_ne]; omega
                have k1 := hR.c1
                have f1 := hR.f1
                clear h10 ht
                go_wp2_with fail
                generalize hw2 : wr.setCell ⟨r, 1, none⟩ (.int .i64 (↑j + 1)) = w2
                have hR2 : Rdr w2 r q s (j + 1) := by rw [← hw2]; exact hR.move (j + 1)
                have hK2 : Kept (At r) w w2 := by rw [← hw2]; exact hK.setCell (p := ⟨r, 1, none⟩) (fun _ => rfl) _
                clear hw2 k1 f1
                have g0 := cell_regrown hR2.c0
                have g1 := cell_regrown hR2.c1
                have g2 := cell_regrown hR2.cs
                by_cases hlt2 : j + 1 < s.size
                · refine wp_region_quiet_below (by kernel_rfl) (by kernel_rfl) ?_
                  repeat (go_big_quiet_step ((go_at_call 27; exact Calls.regrown_of (bByte_in s (j + 1) _ hs hlt2))))
                  refine wpQuiet_nil ?_
                  intro w1 hw'
                  have hb : Below w2.heap.size w2 w1 := below_of_regrown hw'
                  clear hw'
                  clear g0 g1 g2
                  go_wp2_with fail
                  go_roundg (s.size - (j + 1))
                  case measure => omega
                  case rel => exact ⟨j + 1, rfl, by omega, by omega, hR2.below hb, hK2.andBelow hb, .inl ⟨hlt2, rfl, rfl, Lib.hid (.inr ⟨by omega, HT.out⟩)⟩⟩
                · refine wp_region_quiet_below (by kernel_rfl) (by kernel_rfl) ?_
                  repeat (go_big_quiet_step ((go_at_call 27; exact Calls.regrown_of (bByte_high s (j + 1) _ hs (by omega)))))
                  refine wpQuiet_nil ?_
                  intro w1 hw'
                  have hb : Below w2.heap.size w2 w1 := below_of_regrown hw'
                  clear hw'
                  clear g0 g1 g2
                  go_wp2_with fail
                  go_roundg (s.size - (j + 1))
                  case measure => omega
                  case rel => exact ⟨j + 1, rfl, by omega, by omega, hR2.below hb, hK2.andBelow hb, .inr ⟨by omega, rfl, rfl, Lib.hid (by rw [← HT.out, skip_at_end true s (j + 1) (by omega)])⟩⟩
            · have HT : Hid (k < j ∧ j + skipN false (s.data.toList.drop j) = t) := Lib.hid (by
                rw [skip_at_end false s j (by omega)]; exact ⟨by omega, ht.out⟩)
              clear hge
              go_wp2_with fail
              go_roundg (s.size - j)
              case measure => have := HT.out.1; omega
              case rel => exact ⟨j, rfl, hj, hR, hK, Lib.hid HT.out.2⟩
        · have HN := Lib.hid ((skip_else s k hlt hbl hsh).symm.trans ht.out)
          have d1 : (((bat s k).toNat : Int) == 32) = false := by rw [beq_eq_false_iff_ne]; omega
          have d2 : (((bat s k).toNat : Int) == 9) = false := by rw [beq_eq_false_iff_ne]; omega
          have d3 : (((bat s k).toNat : Int) == 35) = false := by rw [beq_eq_false_iff_ne]; omega
          clear hbl hsh
          go_wp2_with fail
          (try simp only [Exit.inBlock, Exit.then])
          refine bodyPost_ret (results_none rfl _ _ _) rfl ?_
          exact ⟨rfl, by rw [← HN.out]; exact hR1, hK1⟩
    · have HN := Lib.hid ((skip_at_end false s k (by omega)).symm.trans ht.out)
      refine wp_region_quiet_below (by kernel_rfl) (by kernel_rfl) ?_
      repeat (go_big_quiet_step ((go_at_call 27; exact Calls.regrown_of (bByte_high s k _ hs (by omega)))))
      refine wpQuiet_nil ?_
      intro w1 hw'
      have hb : Below wr.heap.size wr w1 := below_of_regrown hw'
      clear hw'
      go_wp2_with fail
      (try simp only [Exit.inBlock, Exit.then])
      refine bodyPost_ret (results_none rfl _ _ _) rfl ?_
      exact ⟨rfl, by rw [← HN.out]; exact hR.below hb, hK.andBelow hb⟩

end Go.Proofs.YtdadgodjjfgmfaaDoor
