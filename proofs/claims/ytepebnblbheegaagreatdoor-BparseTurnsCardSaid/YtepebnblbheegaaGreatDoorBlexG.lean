/- strings.Builder: what a builder that the call itself has made holds behind WriteByte and WriteString. (After the guide's own shelf, whose layings do not fit this toolchain's copyCheck.) -/
import Derived.Test.YtepebnblbheegaaGreatDoorTextG
import Derived.Lib.Builder
import Derived.Lib.AppendStr
import Derived.Test.YtepebnblbheegaaGreatDoorPureG
import Derived.Deep.LoopGhost
import Derived.Deep.RegionHeld3
import Derived.Deep.CutBlock
import Derived.Deep.DeepCutAuto
namespace Go.Proofs.YtepebnblbheegaaGreatDoor
open Go Go.RowKit

theorem infoBld : (Tryz.prog.info? 188).map (fun i => i.size) = some 2 := by kernel_rfl
theorem infoByte : (Tryz.prog.info? 5).map (fun i => (i.zero, i.size, i.bytes)) = some (some (.int .u8 0), 1, 1) := by kernel_rfl
theorem liesBld : liesAt Tryz.prog Tryz.prog.depth 188 (2 / Tryz.prog.cellsOf 188) 0 188 1 = true := by kernel_rfl

set_option maxHeartbeats 1000000 in
set_option maxRecDepth 100000 in
theorem sbCopyCheck_used (b : Nat) (w : World) (h0 : w.cell? ⟨b, 0, none⟩ = some (.pointer (some ⟨b, 0, none⟩))) :
    Calls Tryz.prog 184 #[.pointer (some ⟨b, 0, none⟩)] w fun e w' => e = .returned (.tuple #[]) ∧ w = w' := by
  obtain ⟨j, hj, _⟩ := Option.map_eq_some_iff.1 infoBld
  have hn := fun w : World => Lib.run_neq_ptr_same (P := Tryz.prog) w ⟨b, 0, none⟩ Tryz.underlying186 hj
  go_enter Tryz.func184, Tryz.ntmps184
  go_wp2
  go_end0
  exact ⟨rfl, rfl⟩

set_option maxHeartbeats 1000000 in
set_option maxRecDepth 100000 in
theorem sbCopyCheck_fresh (b : Nat) (w : World) (h0 : w.cell? ⟨b, 0, none⟩ = some (.pointer none)) (hsh : w.shape? b = some (188, 2)) (hfz : w.frozen? ⟨b, 0, none⟩ = false) :
    Calls Tryz.prog 184 #[.pointer (some ⟨b, 0, none⟩)] w fun e w' => e = .returned (.tuple #[]) ∧ w.setCell ⟨b, 0, none⟩ (.pointer (some ⟨b, 0, none⟩)) = w' := by
  obtain ⟨j, hj, hjs⟩ := Option.map_eq_some_iff.1 infoBld
  have k1 := Lib.run_to_unsafe w ⟨b, 0, none⟩ Tryz.underlying186 Tryz.underlying203 hj (by rw [hjs]; decide) hsh (Nat.zero_lt_succ 1)
  have k2 := Lib.run_from_unsafe w ⟨b, 0, none⟩ Tryz.underlying203 Tryz.underlying186 hj hsh liesBld
  clear hjs hj
  go_enter Tryz.func184, Tryz.ntmps184
  go_wp2
  rw [run_callFunc_extern Tryz.func210 (by kernel_rfl) (by kernel_rfl) (by kernel_rfl) (e := Extern.AbiNoEscape.same) (by kernel_rfl)]
  rw [Lib.run_noEscape]
  simp only [Result.andThen]
  rw [Oper.upon_value]
  go_wp2
  go_end0
  exact ⟨rfl, rfl⟩

theorem sbCopyCheck_any (B b : Nat) (l : List Value) (w : World) (h : Lib.IsBuilder 188 5 B b l w) :
    Calls Tryz.prog 184 #[.pointer (some ⟨b, 0, none⟩)] w fun e w' => e = .returned (.tuple #[]) ∧ (Lib.BuilderAt 188 5 B b (.pointer (some ⟨b, 0, none⟩)) l w' ∧ Below B w w') := by
  rcases h with h | h
  · refine (sbCopyCheck_fresh b w h.cell0 h.shape h.frozen0).mono ?_
    rintro e w' ⟨rfl, rfl⟩
    exact ⟨rfl, h.used _, (Below.refl B w).setCell (p := ⟨b, 0, none⟩) h.1 _⟩
  · refine (sbCopyCheck_used b w h.cell0).mono ?_
    rintro e w' ⟨rfl, rfl⟩
    exact ⟨rfl, h, Below.refl B _⟩

set_option maxHeartbeats 2000000 in
set_option maxRecDepth 100000 in
/-- A byte written to a builder. -/
theorem sbWriteByte_any (B b : Nat) (l : List Value) (c : Int) (w : World) (h : Lib.IsBuilder 188 5 B b l w) (hlen : l.length + 1 ≤ 140737488355328) (hBw : B ≤ w.heap.size) :
    Calls Tryz.prog 146 #[.pointer (some ⟨b, 0, none⟩), .int .u8 c] w fun e w' => e = .returned .nilIface ∧ (Lib.BuilderAt 188 5 B b (.pointer (some ⟨b, 0, none⟩)) (l ++ [.int .u8 c]) w' ∧ Below B w w') := by
  obtain ⟨i0, hi, hz0, hz1, hz2⟩ := info_parts infoByte
  go_enter Tryz.func146, Tryz.ntmps146
  go_wp2_with (go_at_call 184; refine (sbCopyCheck_any B b l _ h).mono ?_)
  rintro e w1 ⟨rfl, h1, hb1⟩
  obtain ⟨hB, v, hbk, hown, hne⟩ := h1
  have c0 : w1.cell? ⟨b, 0, none⟩ = some (.pointer (some ⟨b, 0, none⟩)) := by rw [Lib.cell_of_heap hbk]; rfl
  have c1 : w1.cell? ⟨b, 1, none⟩ = some v := by rw [Lib.cell_of_heap hbk]; rfl
  go_wp2_with (at_builtin; refine wpList_append_own _ rfl _ _ 91 rfl B 5 i0 (.int .u8 0) 1 1 Tryz.underlying91 hi hz0 hz1 hz2 rfl (by decide) _ _ _ rfl (hown.alloc _) ⟨w1.heap.size, 0, none⟩ 1 1 [.int .u8 c] rfl rfl ?c1 ?c2 ?c3 ?c4 ?c5 ?_)
  case c1 =>
    intro j u hj
    match j, hj with
    | 0, hj => simp at hj; subst hj; simp [Addr.add]
  case c2 => intro u hu; simp at hu; subst hu; rfl
  case c3 => unfold maxLen; omega
  case c4 => omega
  case c5 => have := hb1.size; simp; omega
  intro v' w2 hown' hgrow _
  have hlt : b < w1.heap.size := lt_of_block hbk
  have hb2 : w2.heap[b]? = some (.cells #[.pointer (some ⟨b, 0, none⟩), v] 188 (0, 0)) := by
    rw [hgrow.block b (by simp; omega) (fun e => hne e.symm), Lib.alloc_old w1 _ b hlt]
    exact hbk
  have d0 : w2.cell? ⟨b, 0, none⟩ = some (.pointer (some ⟨b, 0, none⟩)) := by rw [Lib.cell_of_heap hb2]; rfl
  have d1 : w2.cell? ⟨b, 1, none⟩ = some v := by rw [Lib.cell_of_heap hb2]; rfl
  have f1 : w2.frozen? ⟨b, 1, none⟩ = false := Lib.frozen_of_heap hb2 1
  obtain ⟨g, cap, rfl⟩ : ∃ g cap, v' = .slice (some ⟨g, 0, none⟩) (l.length + 1) cap := by
    rcases hown'.2 with ⟨_, h0⟩ | ⟨g, cap, cur, hv, _⟩
    · omega
    · exact ⟨g, cap, hv⟩
  go_wp2
  go_ret
  refine ⟨rfl, ?_, ?_⟩
  · exact Lib.BuilderAt.put (T := 188) (e := 5) hB hb2 (bs' := l ++ [.int .u8 c]) (by simpa using hown') (by decide)
  · exact ((hb1.alloc (by have := hb1.size; omega) _).grown hgrow (by have := hb1.size; simp; omega) (fun k hk => (hown.lt k hk).1)).setCell (p := ⟨b, 1, none⟩) hB _

end Go.Proofs.YtepebnblbheegaaGreatDoor

/- What dialect B's reader does to the world. -/
namespace Go.Proofs.YtepebnblbheegaaGreatDoor
open Go Go.RowKit

/-- The reader at block r, over the source at block q, at a place. -/
structure Rdr (w : World) (r q : Nat) (s : ByteArray) (i : Nat) : Prop where
  here : Blk w r [.pointer (some ⟨q, 0, none⟩), .int .i64 i]
  src : Blk w q [.string s]
  ne : r ≠ q

theorem Rdr.below {w w' : World} {r q : Nat} {s : ByteArray} {i : Nat} (h : Rdr w r q s i) (hb : Below w.heap.size w w') : Rdr w' r q s i :=
  ⟨h.here.below hb, h.src.below hb, h.ne⟩
theorem Rdr.kept {w w' : World} {r q : Nat} {s : ByteArray} {i : Nat} {S : Nat → Prop} (h : Rdr w r q s i) (hk : Kept S w w') (h1 : ¬ S r) (h2 : ¬ S q) : Rdr w' r q s i :=
  ⟨h.here.kept hk h1, h.src.kept hk h2, h.ne⟩
theorem Rdr.alloc {w : World} {r q : Nat} {s : ByteArray} {i : Nat} (h : Rdr w r q s i) (o : Obj) : Rdr (w.alloc o) r q s i := ⟨h.here.alloc o, h.src.alloc o, h.ne⟩
theorem Rdr.drew {w : World} {r q : Nat} {s : ByteArray} {i : Nat} (h : Rdr w r q s i) : Rdr w.drew r q s i := ⟨h.here, h.src, h.ne⟩
theorem Rdr.drewN {w : World} {r q : Nat} {s : ByteArray} {i : Nat} (h : Rdr w r q s i) (n : Nat) : Rdr (w.drewN n) r q s i := ⟨h.here, h.src, h.ne⟩
theorem Rdr.other {w : World} {r q : Nat} {s : ByteArray} {i : Nat} (h : Rdr w r q s i) {p : Addr} (h1 : p.block ≠ r) (h2 : p.block ≠ q) (u : Value) : Rdr (w.setCell p u) r q s i := ⟨h.here.other h1 u, h.src.other h2 u, h.ne⟩
theorem Rdr.move {w : World} {r q : Nat} {s : ByteArray} {i : Nat} (h : Rdr w r q s i) (j : Nat) : Rdr (w.setCell ⟨r, 1, none⟩ (.int .i64 j)) r q s j :=
  ⟨by have := h.here.set 1 (.int .i64 j); exact this, h.src.other h.ne _, h.ne⟩
/-- The reader, at whatever place. -/
def RdrAny (w : World) (r q : Nat) (s : ByteArray) : Prop := ∃ i, Rdr w r q s i
theorem RdrAny.of {w : World} {r q : Nat} {s : ByteArray} {i : Nat} (h : Rdr w r q s i) : RdrAny w r q s := ⟨i, h⟩
theorem RdrAny.alloc {w : World} {r q : Nat} {s : ByteArray} (h : RdrAny w r q s) (o : Obj) : RdrAny (w.alloc o) r q s := h.elim fun _ k => ⟨_, k.alloc o⟩
theorem RdrAny.other {w : World} {r q : Nat} {s : ByteArray} (h : RdrAny w r q s) {p : Addr} (h1 : p.block ≠ r) (h2 : p.block ≠ q) (u : Value) : RdrAny (w.setCell p u) r q s := h.elim fun _ k => ⟨_, k.other h1 h2 u⟩
theorem RdrAny.move {w : World} {r q : Nat} {s : ByteArray} (h : RdrAny w r q s) (j : Nat) : RdrAny (w.setCell ⟨r, 1, none⟩ (.int .i64 j)) r q s := h.elim fun _ k => ⟨_, k.move j⟩
theorem Rdr.moveTo {w : World} {r q : Nat} {s : ByteArray} {j : Nat} {v : Value} (h : RdrAny w r q s) (hv : v = .int .i64 (j : Nat)) : Rdr (w.setCell ⟨r, 1, none⟩ v) r q s j := by
  rw [hv]
  exact h.elim fun _ k => k.move j
theorem Rdr.c0 {w : World} {r q : Nat} {s : ByteArray} {i : Nat} (h : Rdr w r q s i) : w.cell? ⟨r, 0, none⟩ = some (.pointer (some ⟨q, 0, none⟩)) := h.here.cell 0 rfl
theorem Rdr.c1 {w : World} {r q : Nat} {s : ByteArray} {i : Nat} (h : Rdr w r q s i) : w.cell? ⟨r, 1, none⟩ = some (.int .i64 i) := h.here.cell 1 rfl
theorem Rdr.cs {w : World} {r q : Nat} {s : ByteArray} {i : Nat} (h : Rdr w r q s i) : w.cell? ⟨q, 0, none⟩ = some (.string s) := h.src.cell 0 rfl
theorem Rdr.f1 {w : World} {r q : Nat} {s : ByteArray} {i : Nat} (h : Rdr w r q s i) : w.frozen? ⟨r, 1, none⟩ = false := h.here.free 1

theorem skip_blank (s : ByteArray) (k : Nat) (h : k < s.size) (hb : (bat s k).toNat = 32 ∨ (bat s k).toNat = 9) : k + skipN false (s.data.toList.drop k) = k + 1 + skipN false (s.data.toList.drop (k + 1)) := by
  rw [drop_bat s k h, skipN, if_pos hb]; omega
theorem skip_sharp (s : ByteArray) (k : Nat) (h : k < s.size) (hb : (bat s k).toNat = 35) : k + skipN false (s.data.toList.drop k) = k + 1 + skipN true (s.data.toList.drop (k + 1)) := by
  rw [drop_bat s k h, skipN, if_neg (by omega), if_pos hb]; omega
theorem skip_else (s : ByteArray) (k : Nat) (h : k < s.size) (hb : ¬ ((bat s k).toNat = 32 ∨ (bat s k).toNat = 9)) (hc : ¬ (bat s k).toNat = 35) : k + skipN false (s.data.toList.drop k) = k := by
  rw [drop_bat s k h, skipN, if_neg hb, if_neg hc]; rfl
theorem skip_at_end (b : Bool) (s : ByteArray) (k : Nat) (h : s.size ≤ k) : k + skipN b (s.data.toList.drop k) = k := by
  rw [List.drop_eq_nil_of_le (by rw [size_eq]; omega)]
  cases b <;> rfl
theorem skip_on (s : ByteArray) (k : Nat) (h : k < s.size) (hb : ¬ (bat s k).toNat = 10) : k + skipN true (s.data.toList.drop k) = k + 1 + skipN true (s.data.toList.drop (k + 1)) := by
  rw [drop_bat s k h, skipN, if_neg hb]; omega
theorem skip_line (s : ByteArray) (k : Nat) (h : k < s.size) (hb : (bat s k).toNat = 10) : k + skipN true (s.data.toList.drop k) = k + skipN false (s.data.toList.drop k) := by
  rw [drop_bat s k h, skipN, if_pos hb, skipN, if_neg (by omega), if_neg (by omega)]

set_option maxHeartbeats 1000000 in
theorem xSkip_any (r q : Nat) (s : ByteArray) (i t : Nat) (w : World) (hs : s.size ≤ 1000000) (hi : i ≤ s.size) (hR : Rdr w r q s i) (ht : Hid (i + skipN false (s.data.toList.drop i) = t)) :
    Calls Tryz.prog 64 #[.pointer (some ⟨r, 0, none⟩)] w fun e w' => e = .returned (.tuple #[]) ∧ Rdr w' r q s t ∧ Kept (At r) w w' := by
  go_enter Tryz.func64, Tryz.ntmps64
  go_wp2_with fail
  go_loopg [] (s.size - i) (fun n wr => ∃ k : Nat, n = s.size - k ∧ k ≤ s.size ∧ Rdr wr r q s k ∧ Kept (At r) w wr ∧ Hid (k + skipN false (s.data.toList.drop k) = t))
  case atStart => exact ⟨i, rfl, hi, hR, Kept.refl _ _, ht⟩
  case round =>
    obtain ⟨k, hn, hk, hR, hK, ht⟩ := hrel
    clear hi
    have g0 := cell_regrown hR.c0
    have g1 := cell_regrown hR.c1
    have g2 := cell_regrown hR.cs
    go_wp2_with fail
    by_cases hlt : k < s.size
    · refine wp_region_quiet_below (by kernel_rfl) (by kernel_rfl) ?_
      repeat (go_big_quiet_step ((go_at_call 107; exact Calls.regrown_of (bByte_in s k _ hs hlt))))
      refine wpQuiet_nil ?_
      intro w1 hw'
      have hb : Below wr.heap.size wr w1 := below_of_regrown hw'
      clear hw'
      have hR1 := hR.below hb
      have hK1 := hK.andBelow hb
      have k0 := hR1.c0
      have k1 := hR1.c1
      have k2 := hR1.cs
      have f1 := hR1.f1
      clear g0 g1 g2 hb
      by_cases hbl : (bat s k).toNat = 32 ∨ (bat s k).toNat = 9
      · have HN := Lib.hid ((skip_blank s k hlt hbl).symm.trans ht.out)
        rcases hbl with hbl | hbl
        · have d1 : (((bat s k).toNat : Int) == 32) = true := by rw [beq_iff_eq]; omega
          clear hbl
          go_wp2_with fail
          go_roundg (s.size - (k + 1))
          case measure => omega
          case rel => exact ⟨k + 1, rfl, by omega, hR1.move (k + 1), hK1.setCell (p := ⟨r, 1, none⟩) (fun _ => rfl) _, HN⟩
        · have d1 : (((bat s k).toNat : Int) == 32) = false := by rw [beq_eq_false_iff_ne]; omega
          have d2 : (((bat s k).toNat : Int) == 9) = true := by rw [beq_iff_eq]; omega
          clear hbl
          go_wp2_with fail
          go_roundg (s.size - (k + 1))
          case measure => omega
          case rel => exact ⟨k + 1, rfl, by omega, hR1.move (k + 1), hK1.setCell (p := ⟨r, 1, none⟩) (fun _ => rfl) _, HN⟩
      · by_cases hsh : (bat s k).toNat = 35
        · have HN := Lib.hid ((skip_sharp s k hlt hsh).symm.trans ht.out)
          have d1 : (((bat s k).toNat : Int) == 32) = false := by rw [beq_eq_false_iff_ne]; omega
          have d2 : (((bat s k).toNat : Int) == 9) = false := by rw [beq_eq_false_iff_ne]; omega
          have d3 : (((bat s k).toNat : Int) == 35) = true := by rw [beq_iff_eq]; omega
          have d4 : (((bat s k).toNat : Int) == 10) = false := by rw [beq_eq_false_iff_ne]; omega
          have d5 : (((bat s k).toNat : Int) != 10) = true := by rw [bne_iff_ne]; omega
          have hk35 := Lib.hid hsh
          clear hbl hsh
          go_wp2_with fail
          obtain ⟨wo, rfl⟩ : ∃ wo : World, wo = w1 := ⟨_, rfl⟩
          go_loopg [2, 3] (s.size - k) (fun n c x wr => ∃ j : Nat, n = s.size - j ∧ k ≤ j ∧ j ≤ s.size ∧ Rdr wr r q s j ∧ Kept (At r) w wr ∧ 
            ((j < s.size ∧ c = .int .u8 (bat s j).toNat ∧ x = .bool true ∧ Hid ((j = k ∧ k + 1 + skipN true (s.data.toList.drop (k + 1)) = t) ∨ (k < j ∧ j + skipN true (s.data.toList.drop j) = t))) ∨ (s.size = j ∧ c = .int .u8 0 ∧ x = .bool false ∧ Hid (j = t))))
          case atStart => exact ⟨k, rfl, Nat.le_refl _, hk, hR1, hK1, .inl ⟨hlt, rfl, rfl, Lib.hid (.inl ⟨rfl, HN.out⟩)⟩⟩
          case round =>
            obtain ⟨j, rfl, hkj, hj, hR, hK, hcase⟩ := hrel
            clear HN hK1 hR1 k0 k1 k2 f1
            rcases hcase with ⟨hlt, rfl, rfl, ht⟩ | ⟨hge, rfl, rfl, ht⟩
            · by_cases h10 : (bat s j).toNat = 10
              · have HT : Hid (k < j ∧ j + skipN false (s.data.toList.drop j) = t) := Lib.hid (by
                  rcases ht.out with ⟨rfl, _⟩ | ⟨h1, h⟩
                  · exact absurd (hk35.out.symm.trans h10) (by decide)
                  · rw [skip_line s j hlt h10] at h; exact ⟨h1, h⟩)
                have e1 : (((bat s j).toNat : Int) != 10) = false := by rw [bne_eq_false_iff_eq]; omega
                clear h10
                go_wp2_with fail
                go_roundg (s.size - j)
                case measure => have := HT.out.1; omega
                case rel => exact ⟨j, rfl, hj, hR, hK, Lib.hid HT.out.2⟩
              · have HT : Hid (j + 1 + skipN true (s.data.toList.drop (j + 1)) = t) := Lib.hid (by
                  rcases ht.out with ⟨rfl, h⟩ | ⟨_, h⟩
                  · exact h
                  · rw [skip_on s j hlt h10] at h; exact h)
                have e1 : (((bat s j).toNat : Int) != 10) = true := by rw [bne_iff_ne]; omega
                have k1 := hR.c1
                have f1 := hR.f1
                clear h10 ht
                go_wp2_with fail
                generalize hw2 : wr.setCell ⟨r, 1, none⟩ (.int .i64 (↑j + 1)) = w2
                have hR2 : Rdr w2 r q s (j + 1) := by rw [← hw2]; exact hR.move (j + 1)
                have hK2 : Kept (At r) w w2 := by rw [← hw2]; exact hK.setCell (p := ⟨r, 1, none⟩) (fun _ => rfl) _
                clear hw2 k1 f1
                have g0 := cell_regrown hR2.c0
                have g1 := cell_regrown hR2.c1
                have g2 := cell_regrown hR2.cs
                by_cases hlt2 : j + 1 < s.size
                · refine wp_region_quiet_below (by kernel_rfl) (by kernel_rfl) ?_
                  repeat (go_big_quiet_step ((go_at_call 107; exact Calls.regrown_of (bByte_in s (j + 1) _ hs hlt2))))
                  refine wpQuiet_nil ?_
                  intro w1 hw'
                  have hb : Below w2.heap.size w2 w1 := below_of_regrown hw'
                  clear hw'
                  clear g0 g1 g2
                  go_wp2_with fail
                  go_roundg (s.size - (j + 1))
                  case measure => omega
                  case rel => exact ⟨j + 1, rfl, by omega, by omega, hR2.below hb, hK2.andBelow hb, .inl ⟨hlt2, rfl, rfl, Lib.hid (.inr ⟨by omega, HT.out⟩)⟩⟩
                · refine wp_region_quiet_below (by kernel_rfl) (by kernel_rfl) ?_
                  repeat (go_big_quiet_step ((go_at_call 107; exact Calls.regrown_of (bByte_high s (j + 1) _ hs (by omega)))))
                  refine wpQuiet_nil ?_
                  intro w1 hw'
                  have hb : Below w2.heap.size w2 w1 := below_of_regrown hw'
                  clear hw'
                  clear g0 g1 g2
                  go_wp2_with fail
                  go_roundg (s.size - (j + 1))
                  case measure => omega
                  case rel => exact ⟨j + 1, rfl, by omega, by omega, hR2.below hb, hK2.andBelow hb, .inr ⟨by omega, rfl, rfl, Lib.hid (by rw [← HT.out, skip_at_end true s (j + 1) (by omega)])⟩⟩
            · have HT : Hid (k < j ∧ j + skipN false (s.data.toList.drop j) = t) := Lib.hid (by
                rw [skip_at_end false s j (by omega)]; exact ⟨by omega, ht.out⟩)
              clear hge
              go_wp2_with fail
              go_roundg (s.size - j)
              case measure => have := HT.out.1; omega
              case rel => exact ⟨j, rfl, hj, hR, hK, Lib.hid HT.out.2⟩
        · have HN := Lib.hid ((skip_else s k hlt hbl hsh).symm.trans ht.out)
          have d1 : (((bat s k).toNat : Int) == 32) = false := by rw [beq_eq_false_iff_ne]; omega
          have d2 : (((bat s k).toNat : Int) == 9) = false := by rw [beq_eq_false_iff_ne]; omega
          have d3 : (((bat s k).toNat : Int) == 35) = false := by rw [beq_eq_false_iff_ne]; omega
          clear hbl hsh
          go_wp2_with fail
          (try simp only [Exit.inBlock, Exit.then])
          refine bodyPost_ret (results_none rfl _ _ _) rfl ?_
          exact ⟨rfl, by rw [← HN.out]; exact hR1, hK1⟩
    · have HN := Lib.hid ((skip_at_end false s k (by omega)).symm.trans ht.out)
      refine wp_region_quiet_below (by kernel_rfl) (by kernel_rfl) ?_
      repeat (go_big_quiet_step ((go_at_call 107; exact Calls.regrown_of (bByte_high s k _ hs (by omega)))))
      refine wpQuiet_nil ?_
      intro w1 hw'
      have hb : Below wr.heap.size wr w1 := below_of_regrown hw'
      clear hw'
      go_wp2_with fail
      (try simp only [Exit.inBlock, Exit.then])
      refine bodyPost_ret (results_none rfl _ _ _) rfl ?_
      exact ⟨rfl, by rw [← HN.out]; exact hR.below hb, hK.andBelow hb⟩

end Go.Proofs.YtepebnblbheegaaGreatDoor

/- Dialect B's reader: small functions. -/
namespace Go.Proofs.YtepebnblbheegaaGreatDoor
open Go Go.RowKit

theorem indexByte_low (l : List UInt8) (c : UInt8) : -1 ≤ Lib.indexByte l c := by
  induction l with
  | nil => simp [Lib.indexByte]
  | cons d l ih =>
    simp only [Lib.indexByte]
    split
    · omega
    · split <;> omega

theorem indexByte_iff (l : List UInt8) (c : UInt8) : (0 : Int) ≤ Lib.indexByte l c ↔ l.contains c = true := by
  induction l with
  | nil => simp [Lib.indexByte]
  | cons d l ih =>
    have h0 := indexByte_low l c
    rw [List.contains_cons, Bool.or_eq_true, ← ih, beq_iff_eq]
    simp only [Lib.indexByte]
    split
    · rename_i h
      simp only [beq_iff_eq] at h
      simp [h]
    · rename_i h
      simp only [beq_iff_eq] at h
      have h2 : ¬ c = d := fun e => h e.symm
      split
      · rename_i h3
        simp only [beq_iff_eq] at h3
        rw [h3]
        simp [h2]
      · rename_i h3
        simp only [beq_iff_eq] at h3
        simp only [h2, false_or]
        omega

theorem indexByte_ge (l : List UInt8) (c : UInt8) : decide ((0 : Int) ≤ Lib.indexByte l c) = l.contains c := by
  rw [Bool.eq_iff_iff, decide_eq_true_eq, indexByte_iff]

theorem xEnds_core (c : Int) (b : Bool) (w : World) (h : Hid (decide ((0 : Int) ≤ Lib.indexByte [32, 9, 10, 59, 38, 124, 40, 41, 123, 125, 60, 62, 94, 61, 33, 36, 96, 39, 35] c.toNat.toUInt8) = b)) :
    Calls Tryz.prog 113 #[.int .u8 c] w fun e w' => e = .returned (.bool b) ∧ w = w' := by
  go_enter Tryz.func113, Tryz.ntmps113
  go_wp2_with (go_at_call 148; refine (Tryz.strings_IndexByte _ _ _).mono ?_; rintro e w' ⟨rfl, rfl⟩)
  go_ret
  exact ⟨ret_bool h.out, rfl⟩

theorem xEnds_any (c : UInt8) (w : World) :
    Calls Tryz.prog 113 #[.int .u8 c.toNat] w fun e w' => e = .returned (.bool (endsB c)) ∧ w = w' := by
  refine xEnds_core _ _ w (Lib.hid ?_)
  rw [indexByte_ge, show ((c.toNat : Int).toNat.toUInt8) = c from by simp]
  have h : ∀ n : Fin 256, List.contains ([32, 9, 10, 59, 38, 124, 40, 41, 123, 125, 60, 62, 94, 61, 33, 36, 96, 39, 35] : List UInt8) (UInt8.ofNat n.val) = endsB (UInt8.ofNat n.val) := by decide +kernel
  have h1 := h ⟨c.toNat, c.toNat_lt⟩
  simpa using h1

theorem xFault_any (p : Int) (tv : TypeId) (xv : Value) (w : World) :
    Calls Tryz.prog 110 #[.int .i64 p, .iface tv xv] w fun e w' => e = .returned (.iface 67 (.pointer (some ⟨w.heap.size, 0, none⟩))) ∧ w.alloc (.cells #[.int .i64 p, .iface tv xv] 69) = w' := by
  go_enter Tryz.func110, Tryz.ntmps110
  go_wp2
  go_ret
  exact ⟨rfl, rfl⟩

theorem xOps_any (w : World) :
    Calls Tryz.prog 108 #[] w fun e w' => e = .returned (.slice (some ⟨w.heap.size, 0, none⟩) 18 18) ∧ Blk w' w.heap.size (opsB.map fun l => .string (bs l)) ∧ Below w.heap.size w w' := by
  go_enter Tryz.func108, Tryz.ntmps108
  go_wp2
  go_ret
  exact ⟨rfl, Blk.new w _ _, (Below.refl _ _).alloc (Nat.le_refl _) _⟩

end Go.Proofs.YtepebnblbheegaaGreatDoor

/- Dialect B's reader: what begins with a dollar. -/
namespace Go.Proofs.YtepebnblbheegaaGreatDoor
open Go Go.RowKit

theorem lib_drop (s : ByteArray) (k : Nat) : s.data.toList.drop k = if k < s.size then bat s k :: s.data.toList.drop (k + 1) else [] := by
  split
  · rename_i h; exact drop_bat s k h
  · rename_i h; exact List.drop_eq_nil_of_le (by rw [size_eq]; omega)

set_option maxHeartbeats 1000000 in
/-- A number. -/
theorem xDollar_num (r q : Nat) (s : ByteArray) (i p : Nat) (w : World) (hs : s.size ≤ 1000000) (hi : i + 1 < s.size) (hR : Rdr w r q s i) (h1 : 49 ≤ (bat s (i + 1)).toNat) (h2 : (bat s (i + 1)).toNat ≤ 57) :
    Calls Tryz.prog 112 #[.pointer (some ⟨r, 0, none⟩), .agg #[.int .i64 0, .int .i64 p, .int .i64 0, .string ⟨#[]⟩, .bool false]] w fun e w' => 
      e = .returned (.tuple #[.agg #[.int .i64 23, .int .i64 p, .int .i64 (((bat s (i + 1)).toNat - 48 : Nat) : Int), .string ⟨#[]⟩, .bool false], .nilIface]) ∧ Rdr w' r q s (i + 2) ∧ Kept (At r) w w' := by
  have hr := hR.here.lt
  have hq := hR.src.lt
  have c0 := hR.c0
  have c1 := hR.c1
  have cs := hR.cs
  have f1 := hR.f1
  have c3 := bat_lt s (i + 1)
  go_enter Tryz.func112, Tryz.ntmps112
  go_wp2_with fail
  refine wp_world (fun w1 => Rdr w1 r q s (i + 1) ∧ Blk w1 w.heap.size [.int .i64 20, .int .i64 p, .int .i64 0, .string ⟨#[]⟩, .bool false] ∧ Blk w1 (w.heap.size + 1) [.int .i64 0, .int .i64 0, .int .i64 0, .string ⟨#[]⟩, .bool false] ∧ Kept (At r) w w1) 
    ⟨((hR.move (i + 1)).alloc _).alloc _, (Blk.newAt _ _ (by simp)).alloc _, Blk.newAt _ _ (by simp), (((Kept.refl (At r) w).setCell (p := ⟨r, 1, none⟩) (fun _ => rfl) _).alloc _).alloc _⟩ ?_
  intro w1 ⟨hR1, hB3, hB4, hK1⟩
  clear c0 c1 cs f1
  have g0 := cell_regrown hR1.c0
  have g1 := cell_regrown hR1.c1
  have g2 := cell_regrown hR1.cs
  refine wp_region_quiet_below (by kernel_rfl) (by kernel_rfl) ?_
  repeat (go_big_quiet_step ((go_at_call 107; exact Calls.regrown_of (bByte_in s (i + 1) _ hs hi))))
  refine wpQuiet_nil ?_
  intro w2 hw'
  have hb : Below w1.heap.size w1 w2 := below_of_regrown hw'
  clear hw' g0 g1 g2
  have hR2 := hR1.below hb
  have hB32 := hB3.below hb
  have hB42 := hB4.below hb
  have hK2 := hK1.andBelow hb
  clear hR1 hB3 hB4 hK1 hb
  have c0 := hR2.c0
  have c1 := hR2.c1
  have f1 := hR2.f1
  have n1 : ¬ r = w.heap.size := by omega
  have tc0 := hB32.cell 0 rfl
  have tc1 := hB32.cell 1 rfl
  have tc2 := hB32.cell 2 rfl
  have tc3 := hB32.cell 3 rfl
  have tc4 := hB32.cell 4 rfl
  have tf0 := hB32.free 0
  have tf1 := hB32.free 1
  have tf2 := hB32.free 2
  have tf3 := hB32.free 3
  have tf4 := hB32.free 4
  have uc0 := hB42.cell 0 rfl
  have uc1 := hB42.cell 1 rfl
  have uc2 := hB42.cell 2 rfl
  have uc3 := hB42.cell 3 rfl
  have uc4 := hB42.cell 4 rfl
  have uf0 := hB42.free 0
  have uf1 := hB42.free 1
  have uf2 := hB42.free 2
  have uf3 := hB42.free 3
  have uf4 := hB42.free 4
  go_wp2_with fail
  (try simp only [Exit.inBlock, Exit.then])
  refine bodyPost_ret (results_blk (g := w.heap.size + 1) (cs := [.int .i64 23, .int .i64 p, .int .i64 ((bat s (i + 1)).toNat - 48), .string ⟨#[]⟩, .bool false]) rfl _ _ _ rfl ?hB Tryz.underlying107 rfl ?hi) rfl ⟨?he, ?hr, ?hk⟩
  case hB => 
    apply Blk.as
    repeat (first | (with_reducible assumption) | ((with_reducible apply Blk.newAt); (focus (simp; done))) | (with_reducible apply Blk.set) | ((with_reducible apply Blk.other); (case hp => first | omega | (simp; omega) | simp)) | (with_reducible apply Blk.alloc) | (with_reducible apply Blk.drewN) | (with_reducible apply Blk.drew))
    rfl
  case hi => kernel_rfl
  case he => simp; omega
  case hr => 
    repeat (first | (with_reducible assumption) | ((with_reducible refine Rdr.moveTo ?_ ?_); rotate_left; (focus go_num)) | (with_reducible exact RdrAny.of (by assumption)) | ((with_reducible refine RdrAny.other ?_ ?_ ?_ _); rotate_left; (focus (first | omega | (simp; omega) | simp)); (focus (first | omega | (simp; omega) | simp))) | (with_reducible refine RdrAny.move ?_ _) | (with_reducible refine RdrAny.alloc ?_ _) | ((with_reducible refine Rdr.other ?_ ?_ ?_ _); rotate_left; (focus (first | omega | (simp; omega) | simp)); (focus (first | omega | (simp; omega) | simp))) | (with_reducible refine Rdr.alloc ?_ _) | (with_reducible refine Rdr.drewN ?_ _) | (with_reducible refine Rdr.drew ?_))
  case hk => 
    repeat (first | (with_reducible assumption) | (with_reducible exact Kept.refl _ _) | ((with_reducible refine Kept.setCell ?_ ?_ _); rotate_left; (focus (first | exact fun _ => rfl | exact fun h => absurd h (by first | omega | (simp; omega) | simp)))) | (with_reducible refine Kept.alloc ?_ _) | (with_reducible refine Kept.drewN ?_ _) | (with_reducible refine Kept.drew ?_))

theorem runName_ne (l : List UInt8) : ¬ runName l = [42] := by
  cases l with
  | nil => simp [runName]
  | cons c l =>
    rw [show runName (c :: l) = if isBegin c then (c :: l).takeWhile isGo else [] from rfl]
    split
    · rename_i hb
      intro e
      have hg : isGo c = true := by rw [isGo, hb]; rfl
      rw [List.takeWhile_cons_of_pos hg] at e
      injection e with e1 _
      subst e1
      revert hb
      decide
    · intro e; cases e
set_option maxHeartbeats 2000000 in
set_option maxRecDepth 100000 in
theorem xDollar_name (r q : Nat) (s : ByteArray) (i p kind pre c0 : Nat) (w : World) (hs : s.size ≤ 1000000) (hi : i < s.size) (hR : Rdr w r q s i) (ev : Addr) (te : TypeId) (hev : w.cell? ⟨8, 0, none⟩ = some (.iface te (.pointer (some ev)))) (hgr : 8 ≠ r)
    (hc0 : Hid ((i + 1 < s.size ∧ c0 = (bat s (i + 1)).toNat) ∨ (s.size ≤ i + 1 ∧ c0 = 0))) (hnum : ¬ (49 ≤ c0 ∧ c0 ≤ 57))
    (hkind : Hid (kind = if c0 = 35 then 21 else if c0 = 34 then 22 else 20)) (hpre : Hid (pre = if c0 = 35 ∨ c0 = 34 then 1 else 0)) (x : List UInt8) (hx : Hid (x = starName (s.data.toList.drop (i + 1 + pre)))) (hpb : Hid (i + 1 + pre ≤ s.size)) (R : Ending → World → Prop)
    (hgood : Hid ((x = [42] ∨ nameB x = true) → ∀ w', Rdr w' r q s (i + 1 + pre + x.length) → Kept (At r) w w' → R (.returned (.tuple #[.agg #[.int .i64 kind, .int .i64 p, .int .i64 0, .string (bs x), .bool false], .nilIface])) w'))
    (hbad : Hid (¬ (x = [42] ∨ nameB x = true) → ∀ b w', Blk w' b [.int .i64 p, .iface te (.pointer (some ev))] → Kept (At r) w w' → R (.returned (.tuple #[.agg #[.int .i64 0, .int .i64 0, .int .i64 0, .string ⟨#[]⟩, .bool false], .iface 67 (.pointer (some ⟨b, 0, none⟩))])) w')) :
    Calls Tryz.prog 112 #[.pointer (some ⟨r, 0, none⟩), .agg #[.int .i64 0, .int .i64 p, .int .i64 0, .string ⟨#[]⟩, .bool false]] w R := by
  have hr := hR.here.lt
  have hq := hR.src.lt
  have hgl := block_lt_of_cell hev
  go_enter Tryz.func112, Tryz.ntmps112
  have c0 := hR.c0
  have c1 := hR.c1
  have cs := hR.cs
  have f1 := hR.f1
  go_wp2_with fail
  refine wp_world (fun w1 => Rdr w1 r q s (i + 1) ∧ Blk w1 w.heap.size [.int .i64 20, .int .i64 p, .int .i64 0, .string ⟨#[]⟩, .bool false] ∧ Blk w1 (w.heap.size + 1) [.int .i64 0, .int .i64 0, .int .i64 0, .string ⟨#[]⟩, .bool false] ∧ Kept (At r) w w1) 
    ⟨((hR.move (i + 1)).alloc _).alloc _, (Blk.newAt _ _ (by simp)).alloc _, Blk.newAt _ _ (by simp), (((Kept.refl (At r) w).setCell (p := ⟨r, 1, none⟩) (fun _ => rfl) _).alloc _).alloc _⟩ ?_
  intro w1 ⟨hR1, hB3, hB4, hK1⟩
  clear c0 c1 cs f1
  go_upto_block 0 with fail
  go_cut [6, 7] (fun s6 s7 w2 => s6 = .int .u8 c0 ∧ Rdr w2 r q s (i + 1) ∧ Blk w2 w.heap.size [.int .i64 20, .int .i64 p, .int .i64 0, .string ⟨#[]⟩, .bool false] ∧ Blk w2 (w.heap.size + 1) [.int .i64 0, .int .i64 0, .int .i64 0, .string ⟨#[]⟩, .bool false] ∧ Kept (At r) w w2)
  case first =>
    have g0 := cell_regrown hR1.c0
    have g1 := cell_regrown hR1.c1
    have g2 := cell_regrown hR1.cs
    rcases hc0.out with ⟨hlt, hce⟩ | ⟨hge, hce⟩
    · have HC := Lib.hid hce
      clear hce
      refine wp_region_quiet_below (by kernel_rfl) (by kernel_rfl) ?_
      repeat (go_big_quiet_step ((go_at_call 107; exact Calls.regrown_of (bByte_in s (i + 1) _ hs hlt))))
      refine wpQuiet_nil ?_
      intro w2 hw'
      have hb : Below w1.heap.size w1 w2 := below_of_regrown hw'
      clear hw'
      clear g0 g1 g2
      go_wp2_with fail
      go_meet
      case rel => exact ⟨by rw [HC.out], hR1.below hb, hB3.below hb, hB4.below hb, hK1.andBelow hb⟩
    · have HC := Lib.hid hce
      clear hce
      refine wp_region_quiet_below (by kernel_rfl) (by kernel_rfl) ?_
      repeat (go_big_quiet_step ((go_at_call 107; exact Calls.regrown_of (bByte_high s (i + 1) _ hs (by omega)))))
      refine wpQuiet_nil ?_
      intro w2 hw'
      have hb : Below w1.heap.size w1 w2 := below_of_regrown hw'
      clear hw'
      clear g0 g1 g2
      go_wp2_with fail
      go_meet
      case rel => exact ⟨by rw [HC.out]; rfl, hR1.below hb, hB3.below hb, hB4.below hb, hK1.andBelow hb⟩
  case rest =>
    obtain ⟨rfl, hR2, hB32, hB42, hK2⟩ := hcut
    clear hR1 hB3 hB4 hK1
    have c1 := hR2.c1
    have f1 := hR2.f1
    have n1 : ¬ r = w.heap.size := by omega
    have tc0 := hB32.cell 0 rfl
    have tc1 := hB32.cell 1 rfl
    have tc2 := hB32.cell 2 rfl
    have tc3 := hB32.cell 3 rfl
    have tc4 := hB32.cell 4 rfl
    have tf0 := hB32.free 0
    have tf1 := hB32.free 1
    have tf2 := hB32.free 2
    have tf3 := hB32.free 3
    have tf4 := hB32.free 4
    go_upto_block 0 with fail
    go_cut [] (fun w3 => Rdr w3 r q s (i + 1 + pre) ∧ Blk w3 w.heap.size [.int .i64 kind, .int .i64 p, .int .i64 0, .string ⟨#[]⟩, .bool false] ∧ Blk w3 (w.heap.size + 1) [.int .i64 0, .int .i64 0, .int .i64 0, .string ⟨#[]⟩, .bool false] ∧ Kept (At r) w w3)
    case first =>
      by_cases h35 : c0 = 35
      · have HK : Hid (kind = 21) := Lib.hid (by rw [hkind.out, if_pos h35])
        have HP : Hid (pre = 1) := Lib.hid (by rw [hpre.out, if_pos (Or.inl h35)])
        subst h35
        clear hc0 hnum hkind hpre
        go_wp2_with fail
        go_meet
        case rel =>
          rw [HK.out, HP.out]
          refine ⟨?_, ?_, ?_, ?_⟩
          · repeat (first | (with_reducible assumption) | ((with_reducible refine Rdr.moveTo ?_ ?_); rotate_left; (focus go_num)) | (with_reducible exact RdrAny.of (by assumption)) | ((with_reducible refine RdrAny.other ?_ ?_ ?_ _); rotate_left; (focus (first | omega | (simp; omega) | simp)); (focus (first | omega | (simp; omega) | simp))) | (with_reducible refine RdrAny.move ?_ _) | (with_reducible refine RdrAny.alloc ?_ _) | ((with_reducible refine Rdr.other ?_ ?_ ?_ _); rotate_left; (focus (first | omega | (simp; omega) | simp)); (focus (first | omega | (simp; omega) | simp))) | (with_reducible refine Rdr.alloc ?_ _) | (with_reducible refine Rdr.drewN ?_ _) | (with_reducible refine Rdr.drew ?_))
          · apply Blk.as
            repeat (first | (with_reducible assumption) | ((with_reducible apply Blk.newAt); (focus (simp; done))) | (with_reducible apply Blk.set) | ((with_reducible apply Blk.other); (case hp => first | omega | (simp; omega) | simp)) | (with_reducible apply Blk.alloc) | (with_reducible apply Blk.drewN) | (with_reducible apply Blk.drew))
            rfl
          · apply Blk.as
            repeat (first | (with_reducible assumption) | ((with_reducible apply Blk.newAt); (focus (simp; done))) | (with_reducible apply Blk.set) | ((with_reducible apply Blk.other); (case hp => first | omega | (simp; omega) | simp)) | (with_reducible apply Blk.alloc) | (with_reducible apply Blk.drewN) | (with_reducible apply Blk.drew))
            rfl
          · repeat (first | (with_reducible assumption) | (with_reducible exact Kept.refl _ _) | ((with_reducible refine Kept.setCell ?_ ?_ _); rotate_left; (focus (first | exact fun _ => rfl | exact fun h => absurd h (by first | omega | (simp; omega) | simp)))) | (with_reducible refine Kept.alloc ?_ _) | (with_reducible refine Kept.drewN ?_ _) | (with_reducible refine Kept.drew ?_))
      · by_cases h34 : c0 = 34
        · have HK : Hid (kind = 22) := Lib.hid (by rw [hkind.out, if_neg h35, if_pos h34])
          have HP : Hid (pre = 1) := Lib.hid (by rw [hpre.out, if_pos (Or.inr h34)])
          subst h34
          clear hc0 hnum hkind hpre h35
          go_wp2_with fail
          go_meet
          case rel =>
            rw [HK.out, HP.out]
            refine ⟨?_, ?_, ?_, ?_⟩
            · repeat (first | (with_reducible assumption) | ((with_reducible refine Rdr.moveTo ?_ ?_); rotate_left; (focus go_num)) | (with_reducible exact RdrAny.of (by assumption)) | ((with_reducible refine RdrAny.other ?_ ?_ ?_ _); rotate_left; (focus (first | omega | (simp; omega) | simp)); (focus (first | omega | (simp; omega) | simp))) | (with_reducible refine RdrAny.move ?_ _) | (with_reducible refine RdrAny.alloc ?_ _) | ((with_reducible refine Rdr.other ?_ ?_ ?_ _); rotate_left; (focus (first | omega | (simp; omega) | simp)); (focus (first | omega | (simp; omega) | simp))) | (with_reducible refine Rdr.alloc ?_ _) | (with_reducible refine Rdr.drewN ?_ _) | (with_reducible refine Rdr.drew ?_))
            · apply Blk.as
              repeat (first | (with_reducible assumption) | ((with_reducible apply Blk.newAt); (focus (simp; done))) | (with_reducible apply Blk.set) | ((with_reducible apply Blk.other); (case hp => first | omega | (simp; omega) | simp)) | (with_reducible apply Blk.alloc) | (with_reducible apply Blk.drewN) | (with_reducible apply Blk.drew))
              rfl
            · apply Blk.as
              repeat (first | (with_reducible assumption) | ((with_reducible apply Blk.newAt); (focus (simp; done))) | (with_reducible apply Blk.set) | ((with_reducible apply Blk.other); (case hp => first | omega | (simp; omega) | simp)) | (with_reducible apply Blk.alloc) | (with_reducible apply Blk.drewN) | (with_reducible apply Blk.drew))
              rfl
            · repeat (first | (with_reducible assumption) | (with_reducible exact Kept.refl _ _) | ((with_reducible refine Kept.setCell ?_ ?_ _); rotate_left; (focus (first | exact fun _ => rfl | exact fun h => absurd h (by first | omega | (simp; omega) | simp)))) | (with_reducible refine Kept.alloc ?_ _) | (with_reducible refine Kept.drewN ?_ _) | (with_reducible refine Kept.drew ?_))
        · have HK : Hid (kind = 20) := Lib.hid (by rw [hkind.out, if_neg h35, if_neg h34])
          have HP : Hid (pre = 0) := Lib.hid (by rw [hpre.out, if_neg (by omega)])
          have d1 : ((c0 : Int) == 35) = false := by rw [beq_eq_false_iff_ne]; omega
          have d2 : ((c0 : Int) == 34) = false := by rw [beq_eq_false_iff_ne]; omega
          clear hc0 hkind hpre h35 h34
          by_cases hlow : (49 : Int) ≤ c0
          · have hh : (57 : Int) < c0 := by omega
            clear hnum
            go_wp2_with fail
            go_meet
            case rel =>
              rw [HK.out, HP.out]
              exact ⟨hR2, hB32, hB42, hK2⟩
          · have hh : (c0 : Int) < 49 := by omega
            clear hnum hlow
            go_wp2_with fail
            go_meet
            case rel =>
              rw [HK.out, HP.out]
              exact ⟨hR2, hB32, hB42, hK2⟩
    case rest =>
      obtain ⟨hR3, hB33, hB43, hK3⟩ := hcut
      have hp1 : pre ≤ 1 := by rw [hpre.out]; split <;> omega
      clear hR2 hB32 hB42 hK2 c1 f1 hc0 hnum hkind hpre tc0 tc1 tc2 tc3 tc4 tf0 tf1 tf2 tf3 tf4
      have hw0 := hB33.lt
      go_upto_region 14 with fail
      go_cut [] (fun w4 => Rdr w4 r q s (i + 1 + pre) ∧ Blk w4 w.heap.size [.int .i64 kind, .int .i64 p, .int .i64 0, .string (bs (runName (s.data.toList.drop (i + 1 + pre)))), .bool false] ∧ Blk w4 (w.heap.size + 1) [.int .i64 0, .int .i64 0, .int .i64 0, .string ⟨#[]⟩, .bool false] ∧ Kept (At r) w w4)
      case first =>
        have c0 := hR3.c0
        have c1 := hR3.c1
        have cs := hR3.cs
        have t3 := hB33.cell 3 rfl
        have t3f := hB33.free 3
        go_region_held3 (fun w' => w'.cell? ⟨r, 0, none⟩ = some (.pointer (some ⟨q, 0, none⟩)) ∧ w'.cell? ⟨r, 1, none⟩ = some (.int .i64 ((i + 1 + pre : Nat) : Int)) ∧ w'.cell? ⟨q, 0, none⟩ = some (.string s)) (first | (refine ⟨bSome hb4 ?_, bSome hb4 ?_, bSome hb4 ?_⟩ <;> simp [*]) | (refine ⟨(World.cell?_setCell_other _ _ _ _ (by simp)).trans ?_, (World.cell?_setCell_other _ _ _ _ (by simp)).trans ?_, (World.cell?_setCell_other _ _ _ _ (by simp)).trans ?_⟩ <;> simp [*]) | go_keep)
          (first
            | (go_at_call 147; refine (sName_any ⟨q, 0, none⟩ s (i + 1 + pre) _ hs (by omega) ?_).mono ?_; (simp [*]); rintro e w4 ⟨rfl, hb4⟩; have T3 := bSome hb4 (p := ⟨w.heap.size, 3, none⟩) (v := .string ⟨#[]⟩) (by simp [*]); have T3f := bFree hb4 (p := ⟨w.heap.size, 3, none⟩) (v := .string ⟨#[]⟩) (by simp [*]) (by simp [*])))
        have hR4 := hR3.drew.below hb4
        have hB34 := hB33.drew.below hb4
        have hB44 := hB43.drew.below hb4
        have hK4 := hK3.drew.andBelow hb4
        go_wp2_with fail
        go_meet
        case rel =>
          refine ⟨?_, ?_, ?_, ?_⟩
          · repeat (first | (with_reducible assumption) | ((with_reducible refine Rdr.moveTo ?_ ?_); rotate_left; (focus go_num)) | (with_reducible exact RdrAny.of (by assumption)) | ((with_reducible refine RdrAny.other ?_ ?_ ?_ _); rotate_left; (focus (first | omega | (simp; omega) | simp)); (focus (first | omega | (simp; omega) | simp))) | (with_reducible refine RdrAny.move ?_ _) | (with_reducible refine RdrAny.alloc ?_ _) | ((with_reducible refine Rdr.other ?_ ?_ ?_ _); rotate_left; (focus (first | omega | (simp; omega) | simp)); (focus (first | omega | (simp; omega) | simp))) | (with_reducible refine Rdr.alloc ?_ _) | (with_reducible refine Rdr.drewN ?_ _) | (with_reducible refine Rdr.drew ?_))
          · apply Blk.as
            repeat (first | (with_reducible assumption) | ((with_reducible apply Blk.newAt); (focus (simp; done))) | (with_reducible apply Blk.set) | ((with_reducible apply Blk.other); (case hp => first | omega | (simp; omega) | simp)) | (with_reducible apply Blk.alloc) | (with_reducible apply Blk.drewN) | (with_reducible apply Blk.drew))
            rfl
          · apply Blk.as
            repeat (first | (with_reducible assumption) | ((with_reducible apply Blk.newAt); (focus (simp; done))) | (with_reducible apply Blk.set) | ((with_reducible apply Blk.other); (case hp => first | omega | (simp; omega) | simp)) | (with_reducible apply Blk.alloc) | (with_reducible apply Blk.drewN) | (with_reducible apply Blk.drew))
            rfl
          · repeat (first | (with_reducible assumption) | (with_reducible exact Kept.refl _ _) | ((with_reducible refine Kept.setCell ?_ ?_ _); rotate_left; (focus (first | exact fun _ => rfl | exact fun h => absurd h (by first | omega | (simp; omega) | simp)))) | (with_reducible refine Kept.alloc ?_ _) | (with_reducible refine Kept.drewN ?_ _) | (with_reducible refine Kept.drew ?_))
      case rest =>
        obtain ⟨hR4, hB34, hB44, hK4⟩ := hcut
        clear hR3 hB33 hB43 hK3
        go_upto_region 15 with fail
        have g0 := cell_regrown hR4.c0
        have g1 := cell_regrown hR4.c1
        have g2 := cell_regrown hR4.cs
        have hbd : i + 1 + pre ≤ s.size := hpb.out
        by_cases hst : Lib.hasPrefix (s.data.toList.drop (i + 1 + pre)) [42] = true
        · have hst' : Lib.hasPrefix (List.drop (i + 1 + pre) s.data.toList) (ByteArray.mk #[42]).data.toList = true := hst
          have HX : Hid (x = [42]) := Lib.hid (by rw [hx.out, starName, if_pos hst])
          have HB := Lib.hid (bHas_in s ⟨#[42]⟩ (i + 1 + pre))
          rw [hst'] at HB
          clear hst hst' hx hbad
          refine wp_region_quiet_below (by kernel_rfl) (by kernel_rfl) ?_
          repeat (go_big_quiet_step ((go_at_call 109; exact Calls.regrown_of (HB.out _ hs hbd))))
          refine wpQuiet_nil ?_
          intro w5 hw'
          have hb : Below wc.heap.size wc w5 := below_of_regrown hw'
          clear hw'
          clear g0 g1 g2 HB
          have hR5 := hR4.below hb
          have hB35 := hB34.below hb
          have hB45 := hB44.below hb
          have hK5 := hK4.andBelow hb
          clear hR4 hB34 hB44 hK4 hb
          have c1 := hR5.c1
          have f1 := hR5.f1
          have n1 : ¬ r = w.heap.size := by omega
          have tc0 := hB35.cell 0 rfl
          have tc1 := hB35.cell 1 rfl
          have tc2 := hB35.cell 2 rfl
          have tc3 := hB35.cell 3 rfl
          have tc4 := hB35.cell 4 rfl
          have tf0 := hB35.free 0
          have tf1 := hB35.free 1
          have tf2 := hB35.free 2
          have tf3 := hB35.free 3
          have tf4 := hB35.free 4
          have uc0 := hB45.cell 0 rfl
          have uc1 := hB45.cell 1 rfl
          have uc2 := hB45.cell 2 rfl
          have uc3 := hB45.cell 3 rfl
          have uc4 := hB45.cell 4 rfl
          have uf0 := hB45.free 0
          have uf1 := hB45.free 1
          have uf2 := hB45.free 2
          have uf3 := hB45.free 3
          have uf4 := hB45.free 4
          go_wp2_with fail
          go_region
          all_goals go_wp2_with fail
          (try simp only [Exit.inBlock, Exit.then])
          refine bodyPost_ret (results_blk (p := 4) (u := 5) (g := w.heap.size + 1) (cs := [.int .i64 kind, .int .i64 p, .int .i64 0, .string (bs x), .bool false]) rfl _ _ _ rfl ?_ Tryz.underlying107 rfl (by kernel_rfl)) rfl (hgood.out (.inl HX.out) _ ?_ ?_)
          · rw [HX.out]
            apply Blk.as
            repeat (first | (with_reducible assumption) | ((with_reducible apply Blk.newAt); (focus (simp; done))) | (with_reducible apply Blk.set) | ((with_reducible apply Blk.other); (case hp => first | omega | (simp; omega) | simp)) | (with_reducible apply Blk.alloc) | (with_reducible apply Blk.drewN) | (with_reducible apply Blk.drew))
            rfl
          · rw [HX.out]
            repeat (first | (with_reducible assumption) | ((with_reducible refine Rdr.moveTo ?_ ?_); rotate_left; (focus go_num)) | (with_reducible exact RdrAny.of (by assumption)) | ((with_reducible refine RdrAny.other ?_ ?_ ?_ _); rotate_left; (focus (first | omega | (simp; omega) | simp)); (focus (first | omega | (simp; omega) | simp))) | (with_reducible refine RdrAny.move ?_ _) | (with_reducible refine RdrAny.alloc ?_ _) | ((with_reducible refine Rdr.other ?_ ?_ ?_ _); rotate_left; (focus (first | omega | (simp; omega) | simp)); (focus (first | omega | (simp; omega) | simp))) | (with_reducible refine Rdr.alloc ?_ _) | (with_reducible refine Rdr.drewN ?_ _) | (with_reducible refine Rdr.drew ?_))
          · repeat (first | (with_reducible assumption) | (with_reducible exact Kept.refl _ _) | ((with_reducible refine Kept.setCell ?_ ?_ _); rotate_left; (focus (first | exact fun _ => rfl | exact fun h => absurd h (by first | omega | (simp; omega) | simp)))) | (with_reducible refine Kept.alloc ?_ _) | (with_reducible refine Kept.drewN ?_ _) | (with_reducible refine Kept.drew ?_))
        · have hst' : Lib.hasPrefix (List.drop (i + 1 + pre) s.data.toList) (ByteArray.mk #[42]).data.toList = false := by simpa using hst
          have HX : Hid (x = runName (s.data.toList.drop (i + 1 + pre))) := Lib.hid (by rw [hx.out, starName, if_neg hst])
          have HB := Lib.hid (bHas_in s ⟨#[42]⟩ (i + 1 + pre))
          rw [hst'] at HB
          have hst0 : Hid (Lib.hasPrefix (List.drop (i + 1 + pre) s.data.toList) [42] = false) := Lib.hid (by simpa using hst)
          clear hst hst' hx
          refine wp_region_quiet_below (by kernel_rfl) (by kernel_rfl) ?_
          repeat (go_big_quiet_step ((go_at_call 109; exact Calls.regrown_of (HB.out _ hs hbd))))
          refine wpQuiet_nil ?_
          intro w5 hw'
          have hb : Below wc.heap.size wc w5 := below_of_regrown hw'
          clear hw'
          clear g0 g1 g2 HB
          have hR5 := hR4.below hb
          have hB35 := hB34.below hb
          have hB45 := hB44.below hb
          have hK5 := hK4.andBelow hb
          clear hR4 hB34 hB44 hK4 hb
          have c1 := hR5.c1
          have f1 := hR5.f1
          have n1 : ¬ r = w.heap.size := by omega
          rw [← HX.out] at hB35
          have tc0 := hB35.cell 0 rfl
          have tc1 := hB35.cell 1 rfl
          have tc2 := hB35.cell 2 rfl
          have tc3 := hB35.cell 3 rfl
          have tc4 := hB35.cell 4 rfl
          have tf0 := hB35.free 0
          have tf1 := hB35.free 1
          have tf2 := hB35.free 2
          have tf3 := hB35.free 3
          have tf4 := hB35.free 4
          have uc0 := hB45.cell 0 rfl
          have uc1 := hB45.cell 1 rfl
          have uc2 := hB45.cell 2 rfl
          have uc3 := hB45.cell 3 rfl
          have uc4 := hB45.cell 4 rfl
          have uf0 := hB45.free 0
          have uf1 := hB45.free 1
          have uf2 := hB45.free 2
          have uf3 := hB45.free 3
          have uf4 := hB45.free 4
          have hne : ¬ x = [42] := fun e => runName_ne (s.data.toList.drop (i + 1 + pre)) (HX.out.symm.trans e)
          have hne2 : ¬ (bs x).toList = [42] := fun e => hne (by rw [← bs_list x, ← Lib.toList_data]; exact e)
          have hxl : x.length ≤ 1000000 := by
            have h1 := starName_le (s.data.toList.drop (i + 1 + pre))
            rw [starName, if_neg (by rw [hst0.out]; decide), ← HX.out, List.length_drop, size_eq] at h1
            omega
          have hxs := bs_size x
          by_cases hnm : nameB x = true
          · have hnx : Hid (nameB (bs x).data.toList = true) := Lib.hid (by rw [bs_list]; exact hnm)
            have HG := Lib.hid (hgood.out (.inr hnm))
            clear hne hbad hnm hgood
            go_wp2_with (go_at_call 127; refine (tName_any _ _ (by omega)).mono ?_; rintro e w' ⟨rfl, rfl⟩; rw [hnx.out])
            go_region
            all_goals go_wp2_with fail
            (try simp only [Exit.inBlock, Exit.then])
            refine bodyPost_ret (results_blk (p := 4) (u := 5) (g := w.heap.size + 1) (cs := [.int .i64 kind, .int .i64 p, .int .i64 0, .string (bs x), .bool false]) rfl _ _ _ rfl ?_ Tryz.underlying107 rfl (by kernel_rfl)) rfl (HG.out _ ?_ ?_)
            · apply Blk.as
              repeat (first | (with_reducible assumption) | ((with_reducible apply Blk.newAt); (focus (simp; done))) | (with_reducible apply Blk.set) | ((with_reducible apply Blk.other); (case hp => first | omega | (simp; omega) | simp)) | (with_reducible apply Blk.alloc) | (with_reducible apply Blk.drewN) | (with_reducible apply Blk.drew))
              rfl
            · repeat (first | (with_reducible assumption) | ((with_reducible refine Rdr.moveTo ?_ ?_); rotate_left; (focus go_num)) | (with_reducible exact RdrAny.of (by assumption)) | ((with_reducible refine RdrAny.other ?_ ?_ ?_ _); rotate_left; (focus (first | omega | (simp; omega) | simp)); (focus (first | omega | (simp; omega) | simp))) | (with_reducible refine RdrAny.move ?_ _) | (with_reducible refine RdrAny.alloc ?_ _) | ((with_reducible refine Rdr.other ?_ ?_ ?_ _); rotate_left; (focus (first | omega | (simp; omega) | simp)); (focus (first | omega | (simp; omega) | simp))) | (with_reducible refine Rdr.alloc ?_ _) | (with_reducible refine Rdr.drewN ?_ _) | (with_reducible refine Rdr.drew ?_))
            · repeat (first | (with_reducible assumption) | (with_reducible exact Kept.refl _ _) | ((with_reducible refine Kept.setCell ?_ ?_ _); rotate_left; (focus (first | exact fun _ => rfl | exact fun h => absurd h (by first | omega | (simp; omega) | simp)))) | (with_reducible refine Kept.alloc ?_ _) | (with_reducible refine Kept.drewN ?_ _) | (with_reducible refine Kept.drew ?_))
          · have hnx : Hid (nameB (bs x).data.toList = false) := Lib.hid (by rw [bs_list]; simpa using hnm)
            have HG := Lib.hid (hbad.out (fun h => h.elim hne hnm))
            clear hne hbad hnm hgood
            have hne3 : ((bs x).toList == [42]) = false := by simpa using hne2
            have hge := hK5.cell hev (fun e => hgr e)
            have l1 := hB45.lt
            have l2 := hB35.lt
            have l3 := hR5.here.lt
            go_wp2_with (first | (go_at_call 127; refine (tName_any _ _ (by omega)).mono ?_; rintro e w' ⟨rfl, rfl⟩; rw [hnx.out]) | (go_at_call 110; refine (xFault_any _ _ _ _).mono ?_; rintro e w6 ⟨rfl, rfl⟩))
            (try simp only [Exit.inBlock, Exit.then])
            refine bodyPost_ret (results_blk (p := 4) (u := 5) (g := w.heap.size + 1) (cs := [.int .i64 0, .int .i64 0, .int .i64 0, .string ⟨#[]⟩, .bool false]) rfl _ _ _ rfl ?_ Tryz.underlying107 rfl (by kernel_rfl)) rfl (HG.out w5.heap.size _ ?_ ?_)
            · apply Blk.as
              repeat (first | (with_reducible assumption) | ((with_reducible apply Blk.newAt); (focus (simp; done))) | (with_reducible apply Blk.set) | ((with_reducible apply Blk.other); (case hp => first | omega | (simp; omega) | simp)) | (with_reducible apply Blk.alloc) | (with_reducible apply Blk.drewN) | (with_reducible apply Blk.drew))
              rfl
            · apply Blk.as
              repeat (first | (with_reducible assumption) | ((with_reducible apply Blk.newAt); (focus (simp; done))) | (with_reducible apply Blk.set) | ((with_reducible apply Blk.other); (case hp => first | omega | (simp; omega) | simp)) | (with_reducible apply Blk.alloc) | (with_reducible apply Blk.drewN) | (with_reducible apply Blk.drew))
              rfl
            · repeat (first | (with_reducible assumption) | (with_reducible exact Kept.refl _ _) | ((with_reducible refine Kept.setCell ?_ ?_ _); rotate_left; (focus (first | exact fun _ => rfl | exact fun h => absurd h (by first | omega | (simp; omega) | simp)))) | (with_reducible refine Kept.alloc ?_ _) | (with_reducible refine Kept.drewN ?_ _) | (with_reducible refine Kept.drew ?_))

end Go.Proofs.YtepebnblbheegaaGreatDoor
