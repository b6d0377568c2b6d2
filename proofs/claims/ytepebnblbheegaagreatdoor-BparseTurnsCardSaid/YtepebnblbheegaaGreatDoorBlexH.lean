/- Dialect B's reader: what is between two quotes. -/
import Derived.Test.YtepebnblbheegaaGreatDoorBlexG
import Derived.Test.YtepebnblbheegaaGreatDoorPureG
namespace Go.Proofs.YtepebnblbheegaaGreatDoor
open Go Go.RowKit

/-- A builder in block b that holds these bytes, its rows from b on. -/
def Bld (w : World) (b : Nat) (l : List UInt8) : Prop := Lib.IsBuilder 188 5 b b (Lib.byteCells l) w

theorem bldAt_heap {B b : Nat} {p : Value} {l : List Value} {w w' : World} (h : Lib.BuilderAt 188 5 B b p l w) (hk : ∀ k, B ≤ k → k < w.heap.size → w'.heap[k]? = w.heap[k]?) : Lib.BuilderAt 188 5 B b p l w' := by
  obtain ⟨hB, v, hb, hown, hne⟩ := h
  refine ⟨hB, v, (hk b hB (lt_of_block hb)).trans hb, ⟨hown.1, ?_⟩, hne⟩
  rcases hown.2 with h2 | ⟨g, cap, cur, hv, hg, hh, r⟩
  · exact .inl h2
  · exact .inr ⟨g, cap, cur, hv, hg, (hk g hg (lt_of_block hh)).trans hh, r⟩
theorem Bld.of_heap {w w' : World} {b : Nat} {l : List UInt8} (h : Bld w b l) (hk : ∀ k, b ≤ k → k < w.heap.size → w'.heap[k]? = w.heap[k]?) : Bld w' b l :=
  h.imp (fun h => bldAt_heap h hk) (fun h => bldAt_heap h hk)
theorem Bld.below {w w' : World} {b : Nat} {l : List UInt8} (h : Bld w b l) (hb : Below w.heap.size w w') : Bld w' b l := h.of_heap fun k _ hk => hb.block k hk
theorem Bld.other {w : World} {b : Nat} {l : List UInt8} (h : Bld w b l) {p : Addr} (hp : p.block < b) (u : Value) : Bld (w.setCell p u) b l := h.of_heap fun k h1 _ => Below.heap_setCell _ _ _ _ (by omega)
theorem Bld.drew {w : World} {b : Nat} {l : List UInt8} (h : Bld w b l) : Bld w.drew b l := h.of_heap fun _ _ _ => rfl
theorem Bld.new (w : World) : Bld (w.alloc (.cells #[.pointer none, .slice none 0 0] 188)) w.heap.size [] := Lib.fresh_isBuilder _ _ w
theorem Bld.newAt {w : World} {b : Nat} (hb : b = w.heap.size) : Bld (w.alloc (.cells #[.pointer none, .slice none 0 0] 188)) b [] := hb ▸ Bld.new w
theorem Bld.lt {w : World} {b : Nat} {l : List UInt8} (h : Bld w b l) : b < w.heap.size := h.elim (fun h => h.lt) (fun h => h.lt)

theorem byteCells_snoc (l : List UInt8) (c : UInt8) : Lib.byteCells l ++ [.int .u8 (c.toNat : Int)] = Lib.byteCells (l ++ [c]) := by simp [Lib.byteCells]

/-- A byte written. -/
theorem Bld.writeByte (b : Nat) (l : List UInt8) (c : UInt8) (w : World) (h : Bld w b l) (hlen : l.length ≤ 100000000) :
    Calls Tryz.prog 146 #[.pointer (some ⟨b, 0, none⟩), .int .u8 c.toNat] w fun e w' => e = .returned .nilIface ∧ Bld w' b (l ++ [c]) ∧ Below b w w' := by
  refine (sbWriteByte_any b b (Lib.byteCells l) _ w h (by rw [Lib.byteCells_length]; omega) (Nat.le_of_lt h.lt)).mono ?_
  rintro e w' ⟨rfl, h1, h2⟩
  rw [byteCells_snoc] at h1
  exact ⟨rfl, .inr h1, h2⟩

/-- What it holds. -/
theorem Bld.string (b : Nat) (l : List UInt8) (w : World) (h : Bld w b l) :
    Calls Tryz.prog 145 #[.pointer (some ⟨b, 0, none⟩)] w fun e w' => e = .returned (.string (bs l)) ∧ Below b w w' :=
  Tryz.Builder_String_any b b l w h (Nat.le_of_lt h.lt)

theorem Rdr.belowB {w w' : World} {r q : Nat} {s : ByteArray} {i B : Nat} (h : Rdr w r q s i) (hb : Below B w w') (h1 : r < B) (h2 : q < B) : Rdr w' r q s i :=
  ⟨h.here.of_heap (hb.block r h1), h.src.of_heap (hb.block q h2), h.ne⟩
theorem Blk.belowB {w w' : World} {b B : Nat} {cs : List Value} (h : Blk w b cs) (hb : Below B w w') (h1 : b < B) : Blk w' b cs := h.of_heap (hb.block b h1)
theorem Kept.belowB {S : Nat → Prop} {a b c : World} {B : Nat} (h : Kept S a b) (k : Below B b c) (hB : a.heap.size ≤ B) : Kept S a c :=
  ⟨k.os.trans h.os, k.tape.trans h.tape, k.output.trans h.output, Nat.le_trans h.size k.size, fun i hi hn => (k.block i (by omega)).trans (h.block i hi hn)⟩

/-- What the loop is still to come to, at a place with so much written. -/
def deadAt (l : List UInt8) (k : Nat) (acc : List UInt8) : Option (List UInt8 × Nat) := (deadB (l.drop k)).map fun x => (acc ++ x.1, k + x.2)

theorem deadAt_end (s : ByteArray) (k : Nat) (acc : List UInt8) (h : s.size ≤ k) : deadAt s.data.toList k acc = none := by
  rw [deadAt, List.drop_eq_nil_of_le (by rw [size_eq]; omega)]; rfl
theorem deadAt_two (s : ByteArray) (k : Nat) (acc : List UInt8) (h : k < s.size) (hc : (bat s k).toNat = 39) (h2 : Lib.hasPrefix (s.data.toList.drop k) [39, 39] = true) :
    k + 1 < s.size ∧ deadAt s.data.toList k acc = deadAt s.data.toList (k + 2) (acc ++ [bat s k]) := by
  rw [drop_bat s k h] at h2
  by_cases h3 : k + 1 < s.size
  · rw [drop_bat s (k + 1) h3] at h2
    refine ⟨h3, ?_⟩
    have hd : (bat s (k + 1)).toNat = 39 := by
      simp only [Lib.hasPrefix, List.isPrefixOf, Bool.and_eq_true, beq_iff_eq] at h2
      rw [← h2.2.1]; rfl
    have hc' : bat s k = 39 := by apply UInt8.toNat_inj.1; rw [hc]; rfl
    rw [deadAt, deadAt, drop_bat s k h, drop_bat s (k + 1) h3, deadB, if_pos hc, if_pos hd, hc', Option.map_map]
    congr 1
    funext x
    simp [Nat.add_assoc, Nat.add_comm 2]
  · rw [List.drop_eq_nil_of_le (by rw [size_eq]; omega)] at h2
    simp [Lib.hasPrefix, List.isPrefixOf] at h2
theorem deadAt_last (s : ByteArray) (k : Nat) (acc : List UInt8) (h : k < s.size) (hc : (bat s k).toNat = 39) (h2 : Lib.hasPrefix (s.data.toList.drop k) [39, 39] = false) :
    deadAt s.data.toList k acc = some (acc, k + 1) := by
  have hc' : bat s k = 39 := by apply UInt8.toNat_inj.1; rw [hc]; rfl
  rw [drop_bat s k h, hc'] at h2
  rw [deadAt, drop_bat s k h]
  by_cases h3 : k + 1 < s.size
  · rw [drop_bat s (k + 1) h3] at h2 ⊢
    have hd : ¬ (bat s (k + 1)).toNat = 39 := by
      intro e
      have : bat s (k + 1) = 39 := by apply UInt8.toNat_inj.1; rw [e]; rfl
      rw [this] at h2
      revert h2
      simp [Lib.hasPrefix, List.isPrefixOf]
    rw [deadB, if_pos hc, if_neg hd]
    simp
  · rw [List.drop_eq_nil_of_le (by rw [size_eq]; omega), deadB, if_pos hc]
    simp
theorem deadAt_on (s : ByteArray) (k : Nat) (acc : List UInt8) (h : k < s.size) (hc : ¬ (bat s k).toNat = 39) :
    deadAt s.data.toList k acc = deadAt s.data.toList (k + 1) (acc ++ [bat s k]) := by
  rw [deadAt, deadAt, drop_bat s k h]
  by_cases h3 : k + 1 < s.size
  · rw [drop_bat s (k + 1) h3, deadB, if_neg hc, Option.map_map]
    congr 1
    funext x
    simp [Nat.add_assoc, Nat.add_comm 1]
  · rw [List.drop_eq_nil_of_le (by rw [size_eq]; omega)]
    simp [deadB, hc]

set_option maxHeartbeats 2000000 in
set_option maxRecDepth 100000 in
theorem xDead_any (r q : Nat) (s : ByteArray) (i p : Nat) (w : World) (hs : s.size ≤ 1000000) (hi : i < s.size) (hR : Rdr w r q s i) (ev : Addr) (te : TypeId) (hev : w.cell? ⟨7, 0, none⟩ = some (.iface te (.pointer (some ev)))) (hgr : 7 ≠ r)
    (R : Ending → World → Prop) (tg : Option (List UInt8 × Nat)) (htg : Hid (deadAt s.data.toList (i + 1) [] = tg))
    (hgood : Hid (∀ x n w', tg = some (x, n) → Rdr w' r q s n → Kept (At r) w w' → R (.returned (.tuple #[.agg #[.int .i64 19, .int .i64 p, .int .i64 0, .string (bs x), .bool false], .nilIface])) w'))
    (hbad : Hid (tg = none → ∀ b w', Blk w' b [.int .i64 p, .iface te (.pointer (some ev))] → Kept (At r) w w' → R (.returned (.tuple #[.agg #[.int .i64 0, .int .i64 0, .int .i64 0, .string ⟨#[]⟩, .bool false], .iface 67 (.pointer (some ⟨b, 0, none⟩))])) w')) :
    Calls Tryz.prog 111 #[.pointer (some ⟨r, 0, none⟩), .agg #[.int .i64 0, .int .i64 p, .int .i64 0, .string ⟨#[]⟩, .bool false]] w R := by
  have hr := hR.here.lt
  have hq := hR.src.lt
  have hgl := block_lt_of_cell hev
  go_enter Tryz.func111, Tryz.ntmps111
  go_upto_region 2 with fail
  refine wp_world (fun w1 => Rdr w1 r q s i ∧ Blk w1 w.heap.size [.int .i64 0, .int .i64 p, .int .i64 0, .string ⟨#[]⟩, .bool false] ∧
      Blk w1 (w.heap.size + 1) [.int .i64 0, .int .i64 0, .int .i64 0, .string ⟨#[]⟩, .bool false] ∧ Bld w1 (w.heap.size + 1 + 1) [] ∧ Kept (At r) w w1)
    ⟨((hR.alloc _).alloc _).alloc _, ((Blk.newAt _ _ (by simp)).alloc _).alloc _, (Blk.newAt _ _ (by simp)).alloc _, Bld.newAt (by simp), (((Kept.refl (At r) w).alloc _).alloc _).alloc _⟩ ?_
  intro w1 ⟨hR1, hB1, hB2, hL1, hK1⟩
  have c1 := hR1.c1
  have f1 := hR1.f1
  go_wp2_with fail
  clear c1 f1
  go_loopg [] (s.size - (i + 1)) (fun n wr => ∃ (k : Nat) (acc : List UInt8), n = s.size - k ∧ k ≤ s.size ∧ acc.length ≤ k ∧ Rdr wr r q s k ∧ Blk wr w.heap.size [.int .i64 0, .int .i64 p, .int .i64 0, .string ⟨#[]⟩, .bool false] ∧
      Blk wr (w.heap.size + 1) [.int .i64 0, .int .i64 0, .int .i64 0, .string ⟨#[]⟩, .bool false] ∧ Bld wr (w.heap.size + 1 + 1) acc ∧ Kept (At r) w wr ∧ Hid (deadAt s.data.toList k acc = tg))
  case atStart =>
    refine ⟨i + 1, [], rfl, by omega, by simp, ?_, ?_, ?_, ?_, ?_, htg⟩
    · repeat (first | (with_reducible assumption) | ((with_reducible refine Rdr.moveTo ?_ ?_); rotate_left; (focus go_num)) | (with_reducible exact RdrAny.of (by assumption)) | ((with_reducible refine RdrAny.other ?_ ?_ ?_ _); rotate_left; (focus (first | omega | (simp; omega) | simp)); (focus (first | omega | (simp; omega) | simp))) | (with_reducible refine RdrAny.move ?_ _) | (with_reducible refine RdrAny.alloc ?_ _) | ((with_reducible refine Rdr.other ?_ ?_ ?_ _); rotate_left; (focus (first | omega | (simp; omega) | simp)); (focus (first | omega | (simp; omega) | simp))) | (with_reducible refine Rdr.alloc ?_ _) | (with_reducible refine Rdr.drewN ?_ _) | (with_reducible refine Rdr.drew ?_))
    · apply Blk.as
      repeat (first | (with_reducible assumption) | ((with_reducible apply Blk.newAt); (focus (simp; done))) | (with_reducible apply Blk.set) | ((with_reducible apply Blk.other); (case hp => first | omega | (simp; omega) | simp)) | (with_reducible apply Blk.alloc) | (with_reducible apply Blk.drewN) | (with_reducible apply Blk.drew))
      rfl
    · apply Blk.as
      repeat (first | (with_reducible assumption) | ((with_reducible apply Blk.newAt); (focus (simp; done))) | (with_reducible apply Blk.set) | ((with_reducible apply Blk.other); (case hp => first | omega | (simp; omega) | simp)) | (with_reducible apply Blk.alloc) | (with_reducible apply Blk.drewN) | (with_reducible apply Blk.drew))
      rfl
    · repeat (first | (with_reducible assumption) | ((with_reducible refine Bld.other ?_ ?_ _); rotate_left; (focus (first | omega | (simp; omega) | simp))) | (with_reducible refine Bld.drew ?_))
    · repeat (first | (with_reducible assumption) | (with_reducible exact Kept.refl _ _) | ((with_reducible refine Kept.setCell ?_ ?_ _); rotate_left; (focus (first | exact fun _ => rfl | exact fun h => absurd h (by first | omega | (simp; omega) | simp)))) | (with_reducible refine Kept.alloc ?_ _) | (with_reducible refine Kept.drewN ?_ _) | (with_reducible refine Kept.drew ?_))
  case round =>
    obtain ⟨k, acc, rfl, hk, hacc, hR, hB1, hB2, hL, hK, htg⟩ := hrel
    clear hR1
    have g0 := cell_regrown hR.c0
    have g1 := cell_regrown hR.c1
    have g2 := cell_regrown hR.cs
    go_wp2_with fail
    by_cases hlt : k < s.size
    · refine wp_region_quiet_below (by kernel_rfl) (by kernel_rfl) ?_
      repeat (go_big_quiet_step ((go_at_call 107; exact Calls.regrown_of (bByte_in s k _ hs hlt))))
      refine wpQuiet_nil ?_
      intro w2 hw'
      have hb : Below wr.heap.size wr w2 := below_of_regrown hw'
      clear hw'
      have hR2 := hR.below hb
      have hB12 := hB1.below hb
      have hB22 := hB2.below hb
      have hL2 := hL.below hb
      have hK2 := hK.andBelow hb
      clear hR hB1 hB2 hL hK hb g0 g1 g2
      by_cases h39 : (bat s k).toNat = 39
      · have d1 : (((bat s k).toNat : Int) == 39) = true := by rw [beq_iff_eq]; omega
        have g0 := cell_regrown hR2.c0
        have g1 := cell_regrown hR2.c1
        have g2 := cell_regrown hR2.cs
        have HB := Lib.hid (bHas_in s ⟨#[39, 39]⟩ k)
        by_cases hq2 : Lib.hasPrefix (s.data.toList.drop k) [39, 39] = true
        · have hq' : Lib.hasPrefix (List.drop k s.data.toList) (ByteArray.mk #[39, 39]).data.toList = true := hq2
          rw [hq'] at HB
          have HT := Lib.hid ((deadAt_two s k acc hlt h39 hq2).2.symm.trans htg.out)
          have hlt2 := (deadAt_two s k acc hlt h39 hq2).1
          clear hq' hq2 h39
          go_wp2_with fail
          refine wp_region_quiet_below (by kernel_rfl) (by kernel_rfl) ?_
          repeat (go_big_quiet_step ((go_at_call 109; exact Calls.regrown_of (HB.out _ hs hk))))
          refine wpQuiet_nil ?_
          intro w3 hw'
          have hb : Below w2.heap.size w2 w3 := below_of_regrown hw'
          clear hw'
          have hR3 := hR2.below hb
          have hB13 := hB12.below hb
          have hB23 := hB22.below hb
          have hL3 := hL2.below hb
          have hK3 := hK2.andBelow hb
          have l1 := hL3.lt
          clear hR2 hB12 hB22 hL2 hK2 hb g0 g1 g2 HB
          have c1 := hR3.c1
          have f1 := hR3.f1
          go_wp2_with fail
          generalize hw4 : w3.setCell ⟨r, 1, none⟩ (.int .i64 (↑k + 1)) = w4
          have hR4 := hR3.move (k + 1)
          have hB14 := hB13.other (p := ⟨r, 1, none⟩) (by simp; omega) (.int .i64 (↑k + 1))
          have hB24 := hB23.other (p := ⟨r, 1, none⟩) (by simp; omega) (.int .i64 (↑k + 1))
          have hL4 := hL3.other (p := ⟨r, 1, none⟩) (by simp; omega) (.int .i64 (↑k + 1))
          have hK4 := hK3.setCell (p := ⟨r, 1, none⟩) (fun _ => rfl) (.int .i64 (↑k + 1))
          rw [show ((k + 1 : Nat) : Int) = (k : Int) + 1 from rfl] at hR4
          rw [hw4] at hR4 hB14 hB24 hL4 hK4
          clear hw4 hR3 hB13 hB23 hL3 hK3 c1 f1 l1
          refine (Bld.writeByte _ acc (bat s k) w4 hL4 (by omega)).mono ?_
          rintro e w5 ⟨rfl, hL5, hb5⟩
          have hR5 := hR4.belowB hb5 (by omega) (by omega)
          have hB15 := hB14.belowB hb5 (by omega)
          have hB25 := hB24.belowB hb5 (by omega)
          have hK5 := hK4.belowB hb5 (by omega)
          clear hR4 hB14 hB24 hL4 hK4 hb5
          have c1 := hR5.c1
          have f1 := hR5.f1
          go_wp2_with fail
          go_roundg (s.size - (k + 2))
          case measure => omega
          case rel =>
            refine ⟨k + 2, acc ++ [bat s k], rfl, by omega, by simp; omega, ?_, ?_, ?_, ?_, ?_, HT⟩
            · repeat (first | (with_reducible assumption) | ((with_reducible refine Rdr.moveTo ?_ ?_); rotate_left; (focus go_num)) | (with_reducible exact RdrAny.of (by assumption)) | ((with_reducible refine RdrAny.other ?_ ?_ ?_ _); rotate_left; (focus (first | omega | (simp; omega) | simp)); (focus (first | omega | (simp; omega) | simp))) | (with_reducible refine RdrAny.move ?_ _) | (with_reducible refine RdrAny.alloc ?_ _) | ((with_reducible refine Rdr.other ?_ ?_ ?_ _); rotate_left; (focus (first | omega | (simp; omega) | simp)); (focus (first | omega | (simp; omega) | simp))) | (with_reducible refine Rdr.alloc ?_ _) | (with_reducible refine Rdr.drewN ?_ _) | (with_reducible refine Rdr.drew ?_))
            · apply Blk.as
              repeat (first | (with_reducible assumption) | ((with_reducible apply Blk.newAt); (focus (simp; done))) | (with_reducible apply Blk.set) | ((with_reducible apply Blk.other); (case hp => first | omega | (simp; omega) | simp)) | (with_reducible apply Blk.alloc) | (with_reducible apply Blk.drewN) | (with_reducible apply Blk.drew))
              rfl
            · apply Blk.as
              repeat (first | (with_reducible assumption) | ((with_reducible apply Blk.newAt); (focus (simp; done))) | (with_reducible apply Blk.set) | ((with_reducible apply Blk.other); (case hp => first | omega | (simp; omega) | simp)) | (with_reducible apply Blk.alloc) | (with_reducible apply Blk.drewN) | (with_reducible apply Blk.drew))
              rfl
            · repeat (first | (with_reducible assumption) | ((with_reducible refine Bld.other ?_ ?_ _); rotate_left; (focus (first | omega | (simp; omega) | simp))) | (with_reducible refine Bld.drew ?_))
            · repeat (first | (with_reducible assumption) | (with_reducible exact Kept.refl _ _) | ((with_reducible refine Kept.setCell ?_ ?_ _); rotate_left; (focus (first | exact fun _ => rfl | exact fun h => absurd h (by first | omega | (simp; omega) | simp)))) | (with_reducible refine Kept.alloc ?_ _) | (with_reducible refine Kept.drewN ?_ _) | (with_reducible refine Kept.drew ?_))
        · have hq' : Lib.hasPrefix (List.drop k s.data.toList) (ByteArray.mk #[39, 39]).data.toList = false := by simpa using hq2
          rw [hq'] at HB
          have HT := Lib.hid ((deadAt_last s k acc hlt h39 hq').symm.trans htg.out)
          clear hq' hq2 h39
          go_wp2_with fail
          refine wp_region_quiet_below (by kernel_rfl) (by kernel_rfl) ?_
          repeat (go_big_quiet_step ((go_at_call 109; exact Calls.regrown_of (HB.out _ hs hk))))
          refine wpQuiet_nil ?_
          intro w3 hw'
          have hb : Below w2.heap.size w2 w3 := below_of_regrown hw'
          clear hw'
          have hR3 := hR2.below hb
          have hB13 := hB12.below hb
          have hB23 := hB22.below hb
          have hL3 := hL2.below hb
          have hK3 := hK2.andBelow hb
          have l1 := hL3.lt
          clear hR2 hB12 hB22 hL2 hK2 hb g0 g1 g2 HB
          have c1 := hR3.c1
          have f1 := hR3.f1
          go_wp2_with fail
          generalize hw4 : w3.setCell ⟨r, 1, none⟩ (.int .i64 (↑k + 1)) = w4
          have hR4 := hR3.move (k + 1)
          have hB14 := hB13.other (p := ⟨r, 1, none⟩) (by simp; omega) (.int .i64 (↑k + 1))
          have hB24 := hB23.other (p := ⟨r, 1, none⟩) (by simp; omega) (.int .i64 (↑k + 1))
          have hL4 := hL3.other (p := ⟨r, 1, none⟩) (by simp; omega) (.int .i64 (↑k + 1))
          have hK4 := hK3.setCell (p := ⟨r, 1, none⟩) (fun _ => rfl) (.int .i64 (↑k + 1))
          rw [show ((k + 1 : Nat) : Int) = (k : Int) + 1 from rfl] at hR4
          rw [hw4] at hR4 hB14 hB24 hL4 hK4
          clear hw4 hR3 hB13 hB23 hL3 hK3 c1 f1 l1
          refine (Bld.string _ acc w4 hL4).mono ?_
          rintro e w5 ⟨rfl, hb5⟩
          have l2 := hL4.lt
          have hR5 := hR4.belowB hb5 (by omega) (by omega)
          have hB15 := hB14.belowB hb5 (by omega)
          have hB25 := hB24.belowB hb5 (by omega)
          have hK5 := hK4.belowB hb5 (by omega)
          clear hR4 hB14 hB24 hL4 hK4 hb5 l2
          have tc0 := hB15.cell 0 rfl
          have tc1 := hB15.cell 1 rfl
          have tc2 := hB15.cell 2 rfl
          have tc3 := hB15.cell 3 rfl
          have tc4 := hB15.cell 4 rfl
          have tf0 := hB15.free 0
          have tf1 := hB15.free 1
          have tf2 := hB15.free 2
          have tf3 := hB15.free 3
          have tf4 := hB15.free 4
          have uc0 := hB25.cell 0 rfl
          have uc1 := hB25.cell 1 rfl
          have uc2 := hB25.cell 2 rfl
          have uc3 := hB25.cell 3 rfl
          have uc4 := hB25.cell 4 rfl
          have uf0 := hB25.free 0
          have uf1 := hB25.free 1
          have uf2 := hB25.free 2
          have uf3 := hB25.free 3
          have uf4 := hB25.free 4
          go_wp2_with fail
          (try simp only [Exit.inBlock, Exit.then])
          refine bodyPost_ret (results_blk (p := 4) (u := 5) (g := w.heap.size + 1) (cs := [.int .i64 19, .int .i64 p, .int .i64 0, .string (bs acc), .bool false]) rfl _ _ _ rfl ?_ Tryz.underlying107 rfl (by kernel_rfl)) rfl (hgood.out acc (k + 1) _ HT.out.symm ?_ ?_)
          · apply Blk.as
            repeat (first | (with_reducible assumption) | ((with_reducible apply Blk.newAt); (focus (simp; done))) | (with_reducible apply Blk.set) | ((with_reducible apply Blk.other); (case hp => first | omega | (simp; omega) | simp)) | (with_reducible apply Blk.alloc) | (with_reducible apply Blk.drewN) | (with_reducible apply Blk.drew))
            rfl
          · repeat (first | (with_reducible assumption) | ((with_reducible refine Rdr.moveTo ?_ ?_); rotate_left; (focus go_num)) | (with_reducible exact RdrAny.of (by assumption)) | ((with_reducible refine RdrAny.other ?_ ?_ ?_ _); rotate_left; (focus (first | omega | (simp; omega) | simp)); (focus (first | omega | (simp; omega) | simp))) | (with_reducible refine RdrAny.move ?_ _) | (with_reducible refine RdrAny.alloc ?_ _) | ((with_reducible refine Rdr.other ?_ ?_ ?_ _); rotate_left; (focus (first | omega | (simp; omega) | simp)); (focus (first | omega | (simp; omega) | simp))) | (with_reducible refine Rdr.alloc ?_ _) | (with_reducible refine Rdr.drewN ?_ _) | (with_reducible refine Rdr.drew ?_))
          · repeat (first | (with_reducible assumption) | (with_reducible exact Kept.refl _ _) | ((with_reducible refine Kept.setCell ?_ ?_ _); rotate_left; (focus (first | exact fun _ => rfl | exact fun h => absurd h (by first | omega | (simp; omega) | simp)))) | (with_reducible refine Kept.alloc ?_ _) | (with_reducible refine Kept.drewN ?_ _) | (with_reducible refine Kept.drew ?_))
      · have d1 : (((bat s k).toNat : Int) == 39) = false := by rw [beq_eq_false_iff_ne]; omega
        have HT := Lib.hid ((deadAt_on s k acc hlt h39).symm.trans htg.out)
        clear h39
        go_wp2_with fail
        refine wp_region_quiet_below (by kernel_rfl) (by kernel_rfl) ?_
        repeat (go_big_quiet_step (fail))
        refine wpQuiet_nil ?_
        intro w3 hw'
        have hb : Below w2.heap.size w2 w3 := below_of_regrown hw'
        clear hw'
        have hR3 := hR2.below hb
        have hB13 := hB12.below hb
        have hB23 := hB22.below hb
        have hL3 := hL2.below hb
        have hK3 := hK2.andBelow hb
        clear hR2 hB12 hB22 hL2 hK2 hb
        go_wp2_with fail
        refine (Bld.writeByte _ acc (bat s k) w3 hL3 (by omega)).mono ?_
        rintro e w5 ⟨rfl, hL5, hb5⟩
        have l2 := hL3.lt
        have hR5 := hR3.belowB hb5 (by omega) (by omega)
        have hB15 := hB13.belowB hb5 (by omega)
        have hB25 := hB23.belowB hb5 (by omega)
        have hK5 := hK3.belowB hb5 (by omega)
        clear hR3 hB13 hB23 hL3 hK3 hb5 l2
        have c1 := hR5.c1
        have f1 := hR5.f1
        go_wp2_with fail
        go_roundg (s.size - (k + 1))
        case measure => omega
        case rel =>
          refine ⟨k + 1, acc ++ [bat s k], rfl, by omega, by simp; omega, ?_, ?_, ?_, ?_, ?_, HT⟩
          · repeat (first | (with_reducible assumption) | ((with_reducible refine Rdr.moveTo ?_ ?_); rotate_left; (focus go_num)) | (with_reducible exact RdrAny.of (by assumption)) | ((with_reducible refine RdrAny.other ?_ ?_ ?_ _); rotate_left; (focus (first | omega | (simp; omega) | simp)); (focus (first | omega | (simp; omega) | simp))) | (with_reducible refine RdrAny.move ?_ _) | (with_reducible refine RdrAny.alloc ?_ _) | ((with_reducible refine Rdr.other ?_ ?_ ?_ _); rotate_left; (focus (first | omega | (simp; omega) | simp)); (focus (first | omega | (simp; omega) | simp))) | (with_reducible refine Rdr.alloc ?_ _) | (with_reducible refine Rdr.drewN ?_ _) | (with_reducible refine Rdr.drew ?_))
          · apply Blk.as
            repeat (first | (with_reducible assumption) | ((with_reducible apply Blk.newAt); (focus (simp; done))) | (with_reducible apply Blk.set) | ((with_reducible apply Blk.other); (case hp => first | omega | (simp; omega) | simp)) | (with_reducible apply Blk.alloc) | (with_reducible apply Blk.drewN) | (with_reducible apply Blk.drew))
            rfl
          · apply Blk.as
            repeat (first | (with_reducible assumption) | ((with_reducible apply Blk.newAt); (focus (simp; done))) | (with_reducible apply Blk.set) | ((with_reducible apply Blk.other); (case hp => first | omega | (simp; omega) | simp)) | (with_reducible apply Blk.alloc) | (with_reducible apply Blk.drewN) | (with_reducible apply Blk.drew))
            rfl
          · repeat (first | (with_reducible assumption) | ((with_reducible refine Bld.other ?_ ?_ _); rotate_left; (focus (first | omega | (simp; omega) | simp))) | (with_reducible refine Bld.drew ?_))
          · repeat (first | (with_reducible assumption) | (with_reducible exact Kept.refl _ _) | ((with_reducible refine Kept.setCell ?_ ?_ _); rotate_left; (focus (first | exact fun _ => rfl | exact fun h => absurd h (by first | omega | (simp; omega) | simp)))) | (with_reducible refine Kept.alloc ?_ _) | (with_reducible refine Kept.drewN ?_ _) | (with_reducible refine Kept.drew ?_))
    · have HT := Lib.hid ((deadAt_end s k acc (by omega)).symm.trans htg.out)
      refine wp_region_quiet_below (by kernel_rfl) (by kernel_rfl) ?_
      repeat (go_big_quiet_step ((go_at_call 107; exact Calls.regrown_of (bByte_high s k _ hs (by omega)))))
      refine wpQuiet_nil ?_
      intro w2 hw'
      have hb : Below wr.heap.size wr w2 := below_of_regrown hw'
      clear hw'
      have hR2 := hR.below hb
      have hB12 := hB1.below hb
      have hB22 := hB2.below hb
      have hK2 := hK.andBelow hb
      clear hR hB1 hB2 hL hK hb g0 g1 g2
      have l1 := hB22.lt
      have l2 := hB12.lt
      have l3 := hR2.here.lt
      have hge := hK2.cell hev (fun e => hgr e)
      have tc0 := hB12.cell 0 rfl
      have tc1 := hB12.cell 1 rfl
      have tc2 := hB12.cell 2 rfl
      have tc3 := hB12.cell 3 rfl
      have tc4 := hB12.cell 4 rfl
      have tf0 := hB12.free 0
      have tf1 := hB12.free 1
      have tf2 := hB12.free 2
      have tf3 := hB12.free 3
      have tf4 := hB12.free 4
      have uc0 := hB22.cell 0 rfl
      have uc1 := hB22.cell 1 rfl
      have uc2 := hB22.cell 2 rfl
      have uc3 := hB22.cell 3 rfl
      have uc4 := hB22.cell 4 rfl
      have uf0 := hB22.free 0
      have uf1 := hB22.free 1
      have uf2 := hB22.free 2
      have uf3 := hB22.free 3
      have uf4 := hB22.free 4
      go_wp2_with (go_at_call 110; refine (xFault_any _ _ _ _).mono ?_; rintro e w6 ⟨rfl, rfl⟩)
      (try simp only [Exit.inBlock, Exit.then])
      refine bodyPost_ret (results_blk (p := 4) (u := 5) (g := w.heap.size + 1) (cs := [.int .i64 0, .int .i64 0, .int .i64 0, .string ⟨#[]⟩, .bool false]) rfl _ _ _ rfl ?_ Tryz.underlying107 rfl (by kernel_rfl)) rfl (hbad.out HT.out.symm w2.heap.size _ ?_ ?_)
      · apply Blk.as
        repeat (first | (with_reducible assumption) | ((with_reducible apply Blk.newAt); (focus (simp; done))) | (with_reducible apply Blk.set) | ((with_reducible apply Blk.other); (case hp => first | omega | (simp; omega) | simp)) | (with_reducible apply Blk.alloc) | (with_reducible apply Blk.drewN) | (with_reducible apply Blk.drew))
        rfl
      · apply Blk.as
        repeat (first | (with_reducible assumption) | ((with_reducible apply Blk.newAt); (focus (simp; done))) | (with_reducible apply Blk.set) | ((with_reducible apply Blk.other); (case hp => first | omega | (simp; omega) | simp)) | (with_reducible apply Blk.alloc) | (with_reducible apply Blk.drewN) | (with_reducible apply Blk.drew))
        rfl
      · repeat (first | (with_reducible assumption) | (with_reducible exact Kept.refl _ _) | ((with_reducible refine Kept.setCell ?_ ?_ _); rotate_left; (focus (first | exact fun _ => rfl | exact fun h => absurd h (by first | omega | (simp; omega) | simp)))) | (with_reducible refine Kept.alloc ?_ _) | (with_reducible refine Kept.drewN ?_ _) | (with_reducible refine Kept.drew ?_))

end Go.Proofs.YtepebnblbheegaaGreatDoor

/- Dialect B's reader: a token. -/
namespace Go.Proofs.YtepebnblbheegaaGreatDoor
open Go Go.RowKit

/-- The errors of package api by their numbers, and the variables that hold them. -/
def errVars : List (Nat × Nat) := [(101, 5), (102, 0), (103, 7), (104, 10), (105, 11), (106, 8), (107, 6), (108, 3), (109, 2), (110, 4), (111, 1), (112, 12), (113, 13), (114, 14), (115, 15), (116, 16), (117, 17)]

/-- The variables hold pointers to errors of their own. -/
def Env (w : World) (sent : Nat → Addr) : Prop := ∀ c g, (c, g) ∈ errVars → w.cell? ⟨g, 0, none⟩ = some (.iface 303 (.pointer (some (sent c))))

theorem Env.below {w w' : World} {sent : Nat → Addr} (h : Env w sent) (hb : Below w.heap.size w w') : Env w' sent := fun c g hg => bSome hb (h c g hg)
theorem Env.lt {w : World} {sent : Nat → Addr} (h : Env w sent) {c g : Nat} (hg : (c, g) ∈ errVars) : g < w.heap.size := block_lt_of_cell (h c g hg)

/-- An error in a block: one of api's, with a place around it. -/
def ErrAt (w : World) (b : Nat) (sent : Nat → Addr) (code : Nat) (p : Int) : Prop := Blk w b [.int .i64 p, .iface 303 (.pointer (some (sent code)))]

theorem bestOp_step (l : List UInt8) (j : Nat) (b : List UInt8) (kd : Nat) (o : List UInt8) (ho : opsB[j]? = some o) :
    bestOp l (opsB.drop j) j b kd = if b.length < o.length ∧ Lib.hasPrefix l o = true then bestOp l (opsB.drop (j + 1)) (j + 1) o j else bestOp l (opsB.drop (j + 1)) (j + 1) b kd := by
  obtain ⟨h, rfl⟩ := List.getElem?_eq_some_iff.1 ho
  rw [List.drop_eq_getElem_cons h, bestOp]

theorem bestOp_end (l : List UInt8) (b : List UInt8) (kd : Nat) : bestOp l (opsB.drop 18) 18 b kd = (b, kd) := rfl

/-- What the loop of a word has come to. -/
theorem word_end (s : ByteArray) (i k : Nat) (hik : i ≤ k) (hk : k ≤ s.size) (hall : ((s.data.toList.drop i).take (k - i)).all (fun c => !endsB c) = true) (hend : k < s.size → endsB (bat s k) = true) :
    (s.data.toList.drop i).takeWhile (fun c => !endsB c) = subs s.data.toList i k := by
  have e : subs s.data.toList i k = (s.data.toList.drop i).take (k - i) := by
    unfold subs
    rw [show ((i : Nat) : Int).toNat = i from rfl, show ((k : Nat) : Int).toNat = k from rfl, List.drop_take]
  rw [e]
  apply takeWhile_of _ _ _ hall
  intro c m hcm
  rw [List.drop_drop, show i + (k - i) = k from by omega] at hcm
  by_cases hlt : k < s.size
  · rw [drop_bat s k hlt] at hcm
    injection hcm with h1 _
    rw [← h1, hend hlt]
    rfl
  · rw [List.drop_eq_nil_of_le (by rw [size_eq]; omega)] at hcm
    cases hcm

theorem word_step (s : ByteArray) (i k : Nat) (hik : i ≤ k) (hk : k < s.size) (hall : ((s.data.toList.drop i).take (k - i)).all (fun c => !endsB c) = true) (hg : endsB (bat s k) = false) : ((s.data.toList.drop i).take (k + 1 - i)).all (fun c => !endsB c) = true := by
  rw [show k + 1 - i = (k - i) + 1 from by omega]
  have h1 : k - i < (s.data.toList.drop i).length := by rw [List.length_drop, size_eq]; omega
  rw [List.take_succ_eq_append_getElem h1, List.all_append, hall, Bool.true_and, List.all_cons, List.all_nil, Bool.and_true]
  have h2 : k < s.data.size := hk
  have e : (s.data.toList.drop i)[k - i] = bat s k := by
    simp [bat, List.getD, Array.getElem?_eq_getElem h2, show i + (k - i) = k from by omega]
  rw [e, hg]
  rfl

theorem subs_length (s : ByteArray) (i k : Nat) (hik : i ≤ k) (hk : k ≤ s.size) : (subs s.data.toList i k).length = k - i := by
  unfold subs
  rw [show ((i : Nat) : Int).toNat = i from rfl, show ((k : Nat) : Int).toNat = k from rfl, List.length_drop, List.length_take, size_eq]
  omega

/-- A token's beginning, by its first byte. -/
theorem tokenB_cons (s : ByteArray) (i p : Nat) (h : i < s.size) (b : List UInt8) (kd : Nat) (hb : bestOp (s.data.toList.drop i) opsB 0 [] 0 = (b, kd)) :
    tokenB (s.data.toList.drop i) p =
      if b ≠ [] then .ok (⟨kd, p, 0, [], false⟩, b.length)
      else if (bat s i).toNat = 38 ∨ (bat s i).toNat = 96 then .error (107, p)
      else if (bat s i).toNat = 39 then match deadB (s.data.toList.drop (i + 1)) with
        | some (x, n) => .ok (⟨19, p, 0, x, false⟩, n + 1)
        | none => .error (103, p)
      else if (bat s i).toNat = 36 then match dollarB (s.data.toList.drop (i + 1)) with
        | some (k, n, x, z) => .ok (⟨k, p, n, x, false⟩, z + 1)
        | none => .error (106, p)
      else .ok (⟨18, p, 0, (s.data.toList.drop i).takeWhile (fun c => !endsB c), false⟩, ((s.data.toList.drop i).takeWhile (fun c => !endsB c)).length) := by
  have hd := drop_bat s i h
  rw [hd] at hb ⊢
  simp only [tokenB, hb]
  rfl

theorem tokenB_nil (s : ByteArray) (i p : Nat) (h : s.size ≤ i) : tokenB (s.data.toList.drop i) p = .ok (⟨0, p, 0, [], false⟩, 0) := by
  rw [List.drop_eq_nil_of_le (by rw [size_eq]; omega)]; rfl

theorem deadAt_some {l : List UInt8} {i n : Nat} {x : List UInt8} (h : deadAt l (i + 1) [] = some (x, n)) : ∃ m, deadB (l.drop (i + 1)) = some (x, m) ∧ n = i + (m + 1) := by
  unfold deadAt at h
  cases hd : deadB (l.drop (i + 1)) with
  | none => rw [hd] at h; cases h
  | some y =>
    rw [hd] at h
    simp only [Option.map_some, List.nil_append, Option.some.injEq, Prod.mk.injEq] at h
    refine ⟨y.2, ?_, by omega⟩
    rw [← h.1]
theorem deadAt_none {l : List UInt8} {i : Nat} (h : deadAt l (i + 1) [] = none) : deadB (l.drop (i + 1)) = none := by
  unfold deadAt at h
  cases hd : deadB (l.drop (i + 1)) with
  | none => rfl
  | some y => rw [hd] at h; cases h

theorem dollar_num (s : ByteArray) (i : Nat) (h : i + 1 < s.size) (h1 : 49 ≤ (bat s (i + 1)).toNat) (h2 : (bat s (i + 1)).toNat ≤ 57) : dollarB (s.data.toList.drop (i + 1)) = some (23, (bat s (i + 1)).toNat - 48, [], 1) := by
  rw [drop_bat s (i + 1) h]
  unfold dollarB
  rw [List.headD_cons]
  exact if_pos ⟨h1, h2⟩

theorem dollar_name (s : ByteArray) (i c0 kind pre : Nat) (hc0 : (i + 1 < s.size ∧ c0 = (bat s (i + 1)).toNat) ∨ (s.size ≤ i + 1 ∧ c0 = 0)) (hn : ¬ (49 ≤ c0 ∧ c0 ≤ 57))
    (hkind : kind = if c0 = 35 then 21 else if c0 = 34 then 22 else 20) (hpre : pre = if c0 = 35 ∨ c0 = 34 then 1 else 0) (x : List UInt8) (hx : x = starName (s.data.toList.drop (i + 1 + pre))) :
    dollarB (s.data.toList.drop (i + 1)) = if x = [42] ∨ nameB x = true then some (kind, 0, x, pre + x.length) else none := by
  have hd : ((s.data.toList.drop (i + 1)).headD 0).toNat = c0 := by
    rcases hc0 with ⟨h, rfl⟩ | ⟨h, rfl⟩
    · rw [drop_bat s (i + 1) h]; rfl
    · rw [List.drop_eq_nil_of_le (by rw [size_eq]; omega)]; rfl
  unfold dollarB
  rw [hd, if_neg hn, show dKind c0 = kind from hkind.symm, show dPre c0 = pre from hpre.symm, List.drop_drop, hx]

set_option maxHeartbeats 4000000 in
set_option maxRecDepth 100000 in
theorem xToken_any (r q : Nat) (s : ByteArray) (i : Nat) (w : World) (hs : s.size ≤ 1000000) (hi : i ≤ s.size) (hR : Rdr w r q s i) (sent : Nat → Addr) (hE : Env w sent) (hgr : ∀ c g, (c, g) ∈ errVars → g ≠ r)
    (R : Ending → World → Prop) (T : Except (Nat × Nat) (BTok × Nat)) (hT : Hid (tokenB (s.data.toList.drop i) i = T))
    (hgood : Hid (∀ t n w', T = .ok (t, n) → Rdr w' r q s (i + n) → Kept (At r) w w' → R (.returned (.tuple #[.agg t.cells.toArray, .nilIface])) w'))
    (hbad : Hid (∀ c p b w', T = .error (c, p) → ErrAt w' b sent c p → Kept (At r) w w' → R (.returned (.tuple #[.agg #[.int .i64 0, .int .i64 0, .int .i64 0, .string ⟨#[]⟩, .bool false], .iface 67 (.pointer (some ⟨b, 0, none⟩))])) w')) :
    Calls Tryz.prog 65 #[.pointer (some ⟨r, 0, none⟩)] w R := by
  have hr := hR.here.lt
  have hq := hR.src.lt
  go_enter Tryz.func65, Tryz.ntmps65
  have c1 := hR.c1
  go_upto_region 2 with fail
  refine wp_world (fun w1 => Rdr w1 r q s i ∧ Blk w1 w.heap.size [.int .i64 0, .int .i64 0, .int .i64 0, .string ⟨#[]⟩, .bool false] ∧
      Blk w1 (w.heap.size + 1) [.int .i64 0, .int .i64 i, .int .i64 0, .string ⟨#[]⟩, .bool false] ∧ Kept (At r) w w1)
    ⟨(hR.alloc _).alloc _, (Blk.newAt _ _ (by simp)).alloc _, Blk.newAt _ _ (by simp), ((Kept.refl (At r) w).alloc _).alloc _⟩ ?_
  intro w1 ⟨hR1, hB1, hB2, hK1⟩
  clear c1
  have g0 := cell_regrown hR1.c0
  have g1 := cell_regrown hR1.c1
  have g2 := cell_regrown hR1.cs
  by_cases hlt : i < s.size
  · refine wp_region_quiet_below (by kernel_rfl) (by kernel_rfl) ?_
    repeat (go_big_quiet_step ((go_at_call 107; exact Calls.regrown_of (bByte_in s i _ hs hlt))))
    refine wpQuiet_nil ?_
    intro w2 hw'
    have hb : Below w1.heap.size w1 w2 := below_of_regrown hw'
    clear hw'
    have hR2 := hR1.below hb
    have hB12 := hB1.below hb
    have hB22 := hB2.below hb
    have hK2 := hK1.andBelow hb
    clear hR1 hB1 hB2 hK1 hb g0 g1 g2
    go_wp2_with (go_at_call 108; refine (xOps_any _).mono ?_; rintro e w3 ⟨rfl, hO, hb3⟩)
    have hR3 := hR2.below hb3
    have hB13 := hB12.below hb3
    have hB23 := hB22.below hb3
    have hK3 := hK2.andBelow hb3
    have hO1 : w.heap.size + 1 < w2.heap.size := hB22.lt
    generalize hob : w2.heap.size = ob at *
    clear hR2 hB12 hB22 hK2 hb3 hob
    go_loopg [7, 35] 18 (fun n sb sj wr => ∃ (j : Nat) (b : List UInt8) (kd : Nat), n = 18 - j ∧ j ≤ 18 ∧ sb = .string (bs b) ∧ sj = .int .i64 j ∧ b.length ≤ 3 ∧ Rdr wr r q s i ∧ Blk wr w.heap.size [.int .i64 0, .int .i64 0, .int .i64 0, .string ⟨#[]⟩, .bool false] ∧
        Blk wr (w.heap.size + 1) [.int .i64 kd, .int .i64 i, .int .i64 0, .string ⟨#[]⟩, .bool false] ∧ Blk wr ob (opsB.map fun l => .string (bs l)) ∧ Kept (At r) w wr ∧ Hid (bestOp (s.data.toList.drop i) opsB 0 [] 0 = bestOp (s.data.toList.drop i) (opsB.drop j) j b kd) ∧ Hid (b = [] → kd = 0))
    case atStart => exact ⟨0, [], 0, rfl, by omega, rfl, rfl, by simp, hR3, hB13, hB23, hO, hK3, Lib.hid rfl, Lib.hid fun _ => rfl⟩
    case round =>
      obtain ⟨j, b, kd, rfl, hj, rfl, rfl, hbl, hR, hB1, hB2, hO, hK, hbest, hkd⟩ := hrel
      clear hR3 hB13 hB23 hK3
      by_cases hj18 : j < 18
      · obtain ⟨o, ho⟩ : ∃ o, opsB[j]? = some o := ⟨opsB[j]'(by exact hj18), List.getElem?_eq_getElem (by exact hj18)⟩
        have hoc : wr.cell? ⟨ob, j, none⟩ = some (.string (bs o)) := hO.cell j (by rw [List.getElem?_map, ho]; rfl)
        have hol : o.length ≤ 3 := by
          have h : ∀ o ∈ opsB, o.length ≤ 3 := by decide
          exact h o (List.mem_of_getElem? ho)
        have hst := Lib.hid (bestOp_step (s.data.toList.drop i) j b kd o ho)
        have hos := Lib.hid (bs_size o)
        have hbs := Lib.hid (bs_size b)
        clear ho
        have g0 := cell_regrown hR.c0
        have g1 := cell_regrown hR.c1
        have g2 := cell_regrown hR.cs
        by_cases hlen : b.length < o.length
        · have d1 : decide (((bs b).size : Int) < ((bs o).size : Int)) = true := by rw [hos.out, hbs.out, decide_eq_true_eq]; omega
          have d2 : decide ((bs b).size < (bs o).size) = true := by rw [hos.out, hbs.out, decide_eq_true_eq]; omega
          have HB := Lib.hid (bHas_in s (bs o) i)
          rw [bs_list] at HB
          cases hpf : Lib.hasPrefix (s.data.toList.drop i) o with
          | true =>
            rw [hpf] at HB
            have HN := Lib.hid (hbest.out.trans (hst.out.trans (if_pos ⟨hlen, hpf⟩)))
            have HL : Hid (o = [] → j = 0) := Lib.hid fun e => by rw [e] at hlen; simp at hlen
            clear hpf hst hbest hlen
            go_wp2_with fail
            refine wp_region_quiet_below (by kernel_rfl) (by kernel_rfl) ?_
            repeat (go_big_quiet_step ((go_at_call 109; exact Calls.regrown_of (HB.out _ hs (by omega)))))
            refine wpQuiet_nil ?_
            intro w4 hw'
            have hb : Below wr.heap.size wr w4 := below_of_regrown hw'
            clear hw'
            have hR4 := hR.below hb
            have hB14 := hB1.below hb
            have hB24 := hB2.below hb
            have hO4 := hO.below hb
            have hK4 := hK.andBelow hb
            clear hR hB1 hB2 hO hK hb g0 g1 g2 HB hoc
            have tc0 := hB24.cell 0 rfl
            have tf0 := hB24.free 0
            go_wp2_with fail
            go_roundg (18 - (j + 1))
            case measure => omega
            case rel =>
              refine ⟨j + 1, o, j, rfl, by omega, rfl, by go_num, hol, ?_, ?_, ?_, ?_, ?_, HN, HL⟩
              · repeat (first | (with_reducible assumption) | ((with_reducible refine Rdr.moveTo ?_ ?_); rotate_left; (focus go_num)) | (with_reducible exact RdrAny.of (by assumption)) | ((with_reducible refine RdrAny.other ?_ ?_ ?_ _); rotate_left; (focus (first | omega | (simp; omega) | simp)); (focus (first | omega | (simp; omega) | simp))) | (with_reducible refine RdrAny.move ?_ _) | (with_reducible refine RdrAny.alloc ?_ _) | ((with_reducible refine Rdr.other ?_ ?_ ?_ _); rotate_left; (focus (first | omega | (simp; omega) | simp)); (focus (first | omega | (simp; omega) | simp))) | (with_reducible refine Rdr.alloc ?_ _) | (with_reducible refine Rdr.drewN ?_ _) | (with_reducible refine Rdr.drew ?_))
              · apply Blk.as
                repeat (first | (with_reducible assumption) | ((with_reducible apply Blk.newAt); (focus (simp; done))) | (with_reducible apply Blk.set) | ((with_reducible apply Blk.other); (case hp => first | omega | (simp; omega) | simp)) | (with_reducible apply Blk.alloc) | (with_reducible apply Blk.drewN) | (with_reducible apply Blk.drew))
                rfl
              · apply Blk.as
                repeat (first | (with_reducible assumption) | ((with_reducible apply Blk.newAt); (focus (simp; done))) | (with_reducible apply Blk.set) | ((with_reducible apply Blk.other); (case hp => first | omega | (simp; omega) | simp)) | (with_reducible apply Blk.alloc) | (with_reducible apply Blk.drewN) | (with_reducible apply Blk.drew))
                rfl
              · apply Blk.as
                repeat (first | (with_reducible assumption) | ((with_reducible apply Blk.newAt); (focus (simp; done))) | (with_reducible apply Blk.set) | ((with_reducible apply Blk.other); (case hp => first | omega | (simp; omega) | simp)) | (with_reducible apply Blk.alloc) | (with_reducible apply Blk.drewN) | (with_reducible apply Blk.drew))
                rfl
              · repeat (first | (with_reducible assumption) | (with_reducible exact Kept.refl _ _) | ((with_reducible refine Kept.setCell ?_ ?_ _); rotate_left; (focus (first | exact fun _ => rfl | exact fun h => absurd h (by first | omega | (simp; omega) | simp)))) | (with_reducible refine Kept.alloc ?_ _) | (with_reducible refine Kept.drewN ?_ _) | (with_reducible refine Kept.drew ?_))
          | false =>
            rw [hpf] at HB
            have HN := Lib.hid (hbest.out.trans (hst.out.trans (if_neg (fun h => by rw [hpf] at h; exact absurd h.2 (by decide)))))
            clear hpf hst hbest hlen
            go_wp2_with fail
            refine wp_region_quiet_below (by kernel_rfl) (by kernel_rfl) ?_
            repeat (go_big_quiet_step ((go_at_call 109; exact Calls.regrown_of (HB.out _ hs (by omega)))))
            refine wpQuiet_nil ?_
            intro w4 hw'
            have hb : Below wr.heap.size wr w4 := below_of_regrown hw'
            clear hw'
            have hR4 := hR.below hb
            have hB14 := hB1.below hb
            have hB24 := hB2.below hb
            have hO4 := hO.below hb
            have hK4 := hK.andBelow hb
            clear hR hB1 hB2 hO hK hb g0 g1 g2 HB hoc
            go_wp2_with fail
            go_roundg (18 - (j + 1))
            case measure => omega
            case rel => exact ⟨j + 1, b, kd, rfl, by omega, rfl, by go_num, hbl, hR4, hB14, hB24, hO4, hK4, HN, hkd⟩
        · have d1 : decide (((bs b).size : Int) < ((bs o).size : Int)) = false := by rw [hos.out, hbs.out, decide_eq_false_iff_not]; omega
          have d2 : decide ((bs b).size < (bs o).size) = false := by rw [hos.out, hbs.out, decide_eq_false_iff_not]; omega
          have HN := Lib.hid (hbest.out.trans (hst.out.trans (if_neg (fun h => hlen h.1))))
          clear hst hbest hlen
          go_wp2_with fail
          refine wp_region_quiet_below (by kernel_rfl) (by kernel_rfl) ?_
          repeat (go_big_quiet_step (fail))
          refine wpQuiet_nil ?_
          intro w4 hw'
          have hb : Below wr.heap.size wr w4 := below_of_regrown hw'
          clear hw'
          have hR4 := hR.below hb
          have hB14 := hB1.below hb
          have hB24 := hB2.below hb
          have hO4 := hO.below hb
          have hK4 := hK.andBelow hb
          clear hR hB1 hB2 hO hK hb g0 g1 g2 hoc
          go_wp2_with fail
          go_roundg (18 - (j + 1))
          case measure => omega
          case rel => exact ⟨j + 1, b, kd, rfl, by omega, rfl, by go_num, hbl, hR4, hB14, hB24, hO4, hK4, HN, hkd⟩
      · obtain rfl : j = 18 := by omega
        have HB := Lib.hid (hbest.out.trans (bestOp_end _ b kd))
        clear hbest hO hO1
        have HT0 := Lib.hid ((tokenB_cons s i i hlt b kd HB.out).symm.trans hT.out)
        by_cases hbe : b = []
        · have hk0 := hkd.out hbe
          subst hbe hk0
          have HT1 := Lib.hid ((if_neg (by simp)).symm.trans HT0.out)
          have e1 : (bs []).toList = [] := by rw [Lib.toList_data, bs_list]
          have e2 : (bs []).toList.isEmpty = true := by rw [e1]; rfl
          clear HT0 HB hkd hbl
          by_cases h38 : (bat s i).toNat = 38 ∨ (bat s i).toNat = 96
          · have HT := Lib.hid ((if_pos h38).symm.trans HT1.out)
            have hge := hK.cell (hE 107 6 (by decide)) (fun e => hgr 107 6 (by decide) e)
            have hne := hgr 107 6 (by decide)
            have l1 := hB1.lt
            have l2 := hB2.lt
            have l3 := hR.here.lt
            have l4 := block_lt_of_cell hge
            have l5 : 6 < w.heap.size := block_lt_of_cell (hE 107 6 (by decide))
            have n1 : ¬ w.heap.size = r := by omega
            have n2 : ¬ r = w.heap.size := by omega
            have n3 : ¬ w.heap.size = 6 := by omega
            have n4 : ¬ 6 = w.heap.size := by omega
            have c1 := hR.c1
            have HB38 := Lib.hid h38
            clear HT1
            have tc0 := hB1.cell 0 rfl
            have tc1 := hB1.cell 1 rfl
            have tc2 := hB1.cell 2 rfl
            have tc3 := hB1.cell 3 rfl
            have tc4 := hB1.cell 4 rfl
            have tf0 := hB1.free 0
            have tf1 := hB1.free 1
            have tf2 := hB1.free 2
            have tf3 := hB1.free 3
            have tf4 := hB1.free 4
            by_cases h38b : (bat s i).toNat = 38
            · have d1 : (((bat s i).toNat : Int) == 38) = true := by rw [beq_iff_eq]; omega
              clear h38 h38b
              go_wp2_with fail
              go_region_held3 (fun w' => w'.cell? ⟨r, 1, none⟩ = some (.int .i64 (i : Int)) ∧ w'.cell? ⟨6, 0, none⟩ = some (.iface 303 (.pointer (some (sent 107))))) (first | go_keep)
                (first
                  | (go_at_call 110; refine (xFault_any _ _ _ _).mono ?_; rintro e w5 ⟨rfl, rfl⟩))
              go_wp2_with fail
              (try simp only [Exit.inBlock, Exit.then])
              refine bodyPost_ret (results_blk (p := 2) (u := 3) (g := w.heap.size) (cs := [.int .i64 0, .int .i64 0, .int .i64 0, .string ⟨#[]⟩, .bool false]) rfl _ _ _ rfl ?_ Tryz.underlying107 rfl (by kernel_rfl)) rfl (hbad.out _ _ wr.heap.size _ HT.out.symm ?_ ?_)
              · apply Blk.as
                repeat (first | (with_reducible assumption) | ((with_reducible apply Blk.newAt); (focus (simp; done))) | (with_reducible apply Blk.set) | ((with_reducible apply Blk.other); (case hp => first | omega | (simp; omega) | simp)) | (with_reducible apply Blk.alloc) | (with_reducible apply Blk.drewN) | (with_reducible apply Blk.drew))
                rfl
              · unfold ErrAt
                apply Blk.as
                repeat (first | (with_reducible assumption) | ((with_reducible apply Blk.newAt); (focus (simp; done))) | (with_reducible apply Blk.set) | ((with_reducible apply Blk.other); (case hp => first | omega | (simp; omega) | simp)) | (with_reducible apply Blk.alloc) | (with_reducible apply Blk.drewN) | (with_reducible apply Blk.drew))
                rfl
              · repeat (first | (with_reducible assumption) | (with_reducible exact Kept.refl _ _) | ((with_reducible refine Kept.setCell ?_ ?_ _); rotate_left; (focus (first | exact fun _ => rfl | exact fun h => absurd h (by first | omega | (simp; omega) | simp)))) | (with_reducible refine Kept.alloc ?_ _) | (with_reducible refine Kept.drewN ?_ _) | (with_reducible refine Kept.drew ?_))
            · have d1 : (((bat s i).toNat : Int) == 38) = false := by rw [beq_eq_false_iff_ne]; omega
              have d2 : (((bat s i).toNat : Int) == 96) = true := by rw [beq_iff_eq]; omega
              clear h38 h38b
              go_wp2_with fail
              go_region_held3 (fun w' => w'.cell? ⟨r, 1, none⟩ = some (.int .i64 (i : Int)) ∧ w'.cell? ⟨6, 0, none⟩ = some (.iface 303 (.pointer (some (sent 107))))) (first | go_keep)
                (first
                  | (go_at_call 110; refine (xFault_any _ _ _ _).mono ?_; rintro e w5 ⟨rfl, rfl⟩))
              go_wp2_with fail
              (try simp only [Exit.inBlock, Exit.then])
              refine bodyPost_ret (results_blk (p := 2) (u := 3) (g := w.heap.size) (cs := [.int .i64 0, .int .i64 0, .int .i64 0, .string ⟨#[]⟩, .bool false]) rfl _ _ _ rfl ?_ Tryz.underlying107 rfl (by kernel_rfl)) rfl (hbad.out _ _ wr.heap.size _ HT.out.symm ?_ ?_)
              · apply Blk.as
                repeat (first | (with_reducible assumption) | ((with_reducible apply Blk.newAt); (focus (simp; done))) | (with_reducible apply Blk.set) | ((with_reducible apply Blk.other); (case hp => first | omega | (simp; omega) | simp)) | (with_reducible apply Blk.alloc) | (with_reducible apply Blk.drewN) | (with_reducible apply Blk.drew))
                rfl
              · unfold ErrAt
                apply Blk.as
                repeat (first | (with_reducible assumption) | ((with_reducible apply Blk.newAt); (focus (simp; done))) | (with_reducible apply Blk.set) | ((with_reducible apply Blk.other); (case hp => first | omega | (simp; omega) | simp)) | (with_reducible apply Blk.alloc) | (with_reducible apply Blk.drewN) | (with_reducible apply Blk.drew))
                rfl
              · repeat (first | (with_reducible assumption) | (with_reducible exact Kept.refl _ _) | ((with_reducible refine Kept.setCell ?_ ?_ _); rotate_left; (focus (first | exact fun _ => rfl | exact fun h => absurd h (by first | omega | (simp; omega) | simp)))) | (with_reducible refine Kept.alloc ?_ _) | (with_reducible refine Kept.drewN ?_ _) | (with_reducible refine Kept.drew ?_))
          · have HT2 := Lib.hid ((if_neg h38).symm.trans HT1.out)
            have d1 : (((bat s i).toNat : Int) == 38) = false := by rw [beq_eq_false_iff_ne]; omega
            have d2 : (((bat s i).toNat : Int) == 96) = false := by rw [beq_eq_false_iff_ne]; omega
            clear HT1 h38
            by_cases h39 : (bat s i).toNat = 39
            · have HT := Lib.hid ((if_pos h39).symm.trans HT2.out)
              have d3 : (((bat s i).toNat : Int) == 39) = true := by rw [beq_iff_eq]; omega
              clear HT2 h39
              have l1 := hB1.lt
              have l2 := hB2.lt
              have l3 := hR.here.lt
              have tc0 := hB1.cell 0 rfl
              have tc1 := hB1.cell 1 rfl
              have tc2 := hB1.cell 2 rfl
              have tc3 := hB1.cell 3 rfl
              have tc4 := hB1.cell 4 rfl
              have tf0 := hB1.free 0
              have tf1 := hB1.free 1
              have tf2 := hB1.free 2
              have tf3 := hB1.free 3
              have tf4 := hB1.free 4
              have uc0 := hB2.cell 0 rfl
              have uc1 := hB2.cell 1 rfl
              have uc2 := hB2.cell 2 rfl
              have uc3 := hB2.cell 3 rfl
              have uc4 := hB2.cell 4 rfl
              have uf0 := hB2.free 0
              have uf1 := hB2.free 1
              have uf2 := hB2.free 2
              have uf3 := hB2.free 3
              have uf4 := hB2.free 4
              go_wp2_with fail
              refine xDead_any r q s i i wr hs hlt hR _ _ (hK.cell (hE 103 7 (by decide)) (fun e => hgr 103 7 (by decide) e)) (hgr 103 7 (by decide)) _ _ (Lib.hid rfl) (Lib.hid fun x n w5 hx hR5 hK5 => ?_) (Lib.hid fun hx b5 w5 hE5 hK5 => ?_)
              · obtain ⟨m, hm, hn⟩ := deadAt_some hx
                have HG := Lib.hid (hgood.out ⟨19, i, 0, x, false⟩ (m + 1) · (by rw [← HT.out, hm]))
                have HN := Lib.hid hn
                clear hx hm hn
                have hB5 := hB1.kept hK5 (fun e => Nat.ne_of_gt hr e)
                have hK6 := hK.same hK5
                clear tc0 tc1 tc2 tc3 tc4 tf0 tf1 tf2 tf3 tf4 uc0 uc1 uc2 uc3 uc4 uf0 uf1 uf2 uf3 uf4
                have tc0 := hB5.cell 0 rfl
                have tc1 := hB5.cell 1 rfl
                have tc2 := hB5.cell 2 rfl
                have tc3 := hB5.cell 3 rfl
                have tc4 := hB5.cell 4 rfl
                have tf0 := hB5.free 0
                have tf1 := hB5.free 1
                have tf2 := hB5.free 2
                have tf3 := hB5.free 3
                have tf4 := hB5.free 4
                try simp only []
                go_wp2_with fail
                (try simp only [Exit.inBlock, Exit.then])
                refine bodyPost_ret (results_blk (p := 2) (u := 3) (g := w.heap.size) (cs := [.int .i64 19, .int .i64 i, .int .i64 0, .string (bs x), .bool false]) rfl _ _ _ rfl ?_ Tryz.underlying107 rfl (by kernel_rfl)) rfl (HG.out _ ?_ ?_)
                · apply Blk.as
                  repeat (first | (with_reducible assumption) | ((with_reducible apply Blk.newAt); (focus (simp; done))) | (with_reducible apply Blk.set) | ((with_reducible apply Blk.other); (case hp => first | omega | (simp; omega) | simp)) | (with_reducible apply Blk.alloc) | (with_reducible apply Blk.drewN) | (with_reducible apply Blk.drew))
                  rfl
                · rw [← HN.out]
                  repeat (first | (with_reducible assumption) | ((with_reducible refine Rdr.moveTo ?_ ?_); rotate_left; (focus go_num)) | (with_reducible exact RdrAny.of (by assumption)) | ((with_reducible refine RdrAny.other ?_ ?_ ?_ _); rotate_left; (focus (first | omega | (simp; omega) | simp)); (focus (first | omega | (simp; omega) | simp))) | (with_reducible refine RdrAny.move ?_ _) | (with_reducible refine RdrAny.alloc ?_ _) | ((with_reducible refine Rdr.other ?_ ?_ ?_ _); rotate_left; (focus (first | omega | (simp; omega) | simp)); (focus (first | omega | (simp; omega) | simp))) | (with_reducible refine Rdr.alloc ?_ _) | (with_reducible refine Rdr.drewN ?_ _) | (with_reducible refine Rdr.drew ?_))
                · repeat (first | (with_reducible assumption) | (with_reducible exact Kept.refl _ _) | ((with_reducible refine Kept.setCell ?_ ?_ _); rotate_left; (focus (first | exact fun _ => rfl | exact fun h => absurd h (by first | omega | (simp; omega) | simp)))) | (with_reducible refine Kept.alloc ?_ _) | (with_reducible refine Kept.drewN ?_ _) | (with_reducible refine Kept.drew ?_))
              · have hm := deadAt_none hx
                have HG := Lib.hid (hbad.out 103 i b5 · (by rw [← HT.out, hm]))
                clear hx hm
                have hB5 := hB1.kept hK5 (fun e => Nat.ne_of_gt hr e)
                have hK6 := hK.same hK5
                clear tc0 tc1 tc2 tc3 tc4 tf0 tf1 tf2 tf3 tf4 uc0 uc1 uc2 uc3 uc4 uf0 uf1 uf2 uf3 uf4
                have tc0 := hB5.cell 0 rfl
                have tc1 := hB5.cell 1 rfl
                have tc2 := hB5.cell 2 rfl
                have tc3 := hB5.cell 3 rfl
                have tc4 := hB5.cell 4 rfl
                have tf0 := hB5.free 0
                have tf1 := hB5.free 1
                have tf2 := hB5.free 2
                have tf3 := hB5.free 3
                have tf4 := hB5.free 4
                try simp only []
                go_wp2_with fail
                (try simp only [Exit.inBlock, Exit.then])
                have nb := Blk.apart hE5 hB5 (by simp)
                refine bodyPost_ret (results_blk (p := 2) (u := 3) (g := w.heap.size) (cs := [.int .i64 0, .int .i64 0, .int .i64 0, .string ⟨#[]⟩, .bool false]) rfl _ _ _ rfl ?_ Tryz.underlying107 rfl (by kernel_rfl)) rfl (HG.out _ ?_ ?_)
                · apply Blk.as
                  repeat (first | (with_reducible assumption) | ((with_reducible apply Blk.newAt); (focus (simp; done))) | (with_reducible apply Blk.set) | ((with_reducible apply Blk.other); (case hp => first | omega | (simp; omega) | simp)) | (with_reducible apply Blk.alloc) | (with_reducible apply Blk.drewN) | (with_reducible apply Blk.drew))
                  rfl
                · unfold ErrAt
                  apply Blk.as
                  repeat (first | (with_reducible assumption) | ((with_reducible apply Blk.newAt); (focus (simp; done))) | (with_reducible apply Blk.set) | ((with_reducible apply Blk.other); (case hp => first | omega | (simp; omega) | simp)) | (with_reducible apply Blk.alloc) | (with_reducible apply Blk.drewN) | (with_reducible apply Blk.drew))
                  rfl
                · repeat (first | (with_reducible assumption) | (with_reducible exact Kept.refl _ _) | ((with_reducible refine Kept.setCell ?_ ?_ _); rotate_left; (focus (first | exact fun _ => rfl | exact fun h => absurd h (by first | omega | (simp; omega) | simp)))) | (with_reducible refine Kept.alloc ?_ _) | (with_reducible refine Kept.drewN ?_ _) | (with_reducible refine Kept.drew ?_))
            · have HT3 := Lib.hid ((if_neg h39).symm.trans HT2.out)
              have d3 : (((bat s i).toNat : Int) == 39) = false := by rw [beq_eq_false_iff_ne]; omega
              clear HT2 h39
              by_cases h36 : (bat s i).toNat = 36
              · have HT := Lib.hid ((if_pos h36).symm.trans HT3.out)
                have d4 : (((bat s i).toNat : Int) == 36) = true := by rw [beq_iff_eq]; omega
                clear HT3 h36
                have l1 := hB1.lt
                have l2 := hB2.lt
                have l3 := hR.here.lt
                have tc0 := hB1.cell 0 rfl
                have tc1 := hB1.cell 1 rfl
                have tc2 := hB1.cell 2 rfl
                have tc3 := hB1.cell 3 rfl
                have tc4 := hB1.cell 4 rfl
                have tf0 := hB1.free 0
                have tf1 := hB1.free 1
                have tf2 := hB1.free 2
                have tf3 := hB1.free 3
                have tf4 := hB1.free 4
                have uc0 := hB2.cell 0 rfl
                have uc1 := hB2.cell 1 rfl
                have uc2 := hB2.cell 2 rfl
                have uc3 := hB2.cell 3 rfl
                have uc4 := hB2.cell 4 rfl
                have uf0 := hB2.free 0
                have uf1 := hB2.free 1
                have uf2 := hB2.free 2
                have uf3 := hB2.free 3
                have uf4 := hB2.free 4
                by_cases hnum : i + 1 < s.size ∧ 49 ≤ (bat s (i + 1)).toNat ∧ (bat s (i + 1)).toNat ≤ 57
                · obtain ⟨hn0, hn1, hn2⟩ := hnum
                  have HG := Lib.hid (hgood.out ⟨23, i, (bat s (i + 1)).toNat - 48, [], false⟩ 2 · (by rw [← HT.out, dollar_num s i hn0 hn1 hn2]))
                  go_wp2_with fail
                  refine (xDollar_num r q s i i wr hs hn0 hR hn1 hn2).mono ?_
                  rintro e w5 ⟨rfl, hR5, hK5⟩
                  clear hn1 hn2
                  have hB5 := hB1.kept hK5 (fun e => Nat.ne_of_gt hr e)
                  have hK6 := hK.same hK5
                  clear tc0 tc1 tc2 tc3 tc4 tf0 tf1 tf2 tf3 tf4 uc0 uc1 uc2 uc3 uc4 uf0 uf1 uf2 uf3 uf4
                  have tc0 := hB5.cell 0 rfl
                  have tc1 := hB5.cell 1 rfl
                  have tc2 := hB5.cell 2 rfl
                  have tc3 := hB5.cell 3 rfl
                  have tc4 := hB5.cell 4 rfl
                  have tf0 := hB5.free 0
                  have tf1 := hB5.free 1
                  have tf2 := hB5.free 2
                  have tf3 := hB5.free 3
                  have tf4 := hB5.free 4
                  try simp only []
                  go_wp2_with fail
                  (try simp only [Exit.inBlock, Exit.then])
                  refine bodyPost_ret (results_blk (p := 2) (u := 3) (g := w.heap.size) (cs := [.int .i64 23, .int .i64 i, .int .i64 (((bat s (i + 1)).toNat - 48 : Nat) : Int), .string ⟨#[]⟩, .bool false]) rfl _ _ _ rfl ?_ Tryz.underlying107 rfl (by kernel_rfl)) rfl (HG.out _ ?_ ?_)
                  · apply Blk.as
                    repeat (first | (with_reducible assumption) | ((with_reducible apply Blk.newAt); (focus (simp; done))) | (with_reducible apply Blk.set) | ((with_reducible apply Blk.other); (case hp => first | omega | (simp; omega) | simp)) | (with_reducible apply Blk.alloc) | (with_reducible apply Blk.drewN) | (with_reducible apply Blk.drew))
                    rfl
                  · repeat (first | (with_reducible assumption) | ((with_reducible refine Rdr.moveTo ?_ ?_); rotate_left; (focus go_num)) | (with_reducible exact RdrAny.of (by assumption)) | ((with_reducible refine RdrAny.other ?_ ?_ ?_ _); rotate_left; (focus (first | omega | (simp; omega) | simp)); (focus (first | omega | (simp; omega) | simp))) | (with_reducible refine RdrAny.move ?_ _) | (with_reducible refine RdrAny.alloc ?_ _) | ((with_reducible refine Rdr.other ?_ ?_ ?_ _); rotate_left; (focus (first | omega | (simp; omega) | simp)); (focus (first | omega | (simp; omega) | simp))) | (with_reducible refine Rdr.alloc ?_ _) | (with_reducible refine Rdr.drewN ?_ _) | (with_reducible refine Rdr.drew ?_))
                  · repeat (first | (with_reducible assumption) | (with_reducible exact Kept.refl _ _) | ((with_reducible refine Kept.setCell ?_ ?_ _); rotate_left; (focus (first | exact fun _ => rfl | exact fun h => absurd h (by first | omega | (simp; omega) | simp)))) | (with_reducible refine Kept.alloc ?_ _) | (with_reducible refine Kept.drewN ?_ _) | (with_reducible refine Kept.drew ?_))
                · obtain ⟨c0, hc0⟩ : ∃ c0, (i + 1 < s.size ∧ c0 = (bat s (i + 1)).toNat) ∨ (s.size ≤ i + 1 ∧ c0 = 0) := by
                    by_cases h : i + 1 < s.size
                    · exact ⟨_, .inl ⟨h, rfl⟩⟩
                    · exact ⟨_, .inr ⟨by omega, rfl⟩⟩
                  have hn : ¬ (49 ≤ c0 ∧ c0 ≤ 57) := by
                    rcases hc0 with ⟨h, rfl⟩ | ⟨h, rfl⟩
                    · exact fun e => hnum ⟨h, e⟩
                    · omega
                  have hpb : i + 1 + (if c0 = 35 ∨ c0 = 34 then 1 else 0) ≤ s.size := by
                    rcases hc0 with ⟨h, _⟩ | ⟨h, h0⟩
                    · split <;> omega
                    · rw [if_neg (by omega)]; omega
                  have hdn := dollar_name s i c0 _ _ hc0 hn rfl rfl _ rfl
                  clear hnum
                  have HDN := Lib.hid hdn
                  have HC0 := Lib.hid hc0
                  have HPB := Lib.hid hpb
                  clear hdn hc0 hpb
                  go_wp2_with fail
                  refine xDollar_name r q s i i _ _ c0 wr hs hlt hR _ _ (hK.cell (hE 106 8 (by decide)) (fun e => hgr 106 8 (by decide) e)) (hgr 106 8 (by decide)) HC0 hn (Lib.hid rfl) (Lib.hid rfl) _ (Lib.hid rfl) HPB _ (Lib.hid fun hx w5 hR5 hK5 => ?_) (Lib.hid fun hx b5 w5 hE5 hK5 => ?_)
                  · have HG := Lib.hid (hgood.out ⟨_, i, 0, _, false⟩ _ · (by rw [← HT.out, HDN.out, if_pos hx]))
                    clear hx HDN HC0 HPB hn
                    generalize (if c0 = 35 then 21 else if c0 = 34 then 22 else 20) = kind at *
                    generalize (if c0 = 35 ∨ c0 = 34 then 1 else 0) = pre at *
                    generalize starName (s.data.toList.drop (i + 1 + pre)) = x at *
                    have hB5 := hB1.kept hK5 (fun e => Nat.ne_of_gt hr e)
                    have hK6 := hK.same hK5
                    clear tc0 tc1 tc2 tc3 tc4 tf0 tf1 tf2 tf3 tf4 uc0 uc1 uc2 uc3 uc4 uf0 uf1 uf2 uf3 uf4
                    have tc0 := hB5.cell 0 rfl
                    have tc1 := hB5.cell 1 rfl
                    have tc2 := hB5.cell 2 rfl
                    have tc3 := hB5.cell 3 rfl
                    have tc4 := hB5.cell 4 rfl
                    have tf0 := hB5.free 0
                    have tf1 := hB5.free 1
                    have tf2 := hB5.free 2
                    have tf3 := hB5.free 3
                    have tf4 := hB5.free 4
                    try simp only []
                    go_wp2_with fail
                    (try simp only [Exit.inBlock, Exit.then])
                    refine bodyPost_ret (results_blk (p := 2) (u := 3) (g := w.heap.size) (cs := [.int .i64 kind, .int .i64 i, .int .i64 0, .string (bs x), .bool false]) rfl _ _ _ rfl ?_ Tryz.underlying107 rfl (by kernel_rfl)) rfl (HG.out _ ?_ ?_)
                    · apply Blk.as
                      repeat (first | (with_reducible assumption) | ((with_reducible apply Blk.newAt); (focus (simp; done))) | (with_reducible apply Blk.set) | ((with_reducible apply Blk.other); (case hp => first | omega | (simp; omega) | simp)) | (with_reducible apply Blk.alloc) | (with_reducible apply Blk.drewN) | (with_reducible apply Blk.drew))
                      rfl
                    · rw [show i + (pre + x.length + 1) = i + 1 + pre + x.length from by omega]
                      repeat (first | (with_reducible assumption) | ((with_reducible refine Rdr.moveTo ?_ ?_); rotate_left; (focus go_num)) | (with_reducible exact RdrAny.of (by assumption)) | ((with_reducible refine RdrAny.other ?_ ?_ ?_ _); rotate_left; (focus (first | omega | (simp; omega) | simp)); (focus (first | omega | (simp; omega) | simp))) | (with_reducible refine RdrAny.move ?_ _) | (with_reducible refine RdrAny.alloc ?_ _) | ((with_reducible refine Rdr.other ?_ ?_ ?_ _); rotate_left; (focus (first | omega | (simp; omega) | simp)); (focus (first | omega | (simp; omega) | simp))) | (with_reducible refine Rdr.alloc ?_ _) | (with_reducible refine Rdr.drewN ?_ _) | (with_reducible refine Rdr.drew ?_))
                    · repeat (first | (with_reducible assumption) | (with_reducible exact Kept.refl _ _) | ((with_reducible refine Kept.setCell ?_ ?_ _); rotate_left; (focus (first | exact fun _ => rfl | exact fun h => absurd h (by first | omega | (simp; omega) | simp)))) | (with_reducible refine Kept.alloc ?_ _) | (with_reducible refine Kept.drewN ?_ _) | (with_reducible refine Kept.drew ?_))
                  · have HG := Lib.hid (hbad.out 106 i b5 · (by rw [← HT.out, HDN.out, if_neg hx]))
                    clear hx HDN HC0 HPB hn
                    have hB5 := hB1.kept hK5 (fun e => Nat.ne_of_gt hr e)
                    have hK6 := hK.same hK5
                    clear tc0 tc1 tc2 tc3 tc4 tf0 tf1 tf2 tf3 tf4 uc0 uc1 uc2 uc3 uc4 uf0 uf1 uf2 uf3 uf4
                    have tc0 := hB5.cell 0 rfl
                    have tc1 := hB5.cell 1 rfl
                    have tc2 := hB5.cell 2 rfl
                    have tc3 := hB5.cell 3 rfl
                    have tc4 := hB5.cell 4 rfl
                    have tf0 := hB5.free 0
                    have tf1 := hB5.free 1
                    have tf2 := hB5.free 2
                    have tf3 := hB5.free 3
                    have tf4 := hB5.free 4
                    try simp only []
                    go_wp2_with fail
                    (try simp only [Exit.inBlock, Exit.then])
                    have nb := Blk.apart hE5 hB5 (by simp)
                    refine bodyPost_ret (results_blk (p := 2) (u := 3) (g := w.heap.size) (cs := [.int .i64 0, .int .i64 0, .int .i64 0, .string ⟨#[]⟩, .bool false]) rfl _ _ _ rfl ?_ Tryz.underlying107 rfl (by kernel_rfl)) rfl (HG.out _ ?_ ?_)
                    · apply Blk.as
                      repeat (first | (with_reducible assumption) | ((with_reducible apply Blk.newAt); (focus (simp; done))) | (with_reducible apply Blk.set) | ((with_reducible apply Blk.other); (case hp => first | omega | (simp; omega) | simp)) | (with_reducible apply Blk.alloc) | (with_reducible apply Blk.drewN) | (with_reducible apply Blk.drew))
                      rfl
                    · unfold ErrAt
                      apply Blk.as
                      repeat (first | (with_reducible assumption) | ((with_reducible apply Blk.newAt); (focus (simp; done))) | (with_reducible apply Blk.set) | ((with_reducible apply Blk.other); (case hp => first | omega | (simp; omega) | simp)) | (with_reducible apply Blk.alloc) | (with_reducible apply Blk.drewN) | (with_reducible apply Blk.drew))
                      rfl
                    · repeat (first | (with_reducible assumption) | (with_reducible exact Kept.refl _ _) | ((with_reducible refine Kept.setCell ?_ ?_ _); rotate_left; (focus (first | exact fun _ => rfl | exact fun h => absurd h (by first | omega | (simp; omega) | simp)))) | (with_reducible refine Kept.alloc ?_ _) | (with_reducible refine Kept.drewN ?_ _) | (with_reducible refine Kept.drew ?_))
              · have HT := Lib.hid ((if_neg h36).symm.trans HT3.out)
                have d4 : (((bat s i).toNat : Int) == 36) = false := by rw [beq_eq_false_iff_ne]; omega
                clear HT3 h36
                go_wp2_with fail
                go_loopg [5, 6] (s.size - i) (fun n c x wr => ∃ k : Nat, n = s.size - k ∧ i ≤ k ∧ k ≤ s.size ∧ Rdr wr r q s k ∧ Blk wr w.heap.size [.int .i64 0, .int .i64 0, .int .i64 0, .string ⟨#[]⟩, .bool false] ∧
                  Blk wr (w.heap.size + 1) [.int .i64 0, .int .i64 i, .int .i64 0, .string ⟨#[]⟩, .bool false] ∧ Kept (At r) w wr ∧ Hid (((s.data.toList.drop i).take (k - i)).all (fun c => !endsB c) = true) ∧
                  ((k < s.size ∧ c = .int .u8 (bat s k).toNat ∧ x = .bool true) ∨ (s.size ≤ k ∧ c = .int .u8 0 ∧ x = .bool false)))
                case atStart => exact ⟨i, rfl, Nat.le_refl _, hi, hR, hB1, hB2, hK, Lib.hid (by rw [Nat.sub_self]; rfl), .inl ⟨hlt, rfl, rfl⟩⟩
                case round =>
                  clear hR hB1 hB2 hK d1 d2 d3 d4
                  obtain ⟨k, rfl, hik, hk, hR, hB1, hB2, hK, hall, hcase⟩ := hrel
                  rcases hcase with ⟨hlt, rfl, rfl⟩ | ⟨hge, rfl, rfl⟩
                  · cases hen : endsB (bat s k) with
                    | false =>
                      have HEn := Lib.hid hen
                      have hn := Lib.hid (word_step s i k hik hlt hall.out hen)
                      clear hen
                      have c1 := hR.c1
                      have f1 := hR.f1
                      go_wp2_with (go_at_call 113; refine (xEnds_any _ _).mono ?_; rintro e w' ⟨rfl, rfl⟩; rw [HEn.out])
                      generalize hw2 : wr.setCell ⟨r, 1, none⟩ (.int .i64 (↑k + 1)) = w2
                      have l1 := hB1.lt
                      have hR2 := hR.move (k + 1)
                      have hB12 := hB1.other (p := ⟨r, 1, none⟩) (by simp; omega) (.int .i64 (↑k + 1))
                      have hB22 := hB2.other (p := ⟨r, 1, none⟩) (by simp; omega) (.int .i64 (↑k + 1))
                      have hK2 := hK.setCell (p := ⟨r, 1, none⟩) (fun _ => rfl) (.int .i64 (↑k + 1))
                      rw [show ((k + 1 : Nat) : Int) = (k : Int) + 1 from rfl] at hR2
                      rw [hw2] at hR2 hB12 hB22 hK2
                      clear hw2 hR hB1 hB2 hK c1 f1 l1
                      have g0 := cell_regrown hR2.c0
                      have g1 := cell_regrown hR2.c1
                      have g2 := cell_regrown hR2.cs
                      by_cases hlt2 : k + 1 < s.size
                      · refine wp_region_quiet_below (by kernel_rfl) (by kernel_rfl) ?_
                        repeat (go_big_quiet_step ((go_at_call 107; exact Calls.regrown_of (bByte_in s (k + 1) _ hs hlt2))))
                        refine wpQuiet_nil ?_
                        intro w3 hw'
                        have hb : Below w2.heap.size w2 w3 := below_of_regrown hw'
                        clear hw'
                        clear g0 g1 g2
                        go_wp2_with fail
                        go_roundg (s.size - (k + 1))
                        case measure => omega
                        case rel => exact ⟨k + 1, rfl, by omega, by omega, hR2.below hb, hB12.below hb, hB22.below hb, hK2.andBelow hb, hn, .inl ⟨hlt2, rfl, rfl⟩⟩
                      · refine wp_region_quiet_below (by kernel_rfl) (by kernel_rfl) ?_
                        repeat (go_big_quiet_step ((go_at_call 107; exact Calls.regrown_of (bByte_high s (k + 1) _ hs (by omega)))))
                        refine wpQuiet_nil ?_
                        intro w3 hw'
                        have hb : Below w2.heap.size w2 w3 := below_of_regrown hw'
                        clear hw'
                        clear g0 g1 g2
                        go_wp2_with fail
                        go_roundg (s.size - (k + 1))
                        case measure => omega
                        case rel => exact ⟨k + 1, rfl, by omega, by omega, hR2.below hb, hB12.below hb, hB22.below hb, hK2.andBelow hb, hn, .inr ⟨by omega, rfl, rfl⟩⟩
                    | true =>
                      have HEn := Lib.hid hen
                      have HX := Lib.hid (word_end s i k hik hk hall.out (fun _ => hen))
                      clear hen
                      go_wp2_with (go_at_call 113; refine (xEnds_any _ _).mono ?_; rintro e w' ⟨rfl, rfl⟩; rw [HEn.out])
                      have c0 := hR.c0
                      have c1 := hR.c1
                      have cs := hR.cs
                      have l1 := hB1.lt
                      have l2 := hB2.lt
                      have l3 := hR.here.lt
                      have l4 := hR.src.lt
                      have uc0 := hB2.cell 0 rfl
                      have uc1 := hB2.cell 1 rfl
                      have uc2 := hB2.cell 2 rfl
                      have uc3 := hB2.cell 3 rfl
                      have uc4 := hB2.cell 4 rfl
                      have uf0 := hB2.free 0
                      have uf1 := hB2.free 1
                      have uf2 := hB2.free 2
                      have uf3 := hB2.free 3
                      have uf4 := hB2.free 4
                      have n1 : ¬ r = w.heap.size + 1 := by omega
                      have n2 : ¬ q = w.heap.size + 1 := by omega
                      have n3 : ¬ w.heap.size + 1 = r := by omega
                      have n4 : ¬ w.heap.size + 1 = q := by omega
                      go_region_held3 (fun w' => w'.cell? ⟨r, 0, none⟩ = some (.pointer (some ⟨q, 0, none⟩)) ∧ w'.cell? ⟨r, 1, none⟩ = some (.int .i64 (k : Int)) ∧ w'.cell? ⟨q, 0, none⟩ = some (.string s) ∧ w'.cell? ⟨w.heap.size + 1, 1, none⟩ = some (.int .i64 (i : Int))) (first | (refine ⟨bSome hb5 ?_, bSome hb5 ?_, bSome hb5 ?_, bSome hb5 ?_⟩ <;> simp [*]) | (refine ⟨(World.cell?_setCell_other _ _ _ _ (by simp [*])).trans ?_, (World.cell?_setCell_other _ _ _ _ (by simp [*])).trans ?_, (World.cell?_setCell_other _ _ _ _ (by simp [*])).trans ?_, (World.cell?_setCell_other _ _ _ _ (by simp)).trans ?_⟩ <;> simp [*]) | go_keep)
                        (first
                          | (go_at_call 114; refine (bSlice_any s _ _ _ hs).mono ?_; rintro e w5 ⟨rfl, hb5⟩; have T0 := bSome hb5 (p := ⟨w.heap.size + 1, 0, none⟩) (v := .int .i64 0) (by simp [*]); have T0f := bFree hb5 (p := ⟨w.heap.size + 1, 0, none⟩) (v := .int .i64 0) (by simp [*]) (by simp [*]); have T3 := bSome hb5 (p := ⟨w.heap.size + 1, 3, none⟩) (v := .string ⟨#[]⟩) (by simp [*]); have T3f := bFree hb5 (p := ⟨w.heap.size + 1, 3, none⟩) (v := .string ⟨#[]⟩) (by simp [*]) (by simp [*])))
                      have HG := Lib.hid (hgood.out ⟨18, i, 0, subs s.data.toList i k, false⟩ (k - i) · (by rw [← HT.out, HX.out, subs_length s i k hik hk]))
                      have hR5 := hR.drew.below hb5
                      have hB15 := hB1.drew.below hb5
                      have hB25 := hB2.drew.below hb5
                      have hK5 := hK.drew.andBelow hb5
                      clear c0 c1 cs T0 T0f T3 T3f uc0 uc1 uc2 uc3 uc4 uf0 uf1 uf2 uf3 uf4 hR hB1 hB2 hK hall
                      have tc0 := hB15.cell 0 rfl
                      have tc1 := hB15.cell 1 rfl
                      have tc2 := hB15.cell 2 rfl
                      have tc3 := hB15.cell 3 rfl
                      have tc4 := hB15.cell 4 rfl
                      have tf0 := hB15.free 0
                      have tf1 := hB15.free 1
                      have tf2 := hB15.free 2
                      have tf3 := hB15.free 3
                      have tf4 := hB15.free 4
                      have uc0 := hB25.cell 0 rfl
                      have uc1 := hB25.cell 1 rfl
                      have uc2 := hB25.cell 2 rfl
                      have uc3 := hB25.cell 3 rfl
                      have uc4 := hB25.cell 4 rfl
                      have uf0 := hB25.free 0
                      have uf1 := hB25.free 1
                      have uf2 := hB25.free 2
                      have uf3 := hB25.free 3
                      have uf4 := hB25.free 4
                      go_wp2_with fail
                      (try simp only [Exit.inBlock, Exit.then])
                      refine bodyPost_ret (results_blk (p := 2) (u := 3) (g := w.heap.size) (cs := [.int .i64 18, .int .i64 i, .int .i64 0, .string (bs (subs s.data.toList i k)), .bool false]) rfl _ _ _ rfl ?_ Tryz.underlying107 rfl (by kernel_rfl)) rfl (HG.out _ ?_ ?_)
                      · apply Blk.as
                        repeat (first | (with_reducible assumption) | ((with_reducible apply Blk.newAt); (focus (simp; done))) | (with_reducible apply Blk.set) | ((with_reducible apply Blk.other); (case hp => first | omega | (simp; omega) | simp)) | (with_reducible apply Blk.alloc) | (with_reducible apply Blk.drewN) | (with_reducible apply Blk.drew))
                        rfl
                      · rw [show i + (k - i) = k from by omega]
                        repeat (first | (with_reducible assumption) | ((with_reducible refine Rdr.moveTo ?_ ?_); rotate_left; (focus go_num)) | (with_reducible exact RdrAny.of (by assumption)) | ((with_reducible refine RdrAny.other ?_ ?_ ?_ _); rotate_left; (focus (first | omega | (simp; omega) | simp)); (focus (first | omega | (simp; omega) | simp))) | (with_reducible refine RdrAny.move ?_ _) | (with_reducible refine RdrAny.alloc ?_ _) | ((with_reducible refine Rdr.other ?_ ?_ ?_ _); rotate_left; (focus (first | omega | (simp; omega) | simp)); (focus (first | omega | (simp; omega) | simp))) | (with_reducible refine Rdr.alloc ?_ _) | (with_reducible refine Rdr.drewN ?_ _) | (with_reducible refine Rdr.drew ?_))
                      · repeat (first | (with_reducible assumption) | (with_reducible exact Kept.refl _ _) | ((with_reducible refine Kept.setCell ?_ ?_ _); rotate_left; (focus (first | exact fun _ => rfl | exact fun h => absurd h (by first | omega | (simp; omega) | simp)))) | (with_reducible refine Kept.alloc ?_ _) | (with_reducible refine Kept.drewN ?_ _) | (with_reducible refine Kept.drew ?_))
                  · have HEn : Hid (endsB 0 = endsB 0) := Lib.hid rfl
                    have HX := Lib.hid (word_end s i k hik hk hall.out (fun h => absurd h (by omega)))
                    go_wp2_with (go_at_call 113; refine (xEnds_any _ _).mono ?_; rintro e w' ⟨rfl, rfl⟩; rw [HEn.out])
                    have c0 := hR.c0
                    have c1 := hR.c1
                    have cs := hR.cs
                    have l1 := hB1.lt
                    have l2 := hB2.lt
                    have l3 := hR.here.lt
                    have l4 := hR.src.lt
                    have uc0 := hB2.cell 0 rfl
                    have uc1 := hB2.cell 1 rfl
                    have uc2 := hB2.cell 2 rfl
                    have uc3 := hB2.cell 3 rfl
                    have uc4 := hB2.cell 4 rfl
                    have uf0 := hB2.free 0
                    have uf1 := hB2.free 1
                    have uf2 := hB2.free 2
                    have uf3 := hB2.free 3
                    have uf4 := hB2.free 4
                    have n1 : ¬ r = w.heap.size + 1 := by omega
                    have n2 : ¬ q = w.heap.size + 1 := by omega
                    have n3 : ¬ w.heap.size + 1 = r := by omega
                    have n4 : ¬ w.heap.size + 1 = q := by omega
                    go_region_held3 (fun w' => w'.cell? ⟨r, 0, none⟩ = some (.pointer (some ⟨q, 0, none⟩)) ∧ w'.cell? ⟨r, 1, none⟩ = some (.int .i64 (k : Int)) ∧ w'.cell? ⟨q, 0, none⟩ = some (.string s) ∧ w'.cell? ⟨w.heap.size + 1, 1, none⟩ = some (.int .i64 (i : Int))) (first | (refine ⟨bSome hb5 ?_, bSome hb5 ?_, bSome hb5 ?_, bSome hb5 ?_⟩ <;> simp [*]) | (refine ⟨(World.cell?_setCell_other _ _ _ _ (by simp [*])).trans ?_, (World.cell?_setCell_other _ _ _ _ (by simp [*])).trans ?_, (World.cell?_setCell_other _ _ _ _ (by simp [*])).trans ?_, (World.cell?_setCell_other _ _ _ _ (by simp)).trans ?_⟩ <;> simp [*]) | go_keep)
                      (first
                        | (go_at_call 114; refine (bSlice_any s _ _ _ hs).mono ?_; rintro e w5 ⟨rfl, hb5⟩; have T0 := bSome hb5 (p := ⟨w.heap.size + 1, 0, none⟩) (v := .int .i64 0) (by simp [*]); have T0f := bFree hb5 (p := ⟨w.heap.size + 1, 0, none⟩) (v := .int .i64 0) (by simp [*]) (by simp [*]); have T3 := bSome hb5 (p := ⟨w.heap.size + 1, 3, none⟩) (v := .string ⟨#[]⟩) (by simp [*]); have T3f := bFree hb5 (p := ⟨w.heap.size + 1, 3, none⟩) (v := .string ⟨#[]⟩) (by simp [*]) (by simp [*])))
                    have HG := Lib.hid (hgood.out ⟨18, i, 0, subs s.data.toList i k, false⟩ (k - i) · (by rw [← HT.out, HX.out, subs_length s i k hik hk]))
                    have hR5 := hR.drew.below hb5
                    have hB15 := hB1.drew.below hb5
                    have hB25 := hB2.drew.below hb5
                    have hK5 := hK.drew.andBelow hb5
                    clear c0 c1 cs T0 T0f T3 T3f uc0 uc1 uc2 uc3 uc4 uf0 uf1 uf2 uf3 uf4 hR hB1 hB2 hK hall
                    have tc0 := hB15.cell 0 rfl
                    have tc1 := hB15.cell 1 rfl
                    have tc2 := hB15.cell 2 rfl
                    have tc3 := hB15.cell 3 rfl
                    have tc4 := hB15.cell 4 rfl
                    have tf0 := hB15.free 0
                    have tf1 := hB15.free 1
                    have tf2 := hB15.free 2
                    have tf3 := hB15.free 3
                    have tf4 := hB15.free 4
                    have uc0 := hB25.cell 0 rfl
                    have uc1 := hB25.cell 1 rfl
                    have uc2 := hB25.cell 2 rfl
                    have uc3 := hB25.cell 3 rfl
                    have uc4 := hB25.cell 4 rfl
                    have uf0 := hB25.free 0
                    have uf1 := hB25.free 1
                    have uf2 := hB25.free 2
                    have uf3 := hB25.free 3
                    have uf4 := hB25.free 4
                    go_wp2_with fail
                    (try simp only [Exit.inBlock, Exit.then])
                    refine bodyPost_ret (results_blk (p := 2) (u := 3) (g := w.heap.size) (cs := [.int .i64 18, .int .i64 i, .int .i64 0, .string (bs (subs s.data.toList i k)), .bool false]) rfl _ _ _ rfl ?_ Tryz.underlying107 rfl (by kernel_rfl)) rfl (HG.out _ ?_ ?_)
                    · apply Blk.as
                      repeat (first | (with_reducible assumption) | ((with_reducible apply Blk.newAt); (focus (simp; done))) | (with_reducible apply Blk.set) | ((with_reducible apply Blk.other); (case hp => first | omega | (simp; omega) | simp)) | (with_reducible apply Blk.alloc) | (with_reducible apply Blk.drewN) | (with_reducible apply Blk.drew))
                      rfl
                    · rw [show i + (k - i) = k from by omega]
                      repeat (first | (with_reducible assumption) | ((with_reducible refine Rdr.moveTo ?_ ?_); rotate_left; (focus go_num)) | (with_reducible exact RdrAny.of (by assumption)) | ((with_reducible refine RdrAny.other ?_ ?_ ?_ _); rotate_left; (focus (first | omega | (simp; omega) | simp)); (focus (first | omega | (simp; omega) | simp))) | (with_reducible refine RdrAny.move ?_ _) | (with_reducible refine RdrAny.alloc ?_ _) | ((with_reducible refine Rdr.other ?_ ?_ ?_ _); rotate_left; (focus (first | omega | (simp; omega) | simp)); (focus (first | omega | (simp; omega) | simp))) | (with_reducible refine Rdr.alloc ?_ _) | (with_reducible refine Rdr.drewN ?_ _) | (with_reducible refine Rdr.drew ?_))
                    · repeat (first | (with_reducible assumption) | (with_reducible exact Kept.refl _ _) | ((with_reducible refine Kept.setCell ?_ ?_ _); rotate_left; (focus (first | exact fun _ => rfl | exact fun h => absurd h (by first | omega | (simp; omega) | simp)))) | (with_reducible refine Kept.alloc ?_ _) | (with_reducible refine Kept.drewN ?_ _) | (with_reducible refine Kept.drew ?_))
        · have HT := Lib.hid ((if_pos hbe).symm.trans HT0.out)
          have hbz : 0 < (bs b).size := by
            rw [bs_size]
            cases b with
            | nil => exact absurd rfl hbe
            | cons _ _ => simp
          obtain ⟨e1, e2⟩ := ne_empty _ hbz
          have hbs3 : (bs b).size ≤ 3 := by rw [bs_size]; exact hbl
          have HZ := Lib.hid (bs_size b)
          clear HT0 HB hkd hbl hbe hbz
          have c1 := hR.c1
          have f1 := hR.f1
          have n1 : ¬ r = w.heap.size := by omega
          have n2 : ¬ r = w.heap.size + 1 := by omega
          have tc0 := hB1.cell 0 rfl
          have tc1 := hB1.cell 1 rfl
          have tc2 := hB1.cell 2 rfl
          have tc3 := hB1.cell 3 rfl
          have tc4 := hB1.cell 4 rfl
          have tf0 := hB1.free 0
          have tf1 := hB1.free 1
          have tf2 := hB1.free 2
          have tf3 := hB1.free 3
          have tf4 := hB1.free 4
          have uc0 := hB2.cell 0 rfl
          have uc1 := hB2.cell 1 rfl
          have uc2 := hB2.cell 2 rfl
          have uc3 := hB2.cell 3 rfl
          have uc4 := hB2.cell 4 rfl
          have uf0 := hB2.free 0
          have uf1 := hB2.free 1
          have uf2 := hB2.free 2
          have uf3 := hB2.free 3
          have uf4 := hB2.free 4
          go_wp2_with fail
          (try simp only [Exit.inBlock, Exit.then])
          refine bodyPost_ret (results_blk (p := 2) (u := 3) (g := w.heap.size) (cs := [.int .i64 kd, .int .i64 i, .int .i64 0, .string ⟨#[]⟩, .bool false]) rfl _ _ _ rfl ?_ Tryz.underlying107 rfl (by kernel_rfl)) rfl (hgood.out _ _ _ HT.out.symm ?_ ?_)
          · apply Blk.as
            repeat (first | (with_reducible assumption) | ((with_reducible apply Blk.newAt); (focus (simp; done))) | (with_reducible apply Blk.set) | ((with_reducible apply Blk.other); (case hp => first | omega | (simp; omega) | simp)) | (with_reducible apply Blk.alloc) | (with_reducible apply Blk.drewN) | (with_reducible apply Blk.drew))
            rfl
          · rw [← HZ.out]
            repeat (first | (with_reducible assumption) | ((with_reducible refine Rdr.moveTo ?_ ?_); rotate_left; (focus go_num)) | (with_reducible exact RdrAny.of (by assumption)) | ((with_reducible refine RdrAny.other ?_ ?_ ?_ _); rotate_left; (focus (first | omega | (simp; omega) | simp)); (focus (first | omega | (simp; omega) | simp))) | (with_reducible refine RdrAny.move ?_ _) | (with_reducible refine RdrAny.alloc ?_ _) | ((with_reducible refine Rdr.other ?_ ?_ ?_ _); rotate_left; (focus (first | omega | (simp; omega) | simp)); (focus (first | omega | (simp; omega) | simp))) | (with_reducible refine Rdr.alloc ?_ _) | (with_reducible refine Rdr.drewN ?_ _) | (with_reducible refine Rdr.drew ?_))
          · repeat (first | (with_reducible assumption) | (with_reducible exact Kept.refl _ _) | ((with_reducible refine Kept.setCell ?_ ?_ _); rotate_left; (focus (first | exact fun _ => rfl | exact fun h => absurd h (by first | omega | (simp; omega) | simp)))) | (with_reducible refine Kept.alloc ?_ _) | (with_reducible refine Kept.drewN ?_ _) | (with_reducible refine Kept.drew ?_))
  · refine wp_region_quiet_below (by kernel_rfl) (by kernel_rfl) ?_
    repeat (go_big_quiet_step ((go_at_call 107; exact Calls.regrown_of (bByte_high s i _ hs (by omega)))))
    refine wpQuiet_nil ?_
    intro w2 hw'
    have hb : Below w1.heap.size w1 w2 := below_of_regrown hw'
    clear hw'
    have hR2 := hR1.below hb
    have hB12 := hB1.below hb
    have hB22 := hB2.below hb
    have hK2 := hK1.andBelow hb
    clear hR1 hB1 hB2 hK1 hb g0 g1 g2
    have HT := Lib.hid ((tokenB_nil s i i (by omega)).symm.trans hT.out)
    have tc0 := hB12.cell 0 rfl
    have tc1 := hB12.cell 1 rfl
    have tc2 := hB12.cell 2 rfl
    have tc3 := hB12.cell 3 rfl
    have tc4 := hB12.cell 4 rfl
    have tf0 := hB12.free 0
    have tf1 := hB12.free 1
    have tf2 := hB12.free 2
    have tf3 := hB12.free 3
    have tf4 := hB12.free 4
    have uc0 := hB22.cell 0 rfl
    have uc1 := hB22.cell 1 rfl
    have uc2 := hB22.cell 2 rfl
    have uc3 := hB22.cell 3 rfl
    have uc4 := hB22.cell 4 rfl
    have uf0 := hB22.free 0
    have uf1 := hB22.free 1
    have uf2 := hB22.free 2
    have uf3 := hB22.free 3
    have uf4 := hB22.free 4
    go_wp2_with fail
    (try simp only [Exit.inBlock, Exit.then])
    refine bodyPost_ret (results_blk (p := 2) (u := 3) (g := w.heap.size) (cs := [.int .i64 0, .int .i64 i, .int .i64 0, .string ⟨#[]⟩, .bool false]) rfl _ _ _ rfl ?_ Tryz.underlying107 rfl (by kernel_rfl)) rfl (hgood.out _ _ _ HT.out.symm ?_ ?_)
    · apply Blk.as
      repeat (first | (with_reducible assumption) | ((with_reducible apply Blk.newAt); (focus (simp; done))) | (with_reducible apply Blk.set) | ((with_reducible apply Blk.other); (case hp => first | omega | (simp; omega) | simp)) | (with_reducible apply Blk.alloc) | (with_reducible apply Blk.drewN) | (with_reducible apply Blk.drew))
      rfl
    · rw [Nat.add_zero]
      repeat (first | (with_reducible assumption) | ((with_reducible refine Rdr.moveTo ?_ ?_); rotate_left; (focus go_num)) | (with_reducible exact RdrAny.of (by assumption)) | ((with_reducible refine RdrAny.other ?_ ?_ ?_ _); rotate_left; (focus (first | omega | (simp; omega) | simp)); (focus (first | omega | (simp; omega) | simp))) | (with_reducible refine RdrAny.move ?_ _) | (with_reducible refine RdrAny.alloc ?_ _) | ((with_reducible refine Rdr.other ?_ ?_ ?_ _); rotate_left; (focus (first | omega | (simp; omega) | simp)); (focus (first | omega | (simp; omega) | simp))) | (with_reducible refine Rdr.alloc ?_ _) | (with_reducible refine Rdr.drewN ?_ _) | (with_reducible refine Rdr.drew ?_))
    · repeat (first | (with_reducible assumption) | (with_reducible exact Kept.refl _ _) | ((with_reducible refine Kept.setCell ?_ ?_ _); rotate_left; (focus (first | exact fun _ => rfl | exact fun h => absurd h (by first | omega | (simp; omega) | simp)))) | (with_reducible refine Kept.alloc ?_ _) | (with_reducible refine Kept.drewN ?_ _) | (with_reducible refine Kept.drew ?_))

end Go.Proofs.YtepebnblbheegaaGreatDoor

/- Dialect B's Lex. -/
namespace Go.Proofs.YtepebnblbheegaaGreatDoor
open Go Go.RowKit

theorem infoXTok : (Tryz.prog.info? 107).map (fun i => (i.zero, i.size, i.bytes)) = some (some (.agg #[.int .i64 0, .int .i64 0, .int .i64 0, .string ⟨#[]⟩, .bool false]), 5, 48) := by kernel_rfl

/-- A slice value holds these tokens, in memory from block B on. -/
def Toks (w : World) (B : Nat) (v : Value) (ts : List BTok) : Prop := w.ownsRow B 107 5 v ts.length (ts.flatMap BTok.cells)

theorem Toks.below {w w' : World} {B : Nat} {v : Value} {ts : List BTok} (h : Toks w B v ts) (hb : Below w.heap.size w w') : Toks w' B v ts := by
  refine ⟨h.1, ?_⟩
  rcases h.2 with h2 | ⟨g, cap, cur, hv, hg, hh, r⟩
  · exact .inl h2
  · exact .inr ⟨g, cap, cur, hv, hg, (hb.block g (lt_of_block hh)).trans hh, r⟩
theorem Toks.kept {w w' : World} {B : Nat} {v : Value} {ts : List BTok} {S : Nat → Prop} (h : Toks w B v ts) (hk : Kept S w w') (hS : ∀ k, B ≤ k → k < w.heap.size → ¬ S k) : Toks w' B v ts := by
  refine ⟨h.1, ?_⟩
  rcases h.2 with h2 | ⟨g, cap, cur, hv, hg, hh, r⟩
  · exact .inl h2
  · exact .inr ⟨g, cap, cur, hv, hg, (hk.block g (lt_of_block hh) (hS g hg (lt_of_block hh))).trans hh, r⟩

/-- What the rest of a source comes to, behind tokens that are there. -/
def lexRest (f : Nat) (l : List UInt8) (k : Nat) (ts : List BTok) : Except (Nat × Nat) (List BTok) :=
  match lexB f ts.isEmpty (l.drop k) k with
  | .ok us => .ok (ts ++ us)
  | .error e => .error e

theorem lexRest_step (f : Nat) (l : List UInt8) (k j : Nat) (ts : List BTok) (hj : k + skipN false (l.drop k) = j) :
    lexRest (f + 1) l k ts = match tokenB (l.drop j) j with
      | .error e => .error e
      | .ok (t, n) => if t.kind = 0 then .ok (ts ++ [{ t with glue := !ts.isEmpty && k == j }]) else lexRest f l (j + n) (ts ++ [{ t with glue := !ts.isEmpty && k == j }]) := by
  have hd : (l.drop k).drop (skipN false (l.drop k)) = l.drop j := by rw [List.drop_drop, hj]
  have hz : (skipN false (l.drop k) == 0) = (k == j) := by
    rw [Bool.eq_iff_iff]
    simp only [beq_iff_eq]
    omega
  rw [lexRest, lexB, hd, hj, hz]
  cases ht : tokenB (l.drop j) j with
  | error e => rfl
  | ok x =>
    obtain ⟨t, n⟩ := x
    have h1 : (l.drop k).drop (skipN false (l.drop k) + n) = l.drop (j + n) := by rw [List.drop_drop]; congr 1; omega
    have h2 : (ts ++ [({ t with glue := !ts.isEmpty && k == j } : BTok)]).isEmpty = false := by simp
    by_cases hk : t.kind = 0
    · simp only [hk, if_true]
    · simp only [hk, if_false, h1, lexRest, h2]
      cases lexB f false (l.drop (j + n)) (j + n) with
      | error e => rfl
      | ok us => simp

theorem Toks.form {w : World} {B : Nat} {v : Value} {ts : List BTok} (h : Toks w B v ts) : ∃ ao cap, v = .slice ao ts.length cap := by
  rcases h.2 with ⟨hv, h0⟩ | ⟨g, cap, cur, hv, _⟩
  · exact ⟨none, 0, by rw [hv, h0]⟩
  · exact ⟨_, _, hv⟩
theorem cells_new {w : World} {cs : List Value} {t : TypeId} {b : Nat} (hb : b = w.heap.size) : ∀ j u, cs[j]? = some u → (w.alloc (.cells cs.toArray t)).cell? ((⟨b, 0, none⟩ : Addr).add j) = some u := by
  intro j u h
  have := (Blk.newAt cs t hb).cell j h
  cases j <;> simpa [Addr.add] using this

theorem Toks.mono {w : World} {B B' : Nat} {v : Value} {ts : List BTok} (h : Toks w B v ts) (hB : B' ≤ B) : Toks w B' v ts := by
  refine ⟨h.1, ?_⟩
  rcases h.2 with h2 | ⟨g, cap, cur, hv, hg, r⟩
  · exact .inl h2
  · exact .inr ⟨g, cap, cur, hv, Nat.le_trans hB hg, r⟩

set_option maxHeartbeats 4000000 in
set_option maxRecDepth 100000 in
/-- blex.Lex. -/
theorem xLex_any (s : ByteArray) (w : World) (hs : s.size ≤ 8192) (sent : Nat → Addr) (hE : Env w sent)
    (R : Ending → World → Prop) (T : Except (Nat × Nat) (List BTok)) (hT : Hid (lexB (s.size + 1) true s.data.toList 0 = T))
    (hgood : Hid (∀ ts v w', T = .ok ts → Toks w' w.heap.size v ts → Below w.heap.size w w' → R (.returned (.tuple #[v, .nilIface])) w'))
    (hbad : Hid (∀ c p b w', T = .error (c, p) → ErrAt w' b sent c p → Below w.heap.size w w' → R (.returned (.tuple #[.slice none 0 0, .iface 67 (.pointer (some ⟨b, 0, none⟩))])) w')) :
    Calls Tryz.prog 35 #[.string s] w R := by
  obtain ⟨i0, hi0, hz0, hz1, hz2⟩ := info_parts infoXTok
  go_enter Tryz.func35, Tryz.ntmps35
  go_wp2_with (go_at_call 63; refine (tNew_ok s _ hs).mono ?_; rintro e w1 ⟨rfl, hS1, hb1⟩)
  have l1 : w.heap.size < w1.heap.size := hS1.lt
  refine wp_world (fun w2 => Rdr w2 w1.heap.size w.heap.size s 0 ∧ Below w.heap.size w w2 ∧ w1.heap.size < w2.heap.size)
    ⟨⟨Blk.new w1 _ _, hS1.alloc _, by omega⟩, hb1.alloc (by omega) _, by simp⟩ ?_
  generalize w1.heap.size = rb at *
  intro w2 ⟨hR2, hb2, l2⟩
  clear hS1 hb1
  go_loopg [7] (s.size + 1) (fun n v wr => ∃ (k f : Nat) (ts : List BTok), n = s.size + 1 - k ∧ k ≤ s.size ∧ s.size - k < f ∧ ts.length ≤ k ∧ Rdr wr rb w.heap.size s k ∧ Toks wr (rb + 1) v ts ∧ Below w.heap.size w wr ∧ rb < wr.heap.size ∧ Hid (lexRest f s.data.toList k ts = T))
  case atStart =>
    refine ⟨0, s.size + 1, [], rfl, by omega, by omega, by simp, hR2, World.ownsRow_nil _ _ _ _, hb2, l2, Lib.hid ?_⟩
    rw [← hT.out, lexRest]
    simp only [List.isEmpty_nil, List.drop_zero, List.nil_append]
    cases lexB (s.size + 1) true s.data.toList 0 <;> rfl
  case round =>
    clear hR2 hb2 l2
    obtain ⟨k, f, ts, rfl, hk, hf, htl, hR, hO, hb, hl, hrest⟩ := hrel
    obtain ⟨ao, cap, rfl⟩ := hO.form
    have c1 := hR.c1
    obtain ⟨j, hj⟩ : ∃ j, k + skipN false (s.data.toList.drop k) = j := ⟨_, rfl⟩
    have hjs : j ≤ s.size := by
      have := skipN_le false (s.data.toList.drop k)
      rw [List.length_drop, size_eq] at this
      omega
    have hkj : k ≤ j := by omega
    have hfront := Lib.hid (skip_front false (s.data.toList.drop k))
    rw [List.drop_drop, hj] at hfront
    obtain ⟨f, rfl⟩ : ∃ f', f = f' + 1 := ⟨f - 1, by omega⟩
    have HS := Lib.hid ((lexRest_step f s.data.toList k j ts hj).symm.trans hrest.out)
    have HJ := Lib.hid hj
    clear hj hrest
    go_wp2_with (go_at_call 64; refine (xSkip_any rb w.heap.size s k j _ (by omega) hk hR HJ).mono ?_; rintro e w3 ⟨rfl, hR3, hK3⟩)
    have hb3 : Below w.heap.size w w3 := hb.trans (hK3.below hb.size (fun i hi e => by unfold At at e; omega))
    have hE3 := hE.below hb3
    have hO3 := hO.kept hK3 (fun i hi _ e => by unfold At at e; omega)
    have hl3 : rb < w3.heap.size := Nat.lt_of_lt_of_le hl hK3.size
    clear hR hO hb hl c1 hK3
    refine xToken_any rb w.heap.size s j w3 (by omega) hjs hR3 sent hE3 (fun c g hg e => by have := hE.lt hg; omega) _ _ (Lib.hid rfl) (Lib.hid fun t n w4 ht hR4 hK4 => ?_) (Lib.hid fun c p b w4 ht hE4 hK4 => ?_)
    · have hb4 : Below w.heap.size w w4 := hb3.trans (hK4.below hb3.size (fun i hi e => by unfold At at e; omega))
      have hO4 := hO3.kept hK4 (fun i hi _ e => by unfold At at e; omega)
      have hl4 : rb < w4.heap.size := Nat.lt_of_lt_of_le hl3 hK4.size
      obtain ⟨hn1, hn2, hn3, hn4, hn5⟩ := tokenB_takes _ _ _ _ ht
      rw [List.length_drop, size_eq] at hn1
      have HS2 := Lib.hid HS.out
      rw [ht] at HS2
      clear hR3 hK4 hO3 hb3 hl3 HS ht HJ hE3
      obtain ⟨tk, tp, tn, tx, tg⟩ := t
      dsimp only at hn2 hn3 hn4 HS2
      subst hn2 hn3
      have HN4 := Lib.hid hn4
      have HN5 := Lib.hid hn5
      clear hn4 hn5
      have hOA : ∀ o1 o2, Toks ((w4.alloc o1).alloc o2) (rb + 1) (.slice ao ts.length cap) ts := fun o1 o2 => hO4.below (((Below.refl _ _).alloc (Nat.le_refl _) _).alloc (by simp) _)
      have hown4 : ∀ k', (Value.slice ao ts.length cap).ownBlock = some k' → rb + 1 ≤ k' ∧ k' < w4.heap.size := hO4.lt
      simp only [BTok.cells]
      by_cases hts : 0 < ts.length
      · have hne : ts.isEmpty = false := by cases ts with
          | nil => simp at hts
          | cons a l => rfl
        by_cases hkj2 : k = tp
        · have d1 : (((tp : Nat) : Int) == (k : Int)) = true := by rw [beq_iff_eq]; omega
          have HG : (!ts.isEmpty && k == tp) = true := by rw [hne, beq_iff_eq.2 hkj2]; rfl
          go_wp2_with (at_builtin; refine wpList_append_own _ rfl _ _ 55 rfl (rb + 1) 107 i0 _ 5 48 Tryz.underlying55 hi0 hz0 hz1 hz2 rfl (by decide) _ _ _ rfl (hOA _ _) ⟨w4.heap.size + 1, 0, none⟩ 1 1 [.int .i64 (tk : Int), .int .i64 (tp : Int), .int .i64 (tn : Int), .string (bs tx), .bool true] rfl rfl ?c1 ?c2 ?c3 ?c4 ?c5 ?_)
          case c1 => exact cells_new (by simp)
          case c2 =>
            intro u hu
            simp at hu
            rcases hu with rfl | rfl | rfl | rfl | rfl <;> rfl
          case c3 => unfold maxLen; omega
          case c4 => omega
          case c5 => simp; omega
          intro v' w5 hown' hgrow _
          have hK5 : Kept (fun k' => some k' = (Value.slice ao ts.length cap).ownBlock) w4 w5 := (((Kept.refl _ _).alloc _).alloc _).grown hgrow (fun k' h _ => h.symm)
          have hR5 : Rdr w5 rb w.heap.size s (tp + n) := hR4.kept hK5 (fun e => by have := hown4 _ e.symm; omega) (fun e => by have := hown4 _ e.symm; omega)
          have hb5 : Below w.heap.size w w5 := hb4.trans (hK5.below hb4.size (fun i hi e => by have := hown4 _ e.symm; omega))
          have hO5 : Toks w5 (rb + 1) v' (ts ++ [⟨tk, tp, tn, tx, true⟩]) := by
            unfold Toks
            rw [List.length_append, List.flatMap_append]
            exact hown'
          have hc5 : w5.cell? ⟨w4.heap.size, 0, none⟩ = some (.int .i64 (tk : Int)) := hgrow.cell (((Blk.newAt _ _ rfl).alloc _).cell 0 rfl) (fun e => by have := hown4 _ e.symm; exact absurd this.2 (by simp))
          have hl5 : rb < w5.heap.size := Nat.lt_of_lt_of_le hl4 hK5.size
          have HT2 := Lib.hid HS2.out
          simp only [HG] at HT2
          clear HS2 hOA hown4 hown' hgrow hK5 hR4 hO4 hb4 hl4
          by_cases hk0 : tk = 0
          · subst hk0
            have HR := Lib.hid (hgood.out _ v' w5 HT2.out.symm (hO5.mono (by omega)) hb5)
            go_wp2_with fail
            exact HR.out
          · have hk1 : ((tk : Int) == 0) = false := by rw [beq_eq_false_iff_ne]; omega
            rw [if_neg hk0] at HT2
            have hn1' : 1 ≤ n := HN5.out (fun c m h => hfront.out c m h) (fun h => hk0 (HN4.out.2 h))
            go_wp2_with fail
            go_roundg (s.size + 1 - (tp + n))
            case measure => omega
            case rel => exact ⟨tp + n, f, _, rfl, by omega, by omega, by simp; omega, hR5, hO5, hb5, hl5, Lib.hid HT2.out⟩
        · have d1 : (((tp : Nat) : Int) == (k : Int)) = false := by rw [beq_eq_false_iff_ne]; omega
          have HG : (!ts.isEmpty && k == tp) = false := by rw [beq_false_of_ne hkj2, Bool.and_false]
          go_wp2_with (at_builtin; refine wpList_append_own _ rfl _ _ 55 rfl (rb + 1) 107 i0 _ 5 48 Tryz.underlying55 hi0 hz0 hz1 hz2 rfl (by decide) _ _ _ rfl (hOA _ _) ⟨w4.heap.size + 1, 0, none⟩ 1 1 [.int .i64 (tk : Int), .int .i64 (tp : Int), .int .i64 (tn : Int), .string (bs tx), .bool false] rfl rfl ?c1 ?c2 ?c3 ?c4 ?c5 ?_)
          case c1 => exact cells_new (by simp)
          case c2 =>
            intro u hu
            simp at hu
            rcases hu with rfl | rfl | rfl | rfl | rfl <;> rfl
          case c3 => unfold maxLen; omega
          case c4 => omega
          case c5 => simp; omega
          intro v' w5 hown' hgrow _
          have hK5 : Kept (fun k' => some k' = (Value.slice ao ts.length cap).ownBlock) w4 w5 := (((Kept.refl _ _).alloc _).alloc _).grown hgrow (fun k' h _ => h.symm)
          have hR5 : Rdr w5 rb w.heap.size s (tp + n) := hR4.kept hK5 (fun e => by have := hown4 _ e.symm; omega) (fun e => by have := hown4 _ e.symm; omega)
          have hb5 : Below w.heap.size w w5 := hb4.trans (hK5.below hb4.size (fun i hi e => by have := hown4 _ e.symm; omega))
          have hO5 : Toks w5 (rb + 1) v' (ts ++ [⟨tk, tp, tn, tx, false⟩]) := by
            unfold Toks
            rw [List.length_append, List.flatMap_append]
            exact hown'
          have hc5 : w5.cell? ⟨w4.heap.size, 0, none⟩ = some (.int .i64 (tk : Int)) := hgrow.cell (((Blk.newAt _ _ rfl).alloc _).cell 0 rfl) (fun e => by have := hown4 _ e.symm; exact absurd this.2 (by simp))
          have hl5 : rb < w5.heap.size := Nat.lt_of_lt_of_le hl4 hK5.size
          have HT2 := Lib.hid HS2.out
          simp only [HG] at HT2
          clear HS2 hOA hown4 hown' hgrow hK5 hR4 hO4 hb4 hl4
          by_cases hk0 : tk = 0
          · subst hk0
            have HR := Lib.hid (hgood.out _ v' w5 HT2.out.symm (hO5.mono (by omega)) hb5)
            go_wp2_with fail
            exact HR.out
          · have hk1 : ((tk : Int) == 0) = false := by rw [beq_eq_false_iff_ne]; omega
            rw [if_neg hk0] at HT2
            have hn1' : 1 ≤ n := HN5.out (fun c m h => hfront.out c m h) (fun h => hk0 (HN4.out.2 h))
            go_wp2_with fail
            go_roundg (s.size + 1 - (tp + n))
            case measure => omega
            case rel => exact ⟨tp + n, f, _, rfl, by omega, by omega, by simp; omega, hR5, hO5, hb5, hl5, Lib.hid HT2.out⟩
      · have HG : (!ts.isEmpty && k == tp) = false := by
          cases ts with
          | nil => rfl
          | cons a l => simp at hts
        go_wp2_with (at_builtin; refine wpList_append_own _ rfl _ _ 55 rfl (rb + 1) 107 i0 _ 5 48 Tryz.underlying55 hi0 hz0 hz1 hz2 rfl (by decide) _ _ _ rfl (hOA _ _) ⟨w4.heap.size + 1, 0, none⟩ 1 1 [.int .i64 (tk : Int), .int .i64 (tp : Int), .int .i64 (tn : Int), .string (bs tx), .bool false] rfl rfl ?c1 ?c2 ?c3 ?c4 ?c5 ?_)
        case c1 => exact cells_new (by simp)
        case c2 =>
          intro u hu
          simp at hu
          rcases hu with rfl | rfl | rfl | rfl | rfl <;> rfl
        case c3 => unfold maxLen; omega
        case c4 => omega
        case c5 => simp; omega
        intro v' w5 hown' hgrow _
        have hK5 : Kept (fun k' => some k' = (Value.slice ao ts.length cap).ownBlock) w4 w5 := (((Kept.refl _ _).alloc _).alloc _).grown hgrow (fun k' h _ => h.symm)
        have hR5 : Rdr w5 rb w.heap.size s (tp + n) := hR4.kept hK5 (fun e => by have := hown4 _ e.symm; omega) (fun e => by have := hown4 _ e.symm; omega)
        have hb5 : Below w.heap.size w w5 := hb4.trans (hK5.below hb4.size (fun i hi e => by have := hown4 _ e.symm; omega))
        have hO5 : Toks w5 (rb + 1) v' (ts ++ [⟨tk, tp, tn, tx, false⟩]) := by
          unfold Toks
          rw [List.length_append, List.flatMap_append]
          exact hown'
        have hc5 : w5.cell? ⟨w4.heap.size, 0, none⟩ = some (.int .i64 (tk : Int)) := hgrow.cell (((Blk.newAt _ _ rfl).alloc _).cell 0 rfl) (fun e => by have := hown4 _ e.symm; exact absurd this.2 (by simp))
        have hl5 : rb < w5.heap.size := Nat.lt_of_lt_of_le hl4 hK5.size
        have HT2 := Lib.hid HS2.out
        simp only [HG] at HT2
        clear HS2 hOA hown4 hown' hgrow hK5 hR4 hO4 hb4 hl4
        by_cases hk0 : tk = 0
        · subst hk0
          have HR := Lib.hid (hgood.out _ v' w5 HT2.out.symm (hO5.mono (by omega)) hb5)
          go_wp2_with fail
          exact HR.out
        · have hk1 : ((tk : Int) == 0) = false := by rw [beq_eq_false_iff_ne]; omega
          rw [if_neg hk0] at HT2
          have hn1' : 1 ≤ n := HN5.out (fun c m h => hfront.out c m h) (fun h => hk0 (HN4.out.2 h))
          go_wp2_with fail
          go_roundg (s.size + 1 - (tp + n))
          case measure => omega
          case rel => exact ⟨tp + n, f, _, rfl, by omega, by omega, by simp; omega, hR5, hO5, hb5, hl5, Lib.hid HT2.out⟩
    · have hb4 : Below w.heap.size w w4 := hb3.trans (hK4.below hb3.size (fun i hi e => by unfold At at e; omega))
      have HG := Lib.hid fun o => hbad.out c p b (w4.alloc o) (by rw [← HS.out, ht]) (by unfold ErrAt at hE4 ⊢; exact hE4.alloc _) (hb4.alloc hb4.size _)
      go_wp2_with fail
      exact HG.out _

end Go.Proofs.YtepebnblbheegaaGreatDoor
