/- Dialect B's reader: what is between two quotes. -/
import Derived.Test.YtdadgodjjfgmfaaDoorBlexDollar
namespace Go.Proofs.YtdadgodjjfgmfaaDoor
open Go Go.RowKit

/-- A builder in block b that holds these bytes, its rows from b on. -/
def Bld (w : World) (b : Nat) (l : List UInt8) : Prop := Lib.IsBuilder 90 5 b b (Lib.byteCells l) w

theorem bldAt_heap {B b : Nat} {p : Value} {l : List Value} {w w' : World} (h : Lib.BuilderAt 90 5 B b p l w) (hk : ∀ k, B ≤ k → k < w.heap.size → w'.heap[k]? = w.heap[k]?) : Lib.BuilderAt 90 5 B b p l w' := by
  obtain ⟨hB, v, hb, hown, hne⟩ := h
  refine ⟨hB, v, (hk b hB (lt_of_block hb)).trans hb, ⟨hown.1, ?_⟩, hne⟩
  rcases hown.2 with h2 | ⟨g, cap, cur, hv, hg, hh, r⟩
  · exact .inl h2
  · exact .inr ⟨g, cap, cur, hv, hg, (hk g hg (lt_of_block hh)).trans hh, r⟩
theorem Bld.of_heap {w w' : World} {b : Nat} {l : List UInt8} (h : Bld w b l) (hk : ∀ k, b ≤ k → k < w.heap.size → w'.heap[k]? = w.heap[k]?) : Bld w' b l :=
  h.imp (fun h => bldAt_heap h hk) (fun h => bldAt_heap h hk)
theorem Bld.below {w w' : World} {b : Nat} {l : List UInt8} (h : Bld w b l) (hb : Below w.heap.size w w') : Bld w' b l := h.of_heap fun k _ hk => hb.block k hk
theorem Bld.other {w : World} {b : Nat} {l : List UInt8} (h : Bld w b l) {p : Addr} (hp : p.block < b) (u : Value) : Bld (w.setCell p u) b l := h.of_heap fun k h1 _ => Below.heap_setCell _ _ _ _ (by omega)
theorem Bld.drew {w : World} {b : Nat} {l : List UInt8} (h : Bld w b l) : Bld w.drew b l := h.of_heap fun _ _ _ => rfl
theorem Bld.new (w : World) : Bld (w.alloc (.cells #[.pointer none, .slice none 0 0] 90)) w.heap.size [] := Lib.fresh_isBuilder _ _ w
theorem Bld.newAt {w : World} {b : Nat} (hb : b = w.heap.size) : Bld (w.alloc (.cells #[.pointer none, .slice none 0 0] 90)) b [] := hb ▸ Bld.new w
theorem Bld.lt {w : World} {b : Nat} {l : List UInt8} (h : Bld w b l) : b < w.heap.size := h.elim (fun h => h.lt) (fun h => h.lt)

theorem byteCells_snoc (l : List UInt8) (c : UInt8) : Lib.byteCells l ++ [.int .u8 (c.toNat : Int)] = Lib.byteCells (l ++ [c]) := by simp [Lib.byteCells]

/-- A byte written. -/
theorem Bld.writeByte (b : Nat) (l : List UInt8) (c : UInt8) (w : World) (h : Bld w b l) (hlen : l.length ≤ 100000000) :
    Calls Tryd.prog 57 #[.pointer (some ⟨b, 0, none⟩), .int .u8 c.toNat] w fun e w' => e = .returned .nilIface ∧ Bld w' b (l ++ [c]) ∧ Below b w w' := by
  refine (sbWriteByte_any b b (Lib.byteCells l) _ w h (by rw [Lib.byteCells_length]; omega) (Nat.le_of_lt h.lt)).mono ?_
  rintro e w' ⟨rfl, h1, h2⟩
  rw [byteCells_snoc] at h1
  exact ⟨rfl, .inr h1, h2⟩

/-- A text written. -/
theorem Bld.writeString (b : Nat) (l : List UInt8) (s : ByteArray) (w : World) (h : Bld w b l) (hlen : l.length + s.size ≤ 100000000) :
    Calls Tryd.prog 58 #[.pointer (some ⟨b, 0, none⟩), .string s] w fun e w' => e = .returned (.tuple #[.int .i64 s.size, .nilIface]) ∧ Bld w' b (l ++ s.data.toList) ∧ Below b w w' := by
  refine (sbWriteString_any b b (Lib.byteCells l) s w h (by rw [Lib.byteCells_length]; omega) (Nat.le_of_lt h.lt)).mono ?_
  rintro e w' ⟨rfl, h1, h2⟩
  rw [show Lib.byteCells l ++ Lib.strCells s = Lib.byteCells (l ++ s.data.toList) from by simp [Lib.byteCells, Lib.strCells]] at h1
  exact ⟨rfl, .inr h1, h2⟩

/-- What it holds. -/
theorem Bld.string (b : Nat) (l : List UInt8) (w : World) (h : Bld w b l) :
    Calls Tryd.prog 61 #[.pointer (some ⟨b, 0, none⟩)] w fun e w' => e = .returned (.string (bs l)) ∧ Below b w w' :=
  Tryd.Builder_String_any b b l w h (Nat.le_of_lt h.lt)

theorem Rdr.belowB {w w' : World} {r q : Nat} {s : ByteArray} {i B : Nat} (h : Rdr w r q s i) (hb : Below B w w') (h1 : r < B) (h2 : q < B) : Rdr w' r q s i :=
  ⟨h.here.of_heap (hb.block r h1), h.src.of_heap (hb.block q h2), h.ne⟩
theorem Blk.belowB {w w' : World} {b B : Nat} {cs : List Value} (h : Blk w b cs) (hb : Below B w w') (h1 : b < B) : Blk w' b cs := h.of_heap (hb.block b h1)
theorem Kept.belowB {S : Nat → Prop} {a b c : World} {B : Nat} (h : Kept S a b) (k : Below B b c) (hB : a.heap.size ≤ B) : Kept S a c :=
  ⟨k.os.trans h.os, k.tape.trans h.tape, k.output.trans h.output, Nat.le_trans h.size k.size, fun i hi hn => (k.block i (by omega)).trans (h.block i hi hn)⟩

/-- What the loop is still to come to, at a place with so much written. -/
def deadAt (l : List UInt8) (k : Nat) (acc : List UInt8) : Option (List UInt8 × Nat) := (deadB (l.drop k)).map fun x => (acc ++ x.1, k + x.2)

theorem deadAt_end (s : ByteArray) (k : Nat) (acc : List UInt8) (h : s.size ≤ k) : deadAt s.data.toList k acc = none := by
  rw [deadAt, List.drop_eq_nil_of_le (by rw [size_eq]; omega)]; rfl
theorem deadAt_two (s : ByteArray) (k : Nat) (acc : List UInt8) (h : k < s.size) (hc : (bat s k).toNat = 39) (h2 : Lib.hasPrefix (s.data.toList.drop k) [39, 39] = true) :
    k + 1 < s.size ∧ deadAt s.data.toList k acc = deadAt s.data.toList (k + 2) (acc ++ [bat s k]) := by
  rw [drop_bat s k h] at h2
  by_cases h3 : k + 1 < s.size
  · rw [drop_bat s (k + 1) h3] at h2
    refine ⟨h3, ?_⟩
    have hd : (bat s (k + 1)).toNat = 39 := by
      simp only [Lib.hasPrefix, List.isPrefixOf, Bool.and_eq_true, beq_iff_eq] at h2
      rw [← h2.2.1]; rfl
    have hc' : bat s k = 39 := by apply UInt8.toNat_inj.1; rw [hc]; rfl
    rw [deadAt, deadAt, drop_bat s k h, drop_bat s (k + 1) h3, deadB, if_pos hc, if_pos hd, hc', Option.map_map]
    congr 1
    funext x
    simp [Nat.add_assoc, Nat.add_comm 2]
  · rw [List.drop_eq_nil_of_le (by rw [size_eq]; omega)] at h2
    simp [Lib.hasPrefix, List.isPrefixOf] at h2
theorem deadAt_last (s : ByteArray) (k : Nat) (acc : List UInt8) (h : k < s.size) (hc : (bat s k).toNat = 39) (h2 : Lib.hasPrefix (s.data.toList.drop k) [39, 39] = false) :
    deadAt s.data.toList k acc = some (acc, k + 1) := by
  have hc' : bat s k = 39 := by apply UInt8.toNat_inj.1; rw [hc]; rfl
  rw [drop_bat s k h, hc'] at h2
  rw [deadAt, drop_bat s k h]
  by_cases h3 : k + 1 < s.size
  · rw [drop_bat s (k + 1) h3] at h2 ⊢
    have hd : ¬ (bat s (k + 1)).toNat = 39 := by
      intro e
      have : bat s (k + 1) = 39 := by apply UInt8.toNat_inj.1; rw [e]; rfl
      rw [this] at h2
      revert h2
      simp [Lib.hasPrefix, List.isPrefixOf]
    rw [deadB, if_pos hc, if_neg hd]
    simp
  · rw [List.drop_eq_nil_of_le (by rw [size_eq]; omega), deadB, if_pos hc]
    simp
theorem deadAt_on (s : ByteArray) (k : Nat) (acc : List UInt8) (h : k < s.size) (hc : ¬ (bat s k).toNat = 39) :
    deadAt s.data.toList k acc = deadAt s.data.toList (k + 1) (acc ++ [bat s k]) := by
  rw [deadAt, deadAt, drop_bat s k h]
  by_cases h3 : k + 1 < s.size
  · rw [drop_bat s (k + 1) h3, deadB, if_neg hc, Option.map_map]
    congr 1
    funext x
    simp [Nat.add_assoc, Nat.add_comm 1]
  · rw [List.drop_eq_nil_of_le (by rw [size_eq]; omega)]
    simp [deadB, hc]

set_option maxHeartbeats 2000000 in
set_option maxRecDepth 100000 in
theorem xDead_any (r q : Nat) (s : ByteArray) (i p : Nat) (w : World) (hs : s.size ≤ 1000000) (hi : i < s.size) (hR : Rdr w r q s i) (ev : Addr) (te : TypeId) (hev : w.cell? ⟨2, 0, none⟩ = some (.iface te (.pointer (some ev)))) (hgr : 2 ≠ r)
    (R : Ending → World → Prop) (tg : Option (List UInt8 × Nat)) (htg : Hid (deadAt s.data.toList (i + 1) [] = tg))
    (hgood : Hid (∀ x n w', tg = some (x, n) → Rdr w' r q s n → Kept (At r) w w' → R (.returned (.tuple #[.agg #[.int .i64 19, .int .i64 p, .int .i64 0, .string (bs x), .bool false], .nilIface])) w'))
    (hbad : Hid (tg = none → ∀ b w', Blk w' b [.int .i64 p, .iface te (.pointer (some ev))] → Kept (At r) w w' → R (.returned (.tuple #[.agg #[.int .i64 0, .int .i64 0, .int .i64 0, .string ⟨#[]⟩, .bool false], .iface 102 (.pointer (some ⟨b, 0, none⟩))])) w')) :
    Calls Tryd.prog 65 #[.pointer (some ⟨r, 0, none⟩), .agg #[.int .i64 0, .int .i64 p, .int .i64 0, .string ⟨#[]⟩, .bool false]] w R := by
  have hr := hR.here.lt
  have hq := hR.src.lt
  have hgl := block_lt_of_cell hev
  go_enter Tryd.func65, Tryd.ntmps65
  go_upto_region 2 with fail
  refine wp_world (fun w1 => Rdr w1 r q s i ∧ Blk w1 w.heap.size [.int .i64 0, .int .i64 p, .int .i64 0, .string ⟨#[]⟩, .bool false] ∧
      Blk w1 (w.heap.size + 1) [.int .i64 0, .int .i64 0, .int .i64 0, .string ⟨#[]⟩, .bool false] ∧ Bld w1 (w.heap.size + 1 + 1) [] ∧ Kept (At r) w w1)
    ⟨((hR.alloc _).alloc _).alloc _, ((Blk.newAt _ _ (by simp)).alloc _).alloc _, (Blk.newAt _ _ (by simp)).alloc _, Bld.newAt (by simp), (((Kept.refl (At r) w).alloc _).alloc _).alloc _⟩ ?_
  intro w1 ⟨hR1, hB1, hB2, hL1, hK1⟩
  have c1 := hR1.c1
  have f1 := hR1.f1
  go_wp2_with fail
  clear c1 f1
  go_loopg [] (s.size - (i + 1)) (fun n wr => ∃ (k : Nat) (acc : List UInt8), n = s.size - k ∧ k ≤ s.size ∧ acc.length ≤ k ∧ Rdr wr r q s k ∧ Blk wr w.heap.size [.int .i64 0, .int .i64 p, .int .i64 0, .string ⟨#[]⟩, .bool false] ∧
      Blk wr (w.heap.size + 1) [.int .i64 0, .int .i64 0, .int .i64 0, .string ⟨#[]⟩, .bool false] ∧ Bld wr (w.heap.size + 1 + 1) acc ∧ Kept (At r) w wr ∧ Hid (deadAt s.data.toList k acc = tg))
  case atStart =>
    refine ⟨i + 1, [], rfl, by omega, by simp, ?_, ?_, ?_, ?_, ?_, htg⟩
    · repeat (first | (with_reducible assumption) | ((with_reducible refine Rdr.moveTo ?_ ?_); rotate_left; (focus go_num)) | (with_reducible exact RdrAny.of (by assumption)) | ((with_reducible refine RdrAny.other ?_ ?_ ?_ _); rotate_left; (focus (first | omega | (simp; omega) | simp)); (focus (first | omega | (simp; omega) | simp))) | (with_reducible refine RdrAny.move ?_ _) | (with_reducible refine RdrAny.alloc ?_ _) | ((with_reducible refine Rdr.other ?_ ?_ ?_ _); rotate_left; (focus (first | omega | (simp; omega) | simp)); (focus (first | omega | (simp; omega) | simp))) | (with_reducible refine Rdr.alloc ?_ _) | (with_reducible refine Rdr.drewN ?_ _) | (with_reducible refine Rdr.drew ?_))
    · apply Blk.as
      repeat (first | (with_reducible assumption) | ((with_reducible apply Blk.newAt); (focus (simp; done))) | (with_reducible apply Blk.set) | ((with_reducible apply Blk.other); (case hp => first | omega | (simp; omega) | simp)) | (with_reducible apply Blk.alloc) | (with_reducible apply Blk.drewN) | (with_reducible apply Blk.drew))
      rfl
    · apply Blk.as
      repeat (first | (with_reducible assumption) | ((with_reducible apply Blk.newAt); (focus (simp; done))) | (with_reducible apply Blk.set) | ((with_reducible apply Blk.other); (case hp => first | omega | (simp; omega) | simp)) | (with_reducible apply Blk.alloc) | (with_reducible apply Blk.drewN) | (with_reducible apply Blk.drew))
      rfl
    · repeat (first | (with_reducible assumption) | ((with_reducible refine Bld.other ?_ ?_ _); rotate_left; (focus (first | omega | (simp; omega) | simp))) | (with_reducible refine Bld.drew ?_))
    · repeat (first | (with_reducible assumption) | (with_reducible exact Kept.refl _ _) | ((with_reducible refine Kept.setCell ?_ ?_ _); rotate_left; (focus (first | exact fun _ => rfl | exact fun h => absurd h (by first | omega | (simp; omega) | simp)))) | (with_reducible refine Kept.alloc ?_ _) | (with_reducible refine Kept.drewN ?_ _) | (with_reducible refine Kept.drew ?_))
  case round =>
    obtain ⟨k, acc, rfl, hk, hacc, hR, hB1, hB2, hL, hK, htg⟩ := hrel
    clear hR1
    have g0 := cell_regrown hR.c0
    have g1 := cell_regrown hR.c1
    have g2 := cell_regrown hR.cs
    go_wp2_with fail
    by_cases hlt : k < s.size
    · refine wp_region_quiet_below (by kernel_rfl) (by kernel_rfl) ?_
      repeat (go_big_quiet_step ((go_at_call 27; exact Calls.regrown_of (bByte_in s k _ hs hlt))))
      refine wpQuiet_nil ?_
      intro w2 hw'
      have hb : Below wr.heap.size wr w2 := below_of_regrown hw'
      clear hw'
      have hR2 := hR.below hb
      have hB12 := hB1.below hb
      have hB22 := hB2.below hb
      have hL2 := hL.below hb
      have hK2 := hK.andBelow hb
      clear hR hB1 hB2 hL hK hb g0 g1 g2
      by_cases h39 : (bat s k).toNat = 39
      · have d1 : (((bat s k).toNat : Int) == 39) = true := by rw [beq_iff_eq]; omega
        have g0 := cell_regrown hR2.c0
        have g1 := cell_regrown hR2.c1
        have g2 := cell_regrown hR2.cs
        have HB := Lib.hid (bHas_in s ⟨#[39, 39]⟩ k)
        by_cases hq2 : Lib.hasPrefix (s.data.toList.drop k) [39, 39] = true
        · have hq' : Lib.hasPrefix (List.drop k s.data.toList) (ByteArray.mk #[39, 39]).data.toList = true := hq2
          rw [hq'] at HB
          have HT := Lib.hid ((deadAt_two s k acc hlt h39 hq2).2.symm.trans htg.out)
          have hlt2 := (deadAt_two s k acc hlt h39 hq2).1
          clear hq' hq2 h39
          go_wp2_with fail
          refine wp_region_quiet_below (by kernel_rfl) (by kernel_rfl) ?_
          repeat (go_big_quiet_step ((go_at_call 28; exact Calls.regrown_of (HB.out _ hs hk))))
          refine wpQuiet_nil ?_
          intro w3 hw'
          have hb : Below w2.heap.size w2 w3 := below_of_regrown hw'
          clear hw'
          have hR3 := hR2.below hb
          have hB13 := hB12.below hb
          have hB23 := hB22.below hb
          have hL3 := hL2.below hb
          have hK3 := hK2.andBelow hb
          have l1 := hL3.lt
          clear hR2 hB12 hB22 hL2 hK2 hb g0 g1 g2 HB
          have c1 := hR3.c1
          have f1 := hR3.f1
          go_wp2_with fail
          generalize hw4 : w3.setCell ⟨r, 1, none⟩ (.int .i64 (↑k + 1)) = w4
          have hR4 := hR3.move (k + 1)
          have hB14 := hB13.other (p := ⟨r, 1, none⟩) (by simp; omega) (.int .i64 (↑k + 1))
          have hB24 := hB23.other (p := ⟨r, 1, none⟩) (by simp; omega) (.int .i64 (↑k + 1))
          have hL4 := hL3.other (p := ⟨r, 1, none⟩) (by simp; omega) (.int .i64 (↑k + 1))
          have hK4 := hK3.setCell (p := ⟨r, 1, none⟩) (fun _ => rfl) (.int .i64 (↑k + 1))
          rw [show ((k + 1 : Nat) : Int) = (k : Int) + 1 from rfl] at hR4
          rw [hw4] at hR4 hB14 hB24 hL4 hK4
          clear hw4 hR3 hB13 hB23 hL3 hK3 c1 f1 l1
          refine (Bld.writeByte _ acc (bat s k) w4 hL4 (by omega)).mono ?_
          rintro e w5 ⟨rfl, hL5, hb5⟩
          have hR5 := hR4.belowB hb5 (by omega) (by omega)
          have hB15 := hB14.belowB hb5 (by omega)
          have hB25 := hB24.belowB hb5 (by omega)
          have hK5 := hK4.belowB hb5 (by omega)
          clear hR4 hB14 hB24 hL4 hK4 hb5
          have c1 := hR5.c1
          have f1 := hR5.f1
          go_wp2_with fail
          go_roundg (s.size - (k + 2))
          case measure => omega
          case rel =>
            refine ⟨k + 2, acc ++ [bat s k], rfl, by omega, by simp; omega, ?_, ?_, ?_, ?_, ?_, HT⟩
            · repeat (first | (with_reducible assumption) | ((with_reducible refine Rdr.moveTo ?_ ?_); rotate_left; (focus go_num)) | (with_reducible exact RdrAny.of (by assumption)) | ((with_reducible refine RdrAny.other ?_ ?_ ?_ _); rotate_left; (focus (first | omega | (simp; omega) | simp)); (focus (first | omega | (simp; omega) | simp))) | (with_reducible refine RdrAny.move ?_ _) | (with_reducible refine RdrAny.alloc ?_ _) | ((with_reducible refine Rdr.other ?_ ?_ ?_ _); rotate_left; (focus (first | omega | (simp; omega) | simp)); (focus (first | omega | (simp; omega) | simp))) | (with_reducible refine Rdr.alloc ?_ _) | (with_reducible refine Rdr.drewN ?_ _) | (with_reducible refine Rdr.drew ?_))
            · apply Blk.as
              repeat (first | (with_reducible assumption) | ((with_reducible apply Blk.newAt); (focus (simp; done))) | (with_reducible apply Blk.set) | ((with_reducible apply Blk.other); (case hp => first | omega | (simp; omega) | simp)) | (with_reducible apply Blk.alloc) | (with_reducible apply Blk.drewN) | (with_reducible apply Blk.drew))
              rfl
            · apply Blk.as
              repeat (first | (with_reducible assumption) | ((with_reducible apply Blk.newAt); (focus (simp; done))) | (with_reducible apply Blk.set) | ((with_reducible apply Blk.other); (case hp => first | omega | (simp; omega) | simp)) | (with_reducible apply Blk.alloc) | (with_reducible apply Blk.drewN) | (with_reducible apply Blk.drew))
              rfl
            · repeat (first | (with_reducible assumption) | ((with_reducible refine Bld.other ?_ ?_ _); rotate_left; (focus (first | omega | (simp; omega) | simp))) | (with_reducible refine Bld.drew ?_))
            · repeat (first | (with_reducible assumption) | (with_reducible exact Kept.refl _ _) | ((with_reducible refine Kept.setCell ?_ ?_ _); rotate_left; (focus (first | exact fun _ => rfl | exact fun h => absurd h (by first | omega | (simp; omega) | simp)))) | (with_reducible refine Kept.alloc ?_ _) | (with_reducible refine Kept.drewN ?_ _) | (with_reducible refine Kept.drew ?_))
        · have hq' : Lib.hasPrefix (List.drop k s.data.toList) (ByteArray.mk #[39, 39]).data.toList = false := by simpa using hq2
          rw [hq'] at HB
          have HT := Lib.hid ((deadAt_last s k acc hlt h39 hq').symm.trans htg.out)
          clear hq' hq2 h39
          go_wp2_with fail
          refine wp_region_quiet_below (by kernel_rfl) (by kernel_rfl) ?_
          repeat (go_big_quiet_step ((go_at_call 28; exact Calls.regrown_of (HB.out _ hs hk))))
          refine wpQuiet_nil ?_
          intro w3 hw'
          have hb : Below w2.heap.size w2 w3 := below_of_regrown hw'
          clear hw'
          have hR3 := hR2.below hb
          have hB13 := hB12.below hb
          have hB23 := hB22.below hb
          have hL3 := hL2.below hb
          have hK3 := hK2.andBelow hb
          have l1 := hL3.lt
          clear hR2 hB12 hB22 hL2 hK2 hb g0 g1 g2 HB
          have c1 := hR3.c1
          have f1 := hR3.f1
          go_wp2_with fail
          generalize hw4 : w3.setCell ⟨r, 1, none⟩ (.int .i64 (↑k + 1)) = w4
          have hR4 := hR3.move (k + 1)
          have hB14 := hB13.other (p := ⟨r, 1, none⟩) (by simp; omega) (.int .i64 (↑k + 1))
          have hB24 := hB23.other (p := ⟨r, 1, none⟩) (by simp; omega) (.int .i64 (↑k + 1))
          have hL4 := hL3.other (p := ⟨r, 1, none⟩) (by simp; omega) (.int .i64 (↑k + 1))
          have hK4 := hK3.setCell (p := ⟨r, 1, none⟩) (fun _ => rfl) (.int .i64 (↑k + 1))
          rw [show ((k + 1 : Nat) : Int) = (k : Int) + 1 from rfl] at hR4
          rw [hw4] at hR4 hB14 hB24 hL4 hK4
          clear hw4 hR3 hB13 hB23 hL3 hK3 c1 f1 l1
          refine (Bld.string _ acc w4 hL4).mono ?_
          rintro e w5 ⟨rfl, hb5⟩
          have l2 := hL4.lt
          have hR5 := hR4.belowB hb5 (by omega) (by omega)
          have hB15 := hB14.belowB hb5 (by omega)
          have hB25 := hB24.belowB hb5 (by omega)
          have hK5 := hK4.belowB hb5 (by omega)
          clear hR4 hB14 hB24 hL4 hK4 hb5 l2
          have tc0 := hB15.cell 0 rfl
          have tc1 := hB15.cell 1 rfl
          have tc2 := hB15.cell 2 rfl
          have tc3 := hB15.cell 3 rfl
          have tc4 := hB15.cell 4 rfl
          have tf0 := hB15.free 0
          have tf1 := hB15.free 1
          have tf2 := hB15.free 2
          have tf3 := hB15.free 3
          have tf4 := hB15.free 4
          have uc0 := hB25.cell 0 rfl
          have uc1 := hB25.cell 1 rfl
          have uc2 := hB25.cell 2 rfl
          have uc3 := hB25.cell 3 rfl
          have uc4 := hB25.cell 4 rfl
          have uf0 := hB25.free 0
          have uf1 := hB25.free 1
          have uf2 := hB25.free 2
          have uf3 := hB25.free 3
          have uf4 := hB25.free 4
          go_wp2_with fail
          (try simp only [Exit.inBlock, Exit.then])
          refine bodyPost_ret (results_blk (p := 4) (u := 5) (g := w.heap.size + 1) (cs := [.int .i64 19, .int .i64 p, .int .i64 0, .string (bs acc), .bool false]) rfl _ _ _ rfl ?_ Tryd.underlying29 rfl (by kernel_rfl)) rfl (hgood.out acc (k + 1) _ HT.out.symm ?_ ?_)
          · apply Blk.as
            repeat (first | (with_reducible assumption) | ((with_reducible apply Blk.newAt); (focus (simp; done))) | (with_reducible apply Blk.set) | ((with_reducible apply Blk.other); (case hp => first | omega | (simp; omega) | simp)) | (with_reducible apply Blk.alloc) | (with_reducible apply Blk.drewN) | (with_reducible apply Blk.drew))
            rfl
          · repeat (first | (with_reducible assumption) | ((with_reducible refine Rdr.moveTo ?_ ?_); rotate_left; (focus go_num)) | (with_reducible exact RdrAny.of (by assumption)) | ((with_reducible refine RdrAny.other ?_ ?_ ?_ _); rotate_left; (focus (first | omega | (simp; omega) | simp)); (focus (first | omega | (simp; omega) | simp))) | (with_reducible refine RdrAny.move ?_ _) | (with_reducible refine RdrAny.alloc ?_ _) | ((with_reducible refine Rdr.other ?_ ?_ ?_ _); rotate_left; (focus (first | omega | (simp; omega) | simp)); (focus (first | omega | (simp; omega) | simp))) | (with_reducible refine Rdr.alloc ?_ _) | (with_reducible refine Rdr.drewN ?_ _) | (with_reducible refine Rdr.drew ?_))
          · repeat (first | (with_reducible assumption) | (with_reducible exact Kept.refl _ _) | ((with_reducible refine Kept.setCell ?_ ?_ _); rotate_left; (focus (first | exact fun _ => rfl | exact fun h => absurd h (by first | omega | (simp; omega) | simp)))) | (with_reducible refine Kept.alloc ?_ _) | (with_reducible refine Kept.drewN ?_ _) | (with_reducible refine Kept.drew ?_))
      · have d1 : (((bat s k).toNat : Int) == 39) = false := by rw [beq_eq_false_iff_ne]; omega
        have HT := Lib.hid ((deadAt_on s k acc hlt h39).symm.trans htg.out)
        clear h39
        go_wp2_with fail
        refine wp_region_quiet_below (by kernel_rfl) (by kernel_rfl) ?_
        repeat (go_big_quiet_step (fail))
        refine wpQuiet_nil ?_
        intro w3 hw'
        have hb : Below w2.heap.size w2 w3 := below_of_regrown hw'
        clear hw'
        have hR3 := hR2.below hb
        have hB13 := hB12.below hb
        have hB23 := hB22.below hb
        have hL3 := hL2.below hb
        have hK3 := hK2.andBelow hb
        clear hR2 hB12 hB22 hL2 hK2 hb
        go_wp2_with fail
        refine (Bld.writeByte _ acc (bat s k) w3 hL3 (by omega)).mono ?_
        rintro e w5 ⟨rfl, hL5, hb5⟩
        have l2 := hL3.lt
        have hR5 := hR3.belowB hb5 (by omega) (by omega)
        have hB15 := hB13.belowB hb5 (by omega)
        have hB25 := hB23.belowB hb5 (by omega)
        have hK5 := hK3.belowB hb5 (by omega)
        clear hR3 hB13 hB23 hL3 hK3 hb5 l2
        have c1 := hR5.c1
        have f1 := hR5.f1
        go_wp2_with fail
        go_roundg (s.size - (k + 1))
        case measure => omega
        case rel =>
          refine ⟨k + 1, acc ++ [bat s k], rfl, by omega, by simp; omega, ?_, ?_, ?_, ?_, ?_, HT⟩
          · repeat (first | (with_reducible assumption) | ((with_reducible refine Rdr.moveTo ?_ ?_); rotate_left; (focus go_num)) | (with_reducible exact RdrAny.of (by assumption)) | ((with_reducible refine RdrAny.other ?_ ?_ ?_ _); rotate_left; (focus (first | omega | (simp; omega) | simp)); (focus (first | omega | (simp; omega) | simp))) | (with_reducible refine RdrAny.move ?_ _) | (with_reducible refine RdrAny.alloc ?_ _) | ((with_reducible refine Rdr.other ?_ ?_ ?_ _); rotate_left; (focus (first | omega | (simp; omega) | simp)); (focus (first | omega | (simp; omega) | simp))) | (with_reducible refine Rdr.alloc ?_ _) | (with_reducible refine Rdr.drewN ?_ _) | (with_reducible refine Rdr.drew ?_))
          · apply Blk.as
            repeat (first | (with_reducible assumption) | ((with_reducible apply Blk.newAt); (focus (simp; done))) | (with_reducible apply Blk.set) | ((with_reducible apply Blk.other); (case hp => first | omega | (simp; omega) | simp)) | (with_reducible apply Blk.alloc) | (with_reducible apply Blk.drewN) | (with_reducible apply Blk.drew))
            rfl
          · apply Blk.as
            repeat (first | (with_reducible assumption) | ((with_reducible apply Blk.newAt); (focus (simp; done))) | (with_reducible apply Blk.set) | ((with_reducible apply Blk.other); (case hp => first | omega | (simp; omega) | simp)) | (with_reducible apply Blk.alloc) | (with_reducible apply Blk.drewN) | (with_reducible apply Blk.drew))
            rfl
          · repeat (first | (with_reducible assumption) | ((with_reducible refine Bld.other ?_ ?_ _); rotate_left; (focus (first | omega | (simp; omega) | simp))) | (with_reducible refine Bld.drew ?_))
          · repeat (first | (with_reducible assumption) | (with_reducible exact Kept.refl _ _) | ((with_reducible refine Kept.setCell ?_ ?_ _); rotate_left; (focus (first | exact fun _ => rfl | exact fun h => absurd h (by first | omega | (simp; omega) | simp)))) | (with_reducible refine Kept.alloc ?_ _) | (with_reducible refine Kept.drewN ?_ _) | (with_reducible refine Kept.drew ?_))
    · have HT := Lib.hid ((deadAt_end s k acc (by omega)).symm.trans htg.out)
      refine wp_region_quiet_below (by kernel_rfl) (by kernel_rfl) ?_
      repeat (go_big_quiet_step ((go_at_call 27; exact Calls.regrown_of (bByte_high s k _ hs (by omega)))))
      refine wpQuiet_nil ?_
      intro w2 hw'
      have hb : Below wr.heap.size wr w2 := below_of_regrown hw'
      clear hw'
      have hR2 := hR.below hb
      have hB12 := hB1.below hb
      have hB22 := hB2.below hb
      have hK2 := hK.andBelow hb
      clear hR hB1 hB2 hL hK hb g0 g1 g2
      have l1 := hB22.lt
      have l2 := hB12.lt
      have l3 := hR2.here.lt
      have hge := hK2.cell hev (fun e => hgr e)
      have tc0 := hB12.cell 0 rfl
      have tc1 := hB12.cell 1 rfl
      have tc2 := hB12.cell 2 rfl
      have tc3 := hB12.cell 3 rfl
      have tc4 := hB12.cell 4 rfl
      have tf0 := hB12.free 0
      have tf1 := hB12.free 1
      have tf2 := hB12.free 2
      have tf3 := hB12.free 3
      have tf4 := hB12.free 4
      have uc0 := hB22.cell 0 rfl
      have uc1 := hB22.cell 1 rfl
      have uc2 := hB22.cell 2 rfl
      have uc3 := hB22.cell 3 rfl
      have uc4 := hB22.cell 4 rfl
      have uf0 := hB22.free 0
      have uf1 := hB22.free 1
      have uf2 := hB22.free 2
      have uf3 := hB22.free 3
      have uf4 := hB22.free 4
      go_wp2_with (go_at_call 64; refine (xFault_any _ _ _ _).mono ?_; rintro e w6 ⟨rfl, rfl⟩)
      (try simp only [Exit.inBlock, Exit.then])
      refine bodyPost_ret (results_blk (p := 4) (u := 5) (g := w.heap.size + 1) (cs := [.int .i64 0, .int .i64 0, .int .i64 0, .string ⟨#[]⟩, .bool false]) rfl _ _ _ rfl ?_ Tryd.underlying29 rfl (by kernel_rfl)) rfl (hbad.out HT.out.symm w2.heap.size _ ?_ ?_)
      · apply Blk.as
        repeat (first | (with_reducible assumption) | ((with_reducible apply Blk.newAt); (focus (simp; done))) | (with_reducible apply Blk.set) | ((with_reducible apply Blk.other); (case hp => first | omega | (simp; omega) | simp)) | (with_reducible apply Blk.alloc) | (with_reducible apply Blk.drewN) | (with_reducible apply Blk.drew))
        rfl
      · apply Blk.as
        repeat (first | (with_reducible assumption) | ((with_reducible apply Blk.newAt); (focus (simp; done))) | (with_reducible apply Blk.set) | ((with_reducible apply Blk.other); (case hp => first | omega | (simp; omega) | simp)) | (with_reducible apply Blk.alloc) | (with_reducible apply Blk.drewN) | (with_reducible apply Blk.drew))
        rfl
      · repeat (first | (with_reducible assumption) | (with_reducible exact Kept.refl _ _) | ((with_reducible refine Kept.setCell ?_ ?_ _); rotate_left; (focus (first | exact fun _ => rfl | exact fun h => absurd h (by first | omega | (simp; omega) | simp)))) | (with_reducible refine Kept.alloc ?_ _) | (with_reducible refine Kept.drewN ?_ _) | (with_reducible refine Kept.drew ?_))

end Go.Proofs.YtdadgodjjfgmfaaDoor
