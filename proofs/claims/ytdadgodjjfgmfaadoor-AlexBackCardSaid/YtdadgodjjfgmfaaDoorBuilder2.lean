/- strings.Builder once more: what is written leaves all blocks but the builder's own and those of bytes. -/
import Derived.Test.YtdadgodjjfgmfaaDoorBlexDead
import Derived.Lib.OwnKind
namespace Go.Proofs.YtdadgodjjfgmfaaDoor
open Go Go.RowKit

/-- The builder's block, or one of bytes. -/
def OfBytes (w : World) (B b k : Nat) : Prop := B ≤ k ∧ (k = b ∨ ∃ c fz, w.heap[k]? = some (.cells c 5 fz))

theorem sbCopyCheck_kept (B b : Nat) (l : List Value) (w : World) (h : Lib.IsBuilder 90 5 B b l w) :
    Calls Tryd.prog 83 #[.pointer (some ⟨b, 0, none⟩)] w fun e w' => e = .returned (.tuple #[]) ∧ (Lib.BuilderAt 90 5 B b (.pointer (some ⟨b, 0, none⟩)) l w' ∧ Kept (At b) w w') := by
  rcases h with h | h
  · refine (sbCopyCheck_fresh b w h.cell0 h.shape h.frozen0).mono ?_
    rintro e w' ⟨rfl, rfl⟩
    exact ⟨rfl, h.used _, (Kept.refl (At b) w).setCell (p := ⟨b, 0, none⟩) (fun _ => rfl) _⟩
  · refine (sbCopyCheck_used b w h.cell0).mono ?_
    rintro e w' ⟨rfl, rfl⟩
    exact ⟨rfl, h, Kept.refl _ _⟩

theorem row_bytes {w w1 : World} {b B n : Nat} {v : Value} {xs : List Value} (hK : Kept (At b) w w1) (hown : w1.ownsRow B 5 1 v n xs) (hne : v.ownBlock ≠ some b) : ∀ k, v.ownBlock = some k → k < w.heap.size → OfBytes w B b k := by
  intro k hk hlt
  obtain ⟨c, fz, e⟩ := Lib.ownsRow_kind hown k hk
  refine ⟨(hown.lt k hk).1, .inr ⟨c, fz, ?_⟩⟩
  rw [← hK.block k hlt (fun e => hne (by rw [hk]; exact congrArg some e))]
  exact e

set_option maxHeartbeats 2000000 in
set_option maxRecDepth 100000 in
/-- A byte written to a builder. -/
theorem sbWriteByte_kept (B b : Nat) (l : List Value) (c : Int) (w : World) (h : Lib.IsBuilder 90 5 B b l w) (hlen : l.length + 1 ≤ 140737488355328) (hBw : B ≤ w.heap.size) :
    Calls Tryd.prog 57 #[.pointer (some ⟨b, 0, none⟩), .int .u8 c] w fun e w' => e = .returned .nilIface ∧ (Lib.BuilderAt 90 5 B b (.pointer (some ⟨b, 0, none⟩)) (l ++ [.int .u8 c]) w' ∧ Kept (OfBytes w B b) w w') := by
  obtain ⟨i0, hi, hz0, hz1, hz2⟩ := info_parts infoByte
  go_enter Tryd.func57, Tryd.ntmps57
  go_wp2_with (go_at_call 83; refine (sbCopyCheck_kept B b l _ h).mono ?_)
  rintro e w1 ⟨rfl, h1, hb1⟩
  obtain ⟨hB, v, hbk, hown, hne⟩ := h1
  have c0 : w1.cell? ⟨b, 0, none⟩ = some (.pointer (some ⟨b, 0, none⟩)) := by rw [Lib.cell_of_heap hbk]; rfl
  have c1 : w1.cell? ⟨b, 1, none⟩ = some v := by rw [Lib.cell_of_heap hbk]; rfl
  go_wp2_with (at_builtin; refine wpList_append_own _ rfl _ _ 51 rfl B 5 i0 (.int .u8 0) 1 1 Tryd.underlying51 hi hz0 hz1 hz2 rfl (by decide) _ _ _ rfl (hown.alloc _) ⟨w1.heap.size, 0, none⟩ 1 1 [.int .u8 c] rfl rfl ?c1 ?c2 ?c3 ?c4 ?c5 ?_)
  case c1 =>
    intro j u hj
    match j, hj with
    | 0, hj => simp at hj; subst hj; simp [Addr.add]
  case c2 => intro u hu; simp at hu; subst hu; rfl
  case c3 => unfold maxLen; omega
  case c4 => omega
  case c5 => have := hb1.size; simp; omega
  intro v' w2 hown' hgrow _
  have hlt : b < w1.heap.size := lt_of_block hbk
  have hb2 : w2.heap[b]? = some (.cells #[.pointer (some ⟨b, 0, none⟩), v] 90 (0, 0)) := by
    rw [hgrow.block b (by simp; omega) (fun e => hne e.symm), Lib.alloc_old w1 _ b hlt]
    exact hbk
  have d0 : w2.cell? ⟨b, 0, none⟩ = some (.pointer (some ⟨b, 0, none⟩)) := by rw [Lib.cell_of_heap hb2]; rfl
  have d1 : w2.cell? ⟨b, 1, none⟩ = some v := by rw [Lib.cell_of_heap hb2]; rfl
  have f1 : w2.frozen? ⟨b, 1, none⟩ = false := Lib.frozen_of_heap hb2 1
  obtain ⟨g, cap, rfl⟩ : ∃ g cap, v' = .slice (some ⟨g, 0, none⟩) (l.length + 1) cap := by
    rcases hown'.2 with ⟨_, h0⟩ | ⟨g, cap, cur, hv, _⟩
    · omega
    · exact ⟨g, cap, hv⟩
  go_wp2
  go_ret
  refine ⟨rfl, ?_, ?_⟩
  · exact Lib.BuilderAt.put (T := 90) (e := 5) hB hb2 (bs' := l ++ [.int .u8 c]) (by simpa using hown') (by decide)
  · exact (((hb1.mono fun k _ e => ⟨by unfold At at e; omega, .inl e⟩).alloc _).grown hgrow (fun k hk hl => row_bytes hb1 hown hne k hk hl)).setCell (p := ⟨b, 1, none⟩) (fun _ => ⟨hB, .inl rfl⟩) _

set_option maxHeartbeats 2000000 in
set_option maxRecDepth 100000 in
/-- A text written to a builder. -/
theorem sbWriteString_kept (B b : Nat) (l : List Value) (s : ByteArray) (w : World) (h : Lib.IsBuilder 90 5 B b l w) (hlen : l.length + s.size ≤ 140737488355328) (hBw : B ≤ w.heap.size) :
    Calls Tryd.prog 58 #[.pointer (some ⟨b, 0, none⟩), .string s] w fun e w' => e = .returned (.tuple #[.int .i64 s.size, .nilIface]) ∧ (Lib.BuilderAt 90 5 B b (.pointer (some ⟨b, 0, none⟩)) (l ++ Lib.strCells s) w' ∧ Kept (OfBytes w B b) w w') := by
  obtain ⟨i0, hi, hz0, hz1, hz2⟩ := info_parts infoByte
  go_enter Tryd.func58, Tryd.ntmps58
  go_wp2_with (go_at_call 83; refine (sbCopyCheck_kept B b l _ h).mono ?_)
  rintro e w1 ⟨rfl, h1, hb1⟩
  obtain ⟨hB, v, hbk, hown, hne⟩ := h1
  have c0 : w1.cell? ⟨b, 0, none⟩ = some (.pointer (some ⟨b, 0, none⟩)) := by rw [Lib.cell_of_heap hbk]; rfl
  have c1 : w1.cell? ⟨b, 1, none⟩ = some v := by rw [Lib.cell_of_heap hbk]; rfl
  go_wp2_with (at_builtin; refine Lib.wpList_append_own_string _ rfl _ _ 51 9 rfl B 5 i0 Tryd.underlying51 Tryd.underlying9 hi hz0 hz1 hz2 _ _ _ rfl hown s rfl ?c3 ?c4 ?c5 ?_)
  case c3 => unfold maxLen; omega
  case c4 => omega
  case c5 => have := hb1.size; omega
  intro v' w2 hown' hgrow _
  have hlt : b < w1.heap.size := lt_of_block hbk
  have hb2 : w2.heap[b]? = some (.cells #[.pointer (some ⟨b, 0, none⟩), v] 90 (0, 0)) := by
    rw [hgrow.block b hlt (fun e => hne e.symm)]
    exact hbk
  have d0 : w2.cell? ⟨b, 0, none⟩ = some (.pointer (some ⟨b, 0, none⟩)) := by rw [Lib.cell_of_heap hb2]; rfl
  have d1 : w2.cell? ⟨b, 1, none⟩ = some v := by rw [Lib.cell_of_heap hb2]; rfl
  have f1 : w2.frozen? ⟨b, 1, none⟩ = false := Lib.frozen_of_heap hb2 1
  obtain ⟨ao, n', cap, rfl⟩ : ∃ ao n' cap, v' = .slice ao n' cap := by
    rcases hown'.2 with ⟨hv, _⟩ | ⟨g, cap, cur, hv, _⟩
    · exact ⟨_, _, _, hv⟩
    · exact ⟨_, _, _, hv⟩
  go_wp2
  go_ret2
  refine ⟨rfl, ?_, ?_⟩
  · exact Lib.BuilderAt.put (T := 90) (e := 5) hB hb2 (bs' := l ++ Lib.strCells s) (by simpa [Lib.strCells_length] using hown') (by decide)
  · exact ((hb1.mono fun k _ e => ⟨by unfold At at e; omega, .inl e⟩).grown hgrow (fun k hk hl => row_bytes hb1 hown hne k hk hl)).setCell (p := ⟨b, 1, none⟩) (fun _ => ⟨hB, .inl rfl⟩) _

/-- A byte, a text, in the short words of Bld. -/
theorem Bld.writeByteK (b : Nat) (l : List UInt8) (c : UInt8) (w : World) (h : Bld w b l) (hlen : l.length ≤ 100000000) :
    Calls Tryd.prog 57 #[.pointer (some ⟨b, 0, none⟩), .int .u8 c.toNat] w fun e w' => e = .returned .nilIface ∧ Bld w' b (l ++ [c]) ∧ Kept (OfBytes w b b) w w' := by
  refine (sbWriteByte_kept b b (Lib.byteCells l) _ w h (by rw [Lib.byteCells_length]; omega) (Nat.le_of_lt h.lt)).mono ?_
  rintro e w' ⟨rfl, h1, h2⟩
  rw [byteCells_snoc] at h1
  exact ⟨rfl, .inr h1, h2⟩
theorem Bld.writeStringK (b : Nat) (l : List UInt8) (s : ByteArray) (w : World) (h : Bld w b l) (hlen : l.length + s.size ≤ 100000000) :
    Calls Tryd.prog 58 #[.pointer (some ⟨b, 0, none⟩), .string s] w fun e w' => e = .returned (.tuple #[.int .i64 s.size, .nilIface]) ∧ Bld w' b (l ++ s.data.toList) ∧ Kept (OfBytes w b b) w w' := by
  refine (sbWriteString_kept b b (Lib.byteCells l) s w h (by rw [Lib.byteCells_length]; omega) (Nat.le_of_lt h.lt)).mono ?_
  rintro e w' ⟨rfl, h1, h2⟩
  rw [show Lib.byteCells l ++ Lib.strCells s = Lib.byteCells (l ++ s.data.toList) from by simp [Lib.byteCells, Lib.strCells]] at h1
  exact ⟨rfl, .inr h1, h2⟩

end Go.Proofs.YtdadgodjjfgmfaaDoor
