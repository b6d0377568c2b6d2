/- Lines and columns of a source: contracts, each over any world. -/
import Derived.Test.YtdadgodjjfgmfaaDoorText2
import Derived.Test.YtdadgodjjfgmfaaDoorShelf
namespace Go.Proofs.YtdadgodjjfgmfaaDoor
open Go Go.RowKit

/-- The column behind these bytes. -/
def colN (l : List UInt8) : Nat := (l.reverse.takeWhile (· != 10)).length + 1
def lineN (l : List UInt8) : Nat := Lib.countByte l 10 + 1

theorem colN_nl (l : List UInt8) : colN (l ++ [10]) = 1 := by simp [colN]
theorem colN_other (l : List UInt8) (c : UInt8) (h : c ≠ 10) : colN (l ++ [c]) = colN l + 1 := by simp [colN, h]
theorem lineN_nl (l : List UInt8) : lineN (l ++ [10]) = lineN l + 1 := by simp [lineN, Lib.countByte]
theorem lineN_other (l : List UInt8) (c : UInt8) (h : c ≠ 10) : lineN (l ++ [c]) = lineN l := by simp [lineN, Lib.countByte, List.count_append, List.count_singleton, h]
theorem colN_le (l : List UInt8) : colN l ≤ l.length + 1 := by
  unfold colN
  have := (List.takeWhile_prefix (l := l.reverse) (· != 10)).length_le
  simp at this
  omega
theorem lineN_le (l : List UInt8) : lineN l ≤ l.length + 1 := by
  unfold lineN Lib.countByte
  have := List.count_le_length (a := (10 : UInt8)) (l := l)
  omega

theorem lastIdx_col (s : ByteArray) (k : Nat) (hk : k ≤ s.size) : (k : Int) - Lib.lastIdx s 10 k = colN (s.data.toList.take k) := by
  induction k with
  | zero => rfl
  | succ k ih =>
    have ih := ih (by omega)
    have hlt : k < s.data.toList.length := by rw [size_eq]; omega
    have e : s.data[k]! = s.data.toList[k] := by
      have : k < s.data.size := by simpa using hlt
      rw [getElem!_pos s.data k this]; simp
    have ht : s.data.toList.take (k + 1) = s.data.toList.take k ++ [s.data.toList[k]] := by rw [List.take_append_getElem hlt]
    rw [ht]
    by_cases h10 : s.data.toList[k] = 10
    · rw [h10, colN_nl, Lib.lastIdx_hit _ _ _ (by rw [e, h10]; rfl)]
      omega
    · have : ((s.data[k]!).toNat : Int) ≠ 10 := fun h => h10 (by rw [e] at h; exact UInt8.toNat_inj.1 (by simpa using Int.ofNat.inj h))
      rw [colN_other _ _ h10, Lib.lastIdx_miss _ _ _ this]
      omega

theorem lastIdx_whole (s : ByteArray) : (s.size : Int) - Lib.lastIndexByte s 10 = colN s.data.toList := by
  have := lastIdx_col s s.size (Nat.le_refl _)
  rw [List.take_of_length_le (by rw [size_eq]; exact Nat.le_refl _)] at this
  exact this

theorem sPlace_core (q : Addr) (s r : ByteArray) (i : Nat) (w : World) (hs : s.size ≤ 1000000) (hi : i ≤ s.size) (hc : w.cell? q = some (.string s)) (HR : Hid (bs (subs s.data.toList 0 i) = r))
   (lx : Int) (hl1 : -1 ≤ lx) (hl2 : lx ≤ 1000000) (Hlx : Hid (Lib.lastIndexByte r 10 = lx)) (ln : Nat) (Hln : Hid (Lib.countByte r.data.toList 10 = ln)) (hln : ln ≤ 1000000) (hrs : r.size < 4611686018427387904) :
    Calls Tryd.prog 24 #[.pointer (some q), .int .i64 i] w fun e w' => e = .returned (.tuple #[.int .i64 (ln + 1 : Int), .int .i64 ((i : Int) - lx)]) ∧ Below w.heap.size w w' := by
  go_enter Tryd.func24, Tryd.ntmps24
  go_wp2_with (first
    | (go_at_call 35; refine (bLen_any _ _).mono ?_; rintro e w1 ⟨rfl, hb1⟩; have hc1 := bSome hb1 hc)
    | (go_at_call 26; refine (bSlice_any _ _ _ _ hs).mono ?_; rintro e w2 ⟨rfl, hb2⟩; rw [HR.out])
    | (go_at_call 52; refine (Tryd.strings_Count_one _ _ _).mono ?_; rintro e w3 ⟨rfl, rfl⟩; rw [Hln.out])
    | (go_at_call 53; refine (Tryd.strings_LastIndex_one _ _ rfl hrs _).mono ?_; rintro e w3 ⟨rfl, rfl⟩; have e10 : Lib.lastIndexByte r (((⟨#[10]⟩ : ByteArray)[0]'(by decide)).toNat : Int) = lx := Hlx.out; rw [e10]))
  go_ret2
  exact ⟨rfl, bNext hb1 hb2⟩

/-- (*text.Source).Place, in the source. -/
theorem sPlace_in (q : Addr) (s : ByteArray) (i : Nat) (w : World) (hs : s.size ≤ 1000000) (hi : i ≤ s.size) (hc : w.cell? q = some (.string s)) :
    Calls Tryd.prog 24 #[.pointer (some q), .int .i64 i] w fun e w' => e = .returned (.tuple #[.int .i64 (lineN (s.data.toList.take i)), .int .i64 (colN (s.data.toList.take i))]) ∧ Below w.heap.size w w' := by
  have e1 : subs s.data.toList 0 i = s.data.toList.take i := by simp [subs]
  have hsz : (bs (subs s.data.toList 0 i)).size = i := by
    rw [bs_size, e1, List.length_take, size_eq]
    omega
  have hcol := lastIdx_whole (bs (subs s.data.toList 0 i))
  rw [hsz, bs_list, e1] at hcol
  have hc1 := colN_le (s.data.toList.take i)
  rw [List.length_take, size_eq] at hc1
  have hc2 : 1 ≤ colN (s.data.toList.take i) := by unfold colN; omega
  have hl := lineN_le (s.data.toList.take i)
  rw [List.length_take, size_eq] at hl
  unfold lineN at hl ⊢
  rw [e1] at hsz
  refine (sPlace_core q s _ i w hs hi hc (Lib.hid rfl) _ ?_ ?_ (Lib.hid rfl) (Lib.countByte (s.data.toList.take i) 10) (Lib.hid (by rw [bs_list, e1])) (by omega) (by rw [e1, hsz]; omega)).mono ?_
  · rw [e1]; omega
  · rw [e1]; omega
  · rintro e w' ⟨rfl, hb⟩
    rw [e1, hcol]
    exact ⟨rfl, hb⟩

/-- Elsewhere. -/
theorem sPlace_low (q : Addr) (s : ByteArray) (i : Int) (w : World) (hs : s.size ≤ 1000000) (hi : i < 0) (hc : w.cell? q = some (.string s)) :
    Calls Tryd.prog 24 #[.pointer (some q), .int .i64 i] w fun e w' => e = .returned (.tuple #[.int .i64 0, .int .i64 0]) ∧ Below w.heap.size w w' := by
  go_enter Tryd.func24, Tryd.ntmps24
  go_wp2
  go_ret2
  exact ⟨rfl, Below.refl _ _⟩
theorem sPlace_high (q : Addr) (s : ByteArray) (i : Int) (w : World) (hs : s.size ≤ 1000000) (hi : s.size < i) (hc : w.cell? q = some (.string s)) :
    Calls Tryd.prog 24 #[.pointer (some q), .int .i64 i] w fun e w' => e = .returned (.tuple #[.int .i64 0, .int .i64 0]) ∧ Below w.heap.size w w' := by
  have h0 : 0 ≤ i := by omega
  go_enter Tryd.func24, Tryd.ntmps24
  go_wp2_with (first
    | (go_at_call 35; refine (bLen_any _ _).mono ?_; rintro e w1 ⟨rfl, hb1⟩; have hc1 := bSome hb1 hc))
  go_ret2
  exact ⟨rfl, hb1⟩

/-- (*text.Source).Lines. -/
theorem sLines_any (q : Addr) (s : ByteArray) (w : World) (hs : s.size ≤ 1000000) (hc : w.cell? q = some (.string s)) :
    Calls Tryd.prog 25 #[.pointer (some q)] w fun e w' => e = .returned (.int .i64 (lineN s.data.toList)) ∧ Below w.heap.size w w' := by
  have hl := lineN_le s.data.toList
  rw [size_eq] at hl
  unfold lineN at hl ⊢
  generalize hn : Lib.countByte s.data.toList 10 = ln at hl
  have HN := Lib.hid hn
  clear hn
  go_enter Tryd.func25, Tryd.ntmps25
  go_wp2_with (first
    | (go_at_call 52; refine (Tryd.strings_Count_one _ _ _).mono ?_; rintro e w3 ⟨rfl, rfl⟩; rw [HN.out]))
  go_ret
  exact ⟨rfl, Below.refl _ _⟩

end Go.Proofs.YtdadgodjjfgmfaaDoor
