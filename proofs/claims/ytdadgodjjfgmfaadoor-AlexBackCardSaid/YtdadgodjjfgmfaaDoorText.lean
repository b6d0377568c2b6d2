/- What the functions of package text return: contracts, each over any world. -/
import Derived.Test.YtdadgodjjfgmfaaDoorProg
import Derived.Test.YtdadgodjjfgmfaaDoorShelf
import Derived.Test.YtdadgodjjfgmfaaDoorKit
import Derived.Test.YtdadgodjjfgmfaaDoorPure
namespace Go.Proofs.YtdadgodjjfgmfaaDoor
open Go Go.RowKit

theorem bLen_any (s : ByteArray) (w : World) :
    Calls Tryd.prog 35 #[.agg #[.string s]] w fun e w' => e = .returned (.int .i64 s.size) ∧ Below w.heap.size w w' := by
  go_enter Tryd.func35, Tryd.ntmps35
  go_wp2
  go_ret
  exact ⟨rfl, (Below.refl _ _).alloc (Nat.le_refl _) _⟩

theorem bByte_in0 (s : ByteArray) (i : Nat) (w : World) (_hs : s.size ≤ 1000000) (hi : i < s.size) :
    Calls Tryd.prog 27 #[.agg #[.string s], .int .i64 i] w fun e w' => e = .returned (.tuple #[.int .u8 s[i].toNat, .bool true]) ∧ Below w.heap.size w w' := by
  go_enter Tryd.func27, Tryd.ntmps27
  go_wp2
  go_ret2
  exact ⟨rfl, (Below.refl _ _).alloc (Nat.le_refl _) _⟩

/-- A byte that is there. -/
theorem bByte_in (s : ByteArray) (i : Nat) (w : World) (hs : s.size ≤ 1000000) (hi : i < s.size) :
    Calls Tryd.prog 27 #[.agg #[.string s], .int .i64 i] w fun e w' => e = .returned (.tuple #[.int .u8 (bat s i).toNat, .bool true]) ∧ Below w.heap.size w w' := by
  rw [← getElem_bat s i hi]
  exact bByte_in0 s i w hs hi

/-- A place below 0. -/
theorem bByte_low (s : ByteArray) (i : Int) (w : World) (_hs : s.size ≤ 1000000) (_hi : i < 0) :
    Calls Tryd.prog 27 #[.agg #[.string s], .int .i64 i] w fun e w' => e = .returned (.tuple #[.int .u8 0, .bool false]) ∧ Below w.heap.size w w' := by
  go_enter Tryd.func27, Tryd.ntmps27
  go_wp2
  go_ret2
  exact ⟨rfl, (Below.refl _ _).alloc (Nat.le_refl _) _⟩

/-- A place behind the end. -/
theorem bByte_high (s : ByteArray) (i : Int) (w : World) (_hs : s.size ≤ 1000000) (_hi : s.size ≤ i) :
    Calls Tryd.prog 27 #[.agg #[.string s], .int .i64 i] w fun e w' => e = .returned (.tuple #[.int .u8 0, .bool false]) ∧ Below w.heap.size w w' := by
  have _h0 : 0 ≤ i := by omega
  go_enter Tryd.func27, Tryd.ntmps27
  go_wp2
  go_ret2
  exact ⟨rfl, (Below.refl _ _).alloc (Nat.le_refl _) _⟩

theorem bSlice_core (s : ByteArray) (i j : Int) (a b : Nat) (w : World) (_hs : s.size ≤ 1000000) (_h1 : a ≤ s.size) (_h2 : b ≤ s.size) (r : ByteArray) (hr1 : b ≤ a → r = ⟨#[]⟩) (hr2 : a < b → r = s.extract a b)
    (E1 : Hid (min (max i 0) (s.size : Int) = (a : Int)))
    (E2 : Hid (min (max j 0) (s.size : Int) = (b : Int))) :
    Calls Tryd.prog 26 #[.agg #[.string s], .int .i64 i, .int .i64 j] w fun e w' => e = .returned (.string r) ∧ Below w.heap.size w w' := by
  by_cases hab : b ≤ a
  · obtain rfl := hr1 hab
    clear hr1 hr2
    go_enter Tryd.func26, Tryd.ntmps26
    go_wp2
    go_quiet (fail)
    rw [E1.out, E2.out]
    go_wp2
    all_goals go_ret
    all_goals exact ⟨rfl, bDrewN ((Below.refl _ _).alloc (Nat.le_refl _) _) _⟩
  · have hab' : a < b := by omega
    obtain rfl := hr2 hab'
    clear hr1 hr2
    go_enter Tryd.func26, Tryd.ntmps26
    go_wp2
    go_quiet (fail)
    rw [E1.out, E2.out]
    go_wp2
    all_goals go_ret
    all_goals exact ⟨rfl, bDrewN ((Below.refl _ _).alloc (Nat.le_refl _) _) _⟩

/-- The bytes from a place up to another one, whatever the places. -/
theorem bSlice_any (s : ByteArray) (i j : Int) (w : World) (hs : s.size ≤ 1000000) :
    Calls Tryd.prog 26 #[.agg #[.string s], .int .i64 i, .int .i64 j] w fun e w' => e = .returned (.string (bs (subs s.data.toList i j))) ∧ Below w.heap.size w w' := by
  have hsz := size_eq s
  have E : ∀ k : Int, min (max k 0) (s.size : Int) = ((min k.toNat s.size : Nat) : Int) := fun k => by omega
  refine bSlice_core s i j (min i.toNat s.size) (min j.toNat s.size) w hs (Nat.min_le_right _ _) (Nat.min_le_right _ _) _ (fun h => ?_) (fun h => ?_) (Lib.hid (E i)) (Lib.hid (E j))
  · have e : subs s.data.toList i j = [] := by
      unfold subs
      apply List.drop_eq_nil_of_le
      rw [List.length_take]
      omega
    rw [e]
    rfl
  · rw [extract_bs]
    congr 1
    unfold subs
    rw [show min i.toNat s.size = i.toNat from by omega]
    congr 1
    by_cases hj : j.toNat ≤ s.size
    · rw [Nat.min_eq_left hj]
    · rw [Nat.min_eq_right (by omega), List.take_of_length_le (by omega), List.take_of_length_le (by omega)]

theorem bHas_core (s t : ByteArray) (i : Nat) (w : World) (_hs : s.size ≤ 1000000) (_hi : i ≤ s.size) :
    Calls Tryd.prog 28 #[.agg #[.string s], .int .i64 i, .string t] w fun e w' => e = .returned (.bool (Lib.hasPrefix (List.take (s.size - i) (List.drop i s.data.toList)) t.data.toList)) ∧ Below w.heap.size w w' := by
  go_enter Tryd.func28, Tryd.ntmps28
  go_wp2_with (go_at_call 54; refine (Tryd.strings_HasPrefix _ _ _).mono ?_; rintro e w' ⟨rfl, rfl⟩)
  go_ret
  exact ⟨rfl, (Below.refl _ _).alloc (Nat.le_refl _) _⟩

/-- Whether a text stands at a place of the source. -/
theorem bHas_in (s t : ByteArray) (i : Nat) (w : World) (hs : s.size ≤ 1000000) (hi : i ≤ s.size) :
    Calls Tryd.prog 28 #[.agg #[.string s], .int .i64 i, .string t] w fun e w' => e = .returned (.bool (Lib.hasPrefix (s.data.toList.drop i) t.data.toList)) ∧ Below w.heap.size w w' := by
  have e : List.take (s.size - i) (List.drop i s.data.toList) = s.data.toList.drop i := by
    apply List.take_of_length_le
    rw [List.length_drop, size_eq]
    exact Nat.le_refl _
  have h := bHas_core s t i w hs hi
  rw [e] at h
  exact h

theorem ret_bool {a b : Bool} (h : a = b) : Ending.returned (.bool a) = .returned (.bool b) := by rw [h]
theorem tBegins_any (c : UInt8) (w : World) :
    Calls Tryd.prog 50 #[.int .u8 c.toNat] w fun e w' => e = .returned (.bool (isBegin c)) ∧ w = w' := by
  have H := Lib.hid (or32 c)
  go_enter Tryd.func50, Tryd.ntmps50
  go_wp2
  all_goals go_ret
  · exact ⟨ret_bool (by rw [isBegin, ← H.out, Bool.eq_iff_iff]; simp only [Bool.or_eq_true, Bool.and_eq_true, decide_eq_true_eq, beq_iff_eq, Bool.false_eq_true, eq_self, true_iff, false_iff]; omega), rfl⟩
  · exact ⟨ret_bool (by rw [isBegin, ← H.out, Bool.eq_iff_iff]; simp only [Bool.or_eq_true, Bool.and_eq_true, decide_eq_true_eq, beq_iff_eq, Bool.false_eq_true, eq_self, true_iff, false_iff]; omega), rfl⟩
  · exact ⟨ret_bool (by rw [isBegin, ← H.out, Bool.eq_iff_iff]; simp only [Bool.or_eq_true, Bool.and_eq_true, decide_eq_true_eq, beq_iff_eq, Bool.false_eq_true, eq_self, true_iff, false_iff]; omega), rfl⟩
theorem tGoesOn_any (c : UInt8) (w : World) :
    Calls Tryd.prog 51 #[.int .u8 c.toNat] w fun e w' => e = .returned (.bool (isGo c)) ∧ w = w' := by
  by_cases hb : isBegin c = true
  · have HB := Lib.hid hb
    go_enter Tryd.func51, Tryd.ntmps51
    go_wp2_with (go_at_call 50; refine (tBegins_any c _).mono ?_; rintro e w' ⟨rfl, rfl⟩; rw [HB.out])
    go_ret
    exact ⟨ret_bool (by simp [isGo, HB.out]), rfl⟩
  · have hb' : isBegin c = false := by simpa using hb
    clear hb
    have HB := Lib.hid hb'
    clear hb'
    go_enter Tryd.func51, Tryd.ntmps51
    go_wp2_with (go_at_call 50; refine (tBegins_any c _).mono ?_; rintro e w' ⟨rfl, rfl⟩; rw [HB.out])
    all_goals go_ret
    all_goals exact ⟨ret_bool (by rw [isGo, HB.out, isDigit, Bool.eq_iff_iff]; simp only [Bool.false_or, Bool.and_eq_true, decide_eq_true_eq, Bool.false_eq_true, eq_self, true_iff, false_iff]; omega), rfl⟩

theorem nameB_cons (s : ByteArray) (h0 : 0 < s.size) (h20 : s.size ≤ 20) : nameB s.data.toList = (isBegin (bat s 0) && s.data.toList.all isGo) := by
  have h := drop_bat s 0 h0
  rw [List.drop_zero] at h
  have hl := size_eq s
  rw [h] at hl ⊢
  simp only [List.length_cons] at hl
  rw [nameB]
  rw [show decide ((s.data.toList.drop (0 + 1)).length < 20) = true from by simp only [decide_eq_true_eq]; omega, Bool.true_and]
theorem nameB_long (s : ByteArray) (h : 20 < s.size) : nameB s.data.toList = false := by
  have h0 := drop_bat s 0 (by omega)
  rw [List.drop_zero] at h0
  have hl := size_eq s
  rw [h0] at hl ⊢
  simp only [List.length_cons] at hl
  rw [nameB]
  rw [show decide ((s.data.toList.drop (0 + 1)).length < 20) = false from by simp only [decide_eq_false_iff_not]; omega, Bool.false_and, Bool.false_and]
theorem all_take_succ (s : ByteArray) (k : Nat) (h : k < s.size) : (s.data.toList.take (k + 1)).all isGo = ((s.data.toList.take k).all isGo && isGo (bat s k)) := by
  have h1 : k < s.data.toList.length := by rw [size_eq]; exact h
  rw [List.take_succ_eq_append_getElem h1, List.all_append, List.all_cons, List.all_nil, Bool.and_true]
  congr 2
  have h2 : k < s.data.size := h
  simp [bat, List.getD, Array.getElem?_eq_getElem h2]
theorem all_false (s : ByteArray) (k : Nat) (h : k < s.size) (hb : isGo (bat s k) = false) : s.data.toList.all isGo = false := by
  rw [← List.take_append_drop k s.data.toList, List.all_append, drop_bat s k h, List.all_cons, hb, Bool.false_and, Bool.and_false]
theorem empty_of_size (s : ByteArray) (h : s.size = 0) : s = ⟨#[]⟩ := by
  rw [← bs_of s, List.eq_nil_of_length_eq_zero ((size_eq s).trans h)]
  rfl
theorem ne_empty (s : ByteArray) (h : 0 < s.size) : (¬ s.toList = []) ∧ s.toList.isEmpty = false := by
  have h1 : s.toList ≠ [] := by
    rw [Lib.toList_data]
    intro e
    have := size_eq s
    rw [e] at this
    simp at this
    omega
  exact ⟨h1, by simpa using h1⟩
theorem tName_empty (w : World) :
    Calls Tryd.prog 22 #[.string ⟨#[]⟩] w fun e w' => e = .returned (.bool false) ∧ w = w' := by
  go_enter Tryd.func22, Tryd.ntmps22
  go_wp2
  go_ret
  exact ⟨rfl, rfl⟩
theorem tName_long (s : ByteArray) (w : World) (h : 20 < s.size) (hs : s.size ≤ 1000000) :
    Calls Tryd.prog 22 #[.string s] w fun e w' => e = .returned (.bool false) ∧ w = w' := by
  obtain ⟨hn, hm⟩ := ne_empty s (by omega)
  go_enter Tryd.func22, Tryd.ntmps22
  go_wp2
  go_ret
  exact ⟨rfl, rfl⟩
theorem tName_first (s : ByteArray) (w : World) (h0 : 0 < s.size) (h20 : s.size ≤ 20) (hb : Hid (isBegin (bat s 0) = false)) :
    Calls Tryd.prog 22 #[.string s] w fun e w' => e = .returned (.bool false) ∧ w = w' := by
  obtain ⟨hn, hm⟩ := ne_empty s h0
  have HB : Hid (isBegin s[0] = false) := Lib.hid (by rw [getElem_bat]; exact hb.out)
  go_enter Tryd.func22, Tryd.ntmps22
  go_wp2_with (go_at_call 50; refine (tBegins_any _ _).mono ?_; rintro e w' ⟨rfl, rfl⟩; rw [HB.out])
  go_ret
  exact ⟨rfl, rfl⟩
theorem tName_loop (s : ByteArray) (w : World) (h0 : 0 < s.size) (h20 : s.size ≤ 20) (hb : Hid (isBegin (bat s 0) = true)) (b : Bool) (hB : Hid (s.data.toList.all isGo = b)) :
    Calls Tryd.prog 22 #[.string s] w fun e w' => e = .returned (.bool b) ∧ w = w' := by
  obtain ⟨hn, hm⟩ := ne_empty s h0
  have HB : Hid (isBegin s[0] = true) := Lib.hid (by rw [getElem_bat]; exact hb.out)
  go_enter Tryd.func22, Tryd.ntmps22
  go_wp2_with (go_at_call 50; refine (tBegins_any _ _).mono ?_; rintro e w' ⟨rfl, rfl⟩; rw [HB.out])
  go_loop [19] (fun c => ∃ k : Nat, k ≤ s.size ∧ c = .int .i64 k ∧ Hid ((s.data.toList.take k).all isGo = true)) (fun c => s.size - (intOf c).toNat)
  case atStart => exact ⟨0, Nat.zero_le _, rfl, Lib.hid rfl⟩
  case round =>
    obtain ⟨k, hk, rfl, hall⟩ := hrel
    by_cases hlt : k < s.size
    · by_cases hg : isGo (bat s k) = true
      · have HG : Hid (isGo s[k] = true) := Lib.hid (by rw [getElem_bat]; exact hg)
        have hnext := Lib.hid ((all_take_succ s k hlt).trans (by rw [hall.out, hg]))
        clear hg
        go_wp2_with (go_at_call 51; refine (tGoesOn_any _ _).mono ?_; rintro e w' ⟨rfl, rfl⟩; rw [HG.out])
        go_round
        case rel => exact ⟨k + 1, by omega, by go_num, hnext⟩
        case measure => simp [intOf]; omega
      · have hg' : isGo (bat s k) = false := by simpa using hg
        have HF := Lib.hid (all_false s k hlt hg')
        have HG : Hid (isGo s[k] = false) := Lib.hid (by rw [getElem_bat]; exact hg')
        clear hg hg'
        go_wp2_with (go_at_call 51; refine (tGoesOn_any _ _).mono ?_; rintro e w' ⟨rfl, rfl⟩; rw [HG.out])
        go_ret
        exact ⟨ret_bool (HF.out.symm.trans hB.out), rfl⟩
    · have hall' : Hid (s.data.toList.all isGo = true) := Lib.hid (by
        have h := hall.out
        rwa [List.take_of_length_le (by rw [size_eq]; omega)] at h)
      go_wp2
      go_ret
      exact ⟨ret_bool (hall'.out.symm.trans hB.out), rfl⟩
/-- text.Name. -/
theorem tName_any (s : ByteArray) (w : World) (hs : s.size ≤ 1000000) :
    Calls Tryd.prog 22 #[.string s] w fun e w' => e = .returned (.bool (nameB s.data.toList)) ∧ w = w' := by
  by_cases h0 : s.size = 0
  · rw [empty_of_size s h0]
    exact tName_empty w
  · by_cases h20 : 20 < s.size
    · rw [nameB_long s h20]
      exact tName_long s w h20 hs
    · rw [nameB_cons s (by omega) (by omega)]
      cases hb : isBegin (bat s 0) with
      | false => exact tName_first s w (by omega) (by omega) (Lib.hid hb)
      | true => exact tName_loop s w (by omega) (by omega) (Lib.hid hb) _ (Lib.hid (Bool.true_and _).symm)

end Go.Proofs.YtdadgodjjfgmfaaDoor
