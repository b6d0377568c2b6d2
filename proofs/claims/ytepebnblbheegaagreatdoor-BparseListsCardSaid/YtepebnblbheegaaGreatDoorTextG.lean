/- What the functions of package text return: contracts, each over any world. -/
import Derived.Test.YtepebnblbheegaaGreatDoorProg
import Derived.Test.YtepebnblbheegaaGreatDoorShelf
import Derived.Test.YtepebnblbheegaaGreatDoorKit
import Derived.Test.YtepebnblbheegaaGreatDoorPureG
namespace Go.Proofs.YtepebnblbheegaaGreatDoor
open Go Go.RowKit

theorem bLen_any (s : ByteArray) (w : World) :
    Calls Tryz.prog 198 #[.agg #[.string s]] w fun e w' => e = .returned (.int .i64 s.size) ∧ Below w.heap.size w w' := by
  go_enter Tryz.func198, Tryz.ntmps198
  go_wp2
  go_ret
  exact ⟨rfl, (Below.refl _ _).alloc (Nat.le_refl _) _⟩

theorem bByte_in0 (s : ByteArray) (i : Nat) (w : World) (_hs : s.size ≤ 1000000) (hi : i < s.size) :
    Calls Tryz.prog 107 #[.agg #[.string s], .int .i64 i] w fun e w' => e = .returned (.tuple #[.int .u8 s[i].toNat, .bool true]) ∧ Below w.heap.size w w' := by
  go_enter Tryz.func107, Tryz.ntmps107
  go_wp2
  go_ret2
  exact ⟨rfl, (Below.refl _ _).alloc (Nat.le_refl _) _⟩

/-- A byte that is there. -/
theorem bByte_in (s : ByteArray) (i : Nat) (w : World) (hs : s.size ≤ 1000000) (hi : i < s.size) :
    Calls Tryz.prog 107 #[.agg #[.string s], .int .i64 i] w fun e w' => e = .returned (.tuple #[.int .u8 (bat s i).toNat, .bool true]) ∧ Below w.heap.size w w' := by
  rw [← getElem_bat s i hi]
  exact bByte_in0 s i w hs hi

/-- A place below 0. -/
theorem bByte_low (s : ByteArray) (i : Int) (w : World) (_hs : s.size ≤ 1000000) (_hi : i < 0) :
    Calls Tryz.prog 107 #[.agg #[.string s], .int .i64 i] w fun e w' => e = .returned (.tuple #[.int .u8 0, .bool false]) ∧ Below w.heap.size w w' := by
  go_enter Tryz.func107, Tryz.ntmps107
  go_wp2
  go_ret2
  exact ⟨rfl, (Below.refl _ _).alloc (Nat.le_refl _) _⟩

/-- A place behind the end. -/
theorem bByte_high (s : ByteArray) (i : Int) (w : World) (_hs : s.size ≤ 1000000) (_hi : s.size ≤ i) :
    Calls Tryz.prog 107 #[.agg #[.string s], .int .i64 i] w fun e w' => e = .returned (.tuple #[.int .u8 0, .bool false]) ∧ Below w.heap.size w w' := by
  have _h0 : 0 ≤ i := by omega
  go_enter Tryz.func107, Tryz.ntmps107
  go_wp2
  go_ret2
  exact ⟨rfl, (Below.refl _ _).alloc (Nat.le_refl _) _⟩

theorem bSlice_core (s : ByteArray) (i j : Int) (a b : Nat) (w : World) (_hs : s.size ≤ 1000000) (_h1 : a ≤ s.size) (_h2 : b ≤ s.size) (r : ByteArray) (hr1 : b ≤ a → r = ⟨#[]⟩) (hr2 : a < b → r = s.extract a b)
    (E1 : Hid (min (max i 0) (s.size : Int) = (a : Int)))
    (E2 : Hid (min (max j 0) (s.size : Int) = (b : Int))) :
    Calls Tryz.prog 114 #[.agg #[.string s], .int .i64 i, .int .i64 j] w fun e w' => e = .returned (.string r) ∧ Below w.heap.size w w' := by
  by_cases hab : b ≤ a
  · obtain rfl := hr1 hab
    clear hr1 hr2
    go_enter Tryz.func114, Tryz.ntmps114
    go_wp2
    go_quiet (fail)
    rw [E1.out, E2.out]
    go_wp2
    all_goals go_ret
    all_goals exact ⟨rfl, bDrewN ((Below.refl _ _).alloc (Nat.le_refl _) _) _⟩
  · have hab' : a < b := by omega
    obtain rfl := hr2 hab'
    clear hr1 hr2
    go_enter Tryz.func114, Tryz.ntmps114
    go_wp2
    go_quiet (fail)
    rw [E1.out, E2.out]
    go_wp2
    all_goals go_ret
    all_goals exact ⟨rfl, bDrewN ((Below.refl _ _).alloc (Nat.le_refl _) _) _⟩

/-- The bytes from a place up to another one, whatever the places. -/
theorem bSlice_any (s : ByteArray) (i j : Int) (w : World) (hs : s.size ≤ 1000000) :
    Calls Tryz.prog 114 #[.agg #[.string s], .int .i64 i, .int .i64 j] w fun e w' => e = .returned (.string (bs (subs s.data.toList i j))) ∧ Below w.heap.size w w' := by
  have hsz := size_eq s
  have E : ∀ k : Int, min (max k 0) (s.size : Int) = ((min k.toNat s.size : Nat) : Int) := fun k => by omega
  refine bSlice_core s i j (min i.toNat s.size) (min j.toNat s.size) w hs (Nat.min_le_right _ _) (Nat.min_le_right _ _) _ (fun h => ?_) (fun h => ?_) (Lib.hid (E i)) (Lib.hid (E j))
  · have e : subs s.data.toList i j = [] := by
      unfold subs
      apply List.drop_eq_nil_of_le
      rw [List.length_take]
      omega
    rw [e]
    rfl
  · rw [extract_bs]
    congr 1
    unfold subs
    rw [show min i.toNat s.size = i.toNat from by omega]
    congr 1
    by_cases hj : j.toNat ≤ s.size
    · rw [Nat.min_eq_left hj]
    · rw [Nat.min_eq_right (by omega), List.take_of_length_le (by omega), List.take_of_length_le (by omega)]

theorem bHas_core (s t : ByteArray) (i : Nat) (w : World) (_hs : s.size ≤ 1000000) (_hi : i ≤ s.size) :
    Calls Tryz.prog 109 #[.agg #[.string s], .int .i64 i, .string t] w fun e w' => e = .returned (.bool (Lib.hasPrefix (List.take (s.size - i) (List.drop i s.data.toList)) t.data.toList)) ∧ Below w.heap.size w w' := by
  go_enter Tryz.func109, Tryz.ntmps109
  go_wp2_with (go_at_call 144; refine (Tryz.strings_HasPrefix _ _ _).mono ?_; rintro e w' ⟨rfl, rfl⟩)
  go_ret
  exact ⟨rfl, (Below.refl _ _).alloc (Nat.le_refl _) _⟩

/-- Whether a text stands at a place of the source. -/
theorem bHas_in (s t : ByteArray) (i : Nat) (w : World) (hs : s.size ≤ 1000000) (hi : i ≤ s.size) :
    Calls Tryz.prog 109 #[.agg #[.string s], .int .i64 i, .string t] w fun e w' => e = .returned (.bool (Lib.hasPrefix (s.data.toList.drop i) t.data.toList)) ∧ Below w.heap.size w w' := by
  have e : List.take (s.size - i) (List.drop i s.data.toList) = s.data.toList.drop i := by
    apply List.take_of_length_le
    rw [List.length_drop, size_eq]
    exact Nat.le_refl _
  have h := bHas_core s t i w hs hi
  rw [e] at h
  exact h

theorem ret_bool {a b : Bool} (h : a = b) : Ending.returned (.bool a) = .returned (.bool b) := by rw [h]
theorem tBegins_any (c : UInt8) (w : World) :
    Calls Tryz.prog 166 #[.int .u8 c.toNat] w fun e w' => e = .returned (.bool (isBegin c)) ∧ w = w' := by
  have H := Lib.hid (or32 c)
  go_enter Tryz.func166, Tryz.ntmps166
  go_wp2
  all_goals go_ret
  · exact ⟨ret_bool (by rw [isBegin, ← H.out, Bool.eq_iff_iff]; simp only [Bool.or_eq_true, Bool.and_eq_true, decide_eq_true_eq, beq_iff_eq]; omega), rfl⟩
  · exact ⟨ret_bool (by rw [isBegin, ← H.out, Bool.eq_iff_iff]; simp only [Bool.or_eq_true, Bool.and_eq_true, decide_eq_true_eq, beq_iff_eq, eq_self, true_iff]; omega), rfl⟩
  · exact ⟨ret_bool (by rw [isBegin, ← H.out, Bool.eq_iff_iff]; simp only [Bool.or_eq_true, Bool.and_eq_true, decide_eq_true_eq, beq_iff_eq]; omega), rfl⟩
theorem tGoesOn_any (c : UInt8) (w : World) :
    Calls Tryz.prog 167 #[.int .u8 c.toNat] w fun e w' => e = .returned (.bool (isGo c)) ∧ w = w' := by
  by_cases hb : isBegin c = true
  · have HB := Lib.hid hb
    go_enter Tryz.func167, Tryz.ntmps167
    go_wp2_with (go_at_call 166; refine (tBegins_any c _).mono ?_; rintro e w' ⟨rfl, rfl⟩; rw [HB.out])
    go_ret
    exact ⟨ret_bool (by simp [isGo, HB.out]), rfl⟩
  · have hb' : isBegin c = false := by simpa using hb
    clear hb
    have HB := Lib.hid hb'
    clear hb'
    go_enter Tryz.func167, Tryz.ntmps167
    go_wp2_with (go_at_call 166; refine (tBegins_any c _).mono ?_; rintro e w' ⟨rfl, rfl⟩; rw [HB.out])
    all_goals go_ret
    all_goals exact ⟨ret_bool (by rw [isGo, HB.out, isDigit, Bool.eq_iff_iff]; simp only [Bool.false_or, Bool.and_eq_true, decide_eq_true_eq, Bool.false_eq_true, false_iff]; omega), rfl⟩

theorem nameB_cons (s : ByteArray) (h0 : 0 < s.size) (h20 : s.size ≤ 20) : nameB s.data.toList = (isBegin (bat s 0) && s.data.toList.all isGo) := by
  have h := drop_bat s 0 h0
  rw [List.drop_zero] at h
  have hl := size_eq s
  rw [h] at hl ⊢
  simp only [List.length_cons] at hl
  rw [nameB]
  rw [show decide ((s.data.toList.drop (0 + 1)).length < 20) = true from by simp only [decide_eq_true_eq]; omega, Bool.true_and]
theorem nameB_long (s : ByteArray) (h : 20 < s.size) : nameB s.data.toList = false := by
  have h0 := drop_bat s 0 (by omega)
  rw [List.drop_zero] at h0
  have hl := size_eq s
  rw [h0] at hl ⊢
  simp only [List.length_cons] at hl
  rw [nameB]
  rw [show decide ((s.data.toList.drop (0 + 1)).length < 20) = false from by simp only [decide_eq_false_iff_not]; omega, Bool.false_and, Bool.false_and]
theorem all_take_succ (s : ByteArray) (k : Nat) (h : k < s.size) : (s.data.toList.take (k + 1)).all isGo = ((s.data.toList.take k).all isGo && isGo (bat s k)) := by
  have h1 : k < s.data.toList.length := by rw [size_eq]; exact h
  rw [List.take_succ_eq_append_getElem h1, List.all_append, List.all_cons, List.all_nil, Bool.and_true]
  congr 2
  have h2 : k < s.data.size := h
  simp [bat, List.getD, Array.getElem?_eq_getElem h2]
theorem all_false (s : ByteArray) (k : Nat) (h : k < s.size) (hb : isGo (bat s k) = false) : s.data.toList.all isGo = false := by
  rw [← List.take_append_drop k s.data.toList, List.all_append, drop_bat s k h, List.all_cons, hb, Bool.false_and, Bool.and_false]
theorem empty_of_size (s : ByteArray) (h : s.size = 0) : s = ⟨#[]⟩ := by
  rw [← bs_of s, List.eq_nil_of_length_eq_zero ((size_eq s).trans h)]
  rfl
theorem ne_empty (s : ByteArray) (h : 0 < s.size) : (¬ s.toList = []) ∧ s.toList.isEmpty = false := by
  have h1 : s.toList ≠ [] := by
    rw [Lib.toList_data]
    intro e
    have := size_eq s
    rw [e] at this
    simp at this
    omega
  exact ⟨h1, by simpa using h1⟩
theorem tName_empty (w : World) :
    Calls Tryz.prog 127 #[.string ⟨#[]⟩] w fun e w' => e = .returned (.bool false) ∧ w = w' := by
  go_enter Tryz.func127, Tryz.ntmps127
  go_wp2
  go_ret
  exact ⟨rfl, rfl⟩
theorem tName_long (s : ByteArray) (w : World) (h : 20 < s.size) (hs : s.size ≤ 1000000) :
    Calls Tryz.prog 127 #[.string s] w fun e w' => e = .returned (.bool false) ∧ w = w' := by
  obtain ⟨hn, hm⟩ := ne_empty s (by omega)
  go_enter Tryz.func127, Tryz.ntmps127
  go_wp2
  go_ret
  exact ⟨rfl, rfl⟩
theorem tName_first (s : ByteArray) (w : World) (h0 : 0 < s.size) (h20 : s.size ≤ 20) (hb : Hid (isBegin (bat s 0) = false)) :
    Calls Tryz.prog 127 #[.string s] w fun e w' => e = .returned (.bool false) ∧ w = w' := by
  obtain ⟨hn, hm⟩ := ne_empty s h0
  have HB : Hid (isBegin s[0] = false) := Lib.hid (by rw [getElem_bat]; exact hb.out)
  go_enter Tryz.func127, Tryz.ntmps127
  go_wp2_with (go_at_call 166; refine (tBegins_any _ _).mono ?_; rintro e w' ⟨rfl, rfl⟩; rw [HB.out])
  go_ret
  exact ⟨rfl, rfl⟩
theorem tName_loop (s : ByteArray) (w : World) (h0 : 0 < s.size) (h20 : s.size ≤ 20) (hb : Hid (isBegin (bat s 0) = true)) (b : Bool) (hB : Hid (s.data.toList.all isGo = b)) :
    Calls Tryz.prog 127 #[.string s] w fun e w' => e = .returned (.bool b) ∧ w = w' := by
  obtain ⟨hn, hm⟩ := ne_empty s h0
  have HB : Hid (isBegin s[0] = true) := Lib.hid (by rw [getElem_bat]; exact hb.out)
  go_enter Tryz.func127, Tryz.ntmps127
  go_wp2_with (go_at_call 166; refine (tBegins_any _ _).mono ?_; rintro e w' ⟨rfl, rfl⟩; rw [HB.out])
  go_loop [19] (fun c => ∃ k : Nat, k ≤ s.size ∧ c = .int .i64 k ∧ Hid ((s.data.toList.take k).all isGo = true)) (fun c => s.size - (intOf c).toNat)
  case atStart => exact ⟨0, Nat.zero_le _, rfl, Lib.hid rfl⟩
  case round =>
    obtain ⟨k, hk, rfl, hall⟩ := hrel
    by_cases hlt : k < s.size
    · by_cases hg : isGo (bat s k) = true
      · have HG : Hid (isGo s[k] = true) := Lib.hid (by rw [getElem_bat]; exact hg)
        have hnext := Lib.hid ((all_take_succ s k hlt).trans (by rw [hall.out, hg]))
        clear hg
        go_wp2_with (go_at_call 167; refine (tGoesOn_any _ _).mono ?_; rintro e w' ⟨rfl, rfl⟩; rw [HG.out])
        go_round
        case rel => exact ⟨k + 1, by omega, by go_num, hnext⟩
        case measure => simp [intOf]; omega
      · have hg' : isGo (bat s k) = false := by simpa using hg
        have HF := Lib.hid (all_false s k hlt hg')
        have HG : Hid (isGo s[k] = false) := Lib.hid (by rw [getElem_bat]; exact hg')
        clear hg hg'
        go_wp2_with (go_at_call 167; refine (tGoesOn_any _ _).mono ?_; rintro e w' ⟨rfl, rfl⟩; rw [HG.out])
        go_ret
        exact ⟨ret_bool (HF.out.symm.trans hB.out), rfl⟩
    · have hall' : Hid (s.data.toList.all isGo = true) := Lib.hid (by
        have h := hall.out
        rwa [List.take_of_length_le (by rw [size_eq]; omega)] at h)
      go_wp2
      go_ret
      exact ⟨ret_bool (hall'.out.symm.trans hB.out), rfl⟩
/-- text.Name. -/
theorem tName_any (s : ByteArray) (w : World) (hs : s.size ≤ 1000000) :
    Calls Tryz.prog 127 #[.string s] w fun e w' => e = .returned (.bool (nameB s.data.toList)) ∧ w = w' := by
  by_cases h0 : s.size = 0
  · rw [empty_of_size s h0]
    exact tName_empty w
  · by_cases h20 : 20 < s.size
    · rw [nameB_long s h20]
      exact tName_long s w h20 hs
    · rw [nameB_cons s (by omega) (by omega)]
      cases hb : isBegin (bat s 0) with
      | false => exact tName_first s w (by omega) (by omega) (Lib.hid hb)
      | true => exact tName_loop s w (by omega) (by omega) (Lib.hid hb) _ (Lib.hid (Bool.true_and _).symm)

end Go.Proofs.YtepebnblbheegaaGreatDoor

/- What the methods of a source return: contracts, each over any world. -/
namespace Go.Proofs.YtepebnblbheegaaGreatDoor
open Go Go.RowKit

theorem takeWhile_of (p : UInt8 → Bool) (l : List UInt8) (n : Nat) (h1 : (l.take n).all p = true) (h2 : ∀ c m, l.drop n = c :: m → p c = false) : l.takeWhile p = l.take n := by
  induction l generalizing n with
  | nil => simp
  | cons c l ih =>
    cases n with
    | zero =>
      have := h2 c l rfl
      simp [this]
    | succ n =>
      simp only [List.take_succ_cons, List.all_cons, Bool.and_eq_true] at h1
      rw [List.takeWhile_cons_of_pos h1.1, List.take_succ_cons, ih n h1.2 (fun c m h => h2 c m (by simpa using h))]

/-- What the run's loop has come to. -/
theorem run_end (s : ByteArray) (i k : Nat) (hi : i < s.size) (hik : i ≤ k) (hk : k ≤ s.size) (hb : isBegin (bat s i) = true) (hall : ((s.data.toList.drop i).take (k - i)).all isGo = true) (hend : k < s.size → isGo (bat s k) = false) :
    runName (s.data.toList.drop i) = subs s.data.toList i k := by
  have h := drop_bat s i hi
  have e : subs s.data.toList i k = (s.data.toList.drop i).take (k - i) := by
    unfold subs
    rw [show ((i : Nat) : Int).toNat = i from rfl, show ((k : Nat) : Int).toNat = k from rfl, List.drop_take]
  rw [e, ← takeWhile_of isGo (s.data.toList.drop i) (k - i) hall ?_, h, runName, if_pos hb]
  intro c m hcm
  rw [List.drop_drop, show i + (k - i) = k from by omega] at hcm
  by_cases hlt : k < s.size
  · rw [drop_bat s k hlt] at hcm
    injection hcm with h1 _
    rw [← h1]
    exact hend hlt
  · rw [List.drop_eq_nil_of_le (by rw [size_eq]; omega)] at hcm
    cases hcm

theorem run_step (s : ByteArray) (i k : Nat) (hik : i ≤ k) (hk : k < s.size) (hall : ((s.data.toList.drop i).take (k - i)).all isGo = true) (hg : isGo (bat s k) = true) : ((s.data.toList.drop i).take (k + 1 - i)).all isGo = true := by
  rw [show k + 1 - i = (k - i) + 1 from by omega]
  have h1 : k - i < (s.data.toList.drop i).length := by rw [List.length_drop, size_eq]; omega
  rw [List.take_succ_eq_append_getElem h1, List.all_append, hall, Bool.true_and, List.all_cons, List.all_nil, Bool.and_true]
  rw [← hg]
  congr 1
  have h2 : k < s.data.size := hk
  simp [bat, List.getD, Array.getElem?_eq_getElem h2, show i + (k - i) = k from by omega]

theorem run_none (s : ByteArray) (i : Nat) (h : s.size ≤ i) : runName (s.data.toList.drop i) = [] := by
  rw [List.drop_eq_nil_of_le (by rw [size_eq]; omega)]
  rfl

theorem run_not (s : ByteArray) (i : Nat) (h : i < s.size) (hb : isBegin (bat s i) = false) : runName (s.data.toList.drop i) = [] := by
  rw [drop_bat s i h, runName, hb]
  rfl

theorem sName_high (q : Addr) (s : ByteArray) (i : Nat) (w : World) (hs : s.size ≤ 1000000) (hi : s.size ≤ i) (_hi2 : i ≤ 10000000) (hc : w.cell? q = some (.string s)) :
    Calls Tryz.prog 147 #[.pointer (some q), .int .i64 i] w fun e w' => e = .returned (.string ⟨#[]⟩) ∧ Below w.heap.size w w' := by
  go_enter Tryz.func147, Tryz.ntmps147
  go_wp2_with (go_at_call 107; refine (bByte_high s _ _ hs (by omega)).mono ?_; rintro e w' ⟨rfl, hb⟩)
  go_ret
  exact ⟨rfl, hb⟩

theorem sName_not (q : Addr) (s : ByteArray) (i : Nat) (w : World) (hs : s.size ≤ 1000000) (hi : i < s.size) (hb : Hid (isBegin (bat s i) = false)) (hc : w.cell? q = some (.string s)) :
    Calls Tryz.prog 147 #[.pointer (some q), .int .i64 i] w fun e w' => e = .returned (.string ⟨#[]⟩) ∧ Below w.heap.size w w' := by
  go_enter Tryz.func147, Tryz.ntmps147
  go_wp2_with (first | (go_at_call 107; refine (bByte_in s _ _ hs (by omega)).mono ?_; rintro e w' ⟨rfl, hb1⟩) | (go_at_call 166; refine (tBegins_any _ _).mono ?_; rintro e w' ⟨rfl, rfl⟩; rw [hb.out]))
  go_ret
  exact ⟨rfl, ‹_›⟩

theorem sName_run (q : Addr) (s : ByteArray) (i : Nat) (w : World) (hs : s.size ≤ 1000000) (hi : i < s.size) (hb : Hid (isBegin (bat s i) = true)) (hc : w.cell? q = some (.string s)) (r : List UInt8)
    (hr : Hid (∀ k : Nat, i ≤ k → k ≤ s.size → ((s.data.toList.drop i).take (k - i)).all isGo = true → (k < s.size → isGo (bat s k) = false) → subs s.data.toList i k = r)) :
    Calls Tryz.prog 147 #[.pointer (some q), .int .i64 i] w fun e w' => e = .returned (.string (bs r)) ∧ Below w.heap.size w w' := by
  go_enter Tryz.func147, Tryz.ntmps147
  go_wp2_with (first | (go_at_call 107; refine (bByte_in s _ _ hs (by omega)).mono ?_; rintro e w1 ⟨rfl, hb1⟩) | (go_at_call 166; refine (tBegins_any _ _).mono ?_; rintro e w' ⟨rfl, rfl⟩; rw [hb.out]))
  go_loopw [5, 6, 7] (fun c x t wr => ∃ k : Nat, i ≤ k ∧ k ≤ s.size ∧ t = .int .i64 k ∧ Below w.heap.size w wr ∧ Hid (((s.data.toList.drop i).take (k - i)).all isGo = true) ∧
      ((k < s.size ∧ c = .int .u8 (bat s k).toNat ∧ x = .bool true) ∨ (s.size ≤ k ∧ c = .int .u8 0 ∧ x = .bool false))) (fun _ _ t _ => s.size - (intOf t).toNat)
  case atStart => exact ⟨i, Nat.le_refl _, by omega, rfl, ‹_›, Lib.hid (by rw [Nat.sub_self]; rfl), .inl ⟨hi, rfl, rfl⟩⟩
  case round =>
    obtain ⟨k, hik, hk, rfl, hbr, hall, hcase⟩ := hrel
    have hcr := bSome hbr hc
    clear hc
    rcases hcase with ⟨hlt, rfl, rfl⟩ | ⟨hge, rfl, rfl⟩
    · by_cases hg : isGo (bat s k) = true
      · have HG := Lib.hid hg
        have hn := Lib.hid (run_step s i k hik hlt hall.out hg)
        clear hg
        by_cases hlt2 : k + 1 < s.size
        · go_wp2_with (first | (go_at_call 167; refine (tGoesOn_any _ _).mono ?_; rintro e w' ⟨rfl, rfl⟩; rw [HG.out]) | (go_at_call 107; refine (bByte_in s (k + 1) _ hs (by omega)).mono ?_; rintro e w2 ⟨rfl, hb2⟩))
          go_roundw
          case rel => exact ⟨k + 1, by omega, by omega, by go_num, bNext hbr hb2, hn, .inl ⟨hlt2, rfl, rfl⟩⟩
          case measure => simp [intOf]; omega
        · go_wp2_with (first | (go_at_call 167; refine (tGoesOn_any _ _).mono ?_; rintro e w' ⟨rfl, rfl⟩; rw [HG.out]) | (go_at_call 107; refine (bByte_high s _ _ hs (by omega)).mono ?_; rintro e w2 ⟨rfl, hb2⟩))
          go_roundw
          case rel => exact ⟨k + 1, by omega, by omega, by go_num, bNext hbr hb2, hn, .inr ⟨by omega, rfl, rfl⟩⟩
          case measure => simp [intOf]; omega
      · have hg' : isGo (bat s k) = false := by simpa using hg
        have HG := Lib.hid hg'
        have HR := Lib.hid (hr.out k hik hk hall.out (fun _ => hg'))
        clear hg hg'
        go_wp2_with (first | (go_at_call 167; refine (tGoesOn_any _ _).mono ?_; rintro e w' ⟨rfl, rfl⟩; rw [HG.out]) | (go_at_call 114; refine (bSlice_any s _ _ _ hs).mono ?_; rintro e w2 ⟨rfl, hb2⟩))
        go_ret
        exact ⟨by rw [← HR.out]; rfl, bNext hbr ‹_›⟩
    · have HR := Lib.hid (hr.out k hik hk hall.out (fun h => absurd h (by omega)))
      go_wp2_with (first | (go_at_call 114; refine (bSlice_any s _ _ _ hs).mono ?_; rintro e w2 ⟨rfl, hb2⟩))
      go_ret
      exact ⟨by rw [← HR.out]; rfl, bNext hbr ‹_›⟩

/-- (*text.Source).Name, from a place on that is none below 0. -/
theorem sName_any (q : Addr) (s : ByteArray) (i : Nat) (w : World) (hs : s.size ≤ 1000000) (hi2 : i ≤ 10000000) (hc : w.cell? q = some (.string s)) :
    Calls Tryz.prog 147 #[.pointer (some q), .int .i64 i] w fun e w' => e = .returned (.string (bs (runName (s.data.toList.drop i)))) ∧ Below w.heap.size w w' := by
  by_cases hi : s.size ≤ i
  · rw [run_none s i hi]
    exact sName_high q s i w hs hi hi2 hc
  · cases hb : isBegin (bat s i) with
    | false =>
      rw [run_not s i (by omega) hb]
      exact sName_not q s i w hs (by omega) (Lib.hid hb) hc
    | true =>
      exact sName_run q s i w hs (by omega) (Lib.hid hb) hc _ (Lib.hid fun k h1 h2 h3 h4 => (run_end s i k (by omega) h1 h2 hb h3 h4).symm)

theorem tNew_ok0 (s : ByteArray) (w : World) (hs : s.size ≤ 8192) :
    Calls Tryz.prog 63 #[.string s] w fun e w' => e = .returned (.tuple #[.pointer (some ⟨w.heap.size, 0, none⟩), .nilIface]) ∧ w.alloc (.cells #[.string s] 153) = w' := by
  go_enter Tryz.func63, Tryz.ntmps63
  go_wp2
  go_ret2
  exact ⟨rfl, rfl⟩

/-- text.New of a text that is no longer than it may be. -/
theorem tNew_ok (s : ByteArray) (w : World) (hs : s.size ≤ 8192) :
    Calls Tryz.prog 63 #[.string s] w fun e w' => e = .returned (.tuple #[.pointer (some ⟨w.heap.size, 0, none⟩), .nilIface]) ∧ Blk w' w.heap.size [.string s] ∧ Below w.heap.size w w' := by
  refine (tNew_ok0 s w hs).mono ?_
  rintro e w' ⟨rfl, rfl⟩
  exact ⟨rfl, Blk.new w [.string s] _, (Below.refl _ _).alloc (Nat.le_refl _) _⟩

/-- text.New of a longer text. -/
theorem tNew_long (s : ByteArray) (v : Value) (w : World) (hs : 8192 < s.size) (hs2 : s.size ≤ 140737488355328) (hg : w.cell? ⟨5, 0, none⟩ = some v) :
    Calls Tryz.prog 63 #[.string s] w fun e w' => e = .returned (.tuple #[.pointer none, v]) ∧ Below w.heap.size w w' := by
  go_enter Tryz.func63, Tryz.ntmps63
  go_wp2
  go_quiet (fail)
  go_wp2
  go_ret2
  exact ⟨rfl, bDrewN (Below.refl _ _) _⟩

end Go.Proofs.YtepebnblbheegaaGreatDoor
