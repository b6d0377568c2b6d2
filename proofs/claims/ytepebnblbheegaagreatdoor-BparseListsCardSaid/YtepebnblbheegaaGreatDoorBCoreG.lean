/- core's small functions: which kinds there are, how many children, what is to be a word. -/
import Derived.Test.YtepebnblbheegaaGreatDoorBKitG
import Derived.Test.YtepebnblbheegaaGreatDoorParseG
import Derived.Test.YtepebnblbheegaaGreatDoorBPatG
namespace Go.Proofs.YtepebnblbheegaaGreatDoor
open Go Go.RowKit

theorem int_beq (a b : Int) : (a == b) = decide (a = b) := by by_cases h : a = b <;> simp [h]

set_option maxHeartbeats 4000000 in
theorem cWord_any (k : Int) (w : World) : Calls Tryz.prog 89 #[.int .i64 k] w fun e w' => e = .returned (.bool (isWord k)) ∧ w' = w := by
  unfold isWord
  by_cases h : 1 ≤ k
  · have h1 : decide (1 ≤ k) = true := by simp [h]
    rw [h1]
    go_enter Tryz.func89, Tryz.ntmps89
    go_wp2
    go_ret
    exact ⟨by simp, rfl⟩
  · have h1 : decide (1 ≤ k) = false := by simp; omega
    rw [h1]
    go_enter Tryz.func89, Tryz.ntmps89
    go_wp2
    go_ret
    exact ⟨rfl, rfl⟩
set_option maxHeartbeats 4000000 in
theorem cCommand_any (k : Int) (w : World) : Calls Tryz.prog 90 #[.int .i64 k] w fun e w' => e = .returned (.bool (isCommand k)) ∧ w' = w := by
  unfold isCommand
  by_cases h : 20 ≤ k
  · have h1 : decide (20 ≤ k) = true := by simp [h]
    rw [h1]
    go_enter Tryz.func90, Tryz.ntmps90
    go_wp2
    go_ret
    exact ⟨by simp, rfl⟩
  · have h1 : decide (20 ≤ k) = false := by simp; omega
    rw [h1]
    go_enter Tryz.func90, Tryz.ntmps90
    go_wp2
    go_ret
    exact ⟨rfl, rfl⟩

set_option maxHeartbeats 16000000 in
set_option maxRecDepth 100000 in
theorem cChildren_any (x : PNode) (w : World) : Calls Tryz.prog 92 #[.agg #[.int .i64 x.kind, .int .i64 x.n, .int .i64 x.k, .int .i64 x.size, .string (bs x.text)]] w fun e w' => e = .returned (.bool (childrenB x)) ∧ Below w.heap.size w w' := by
  obtain ⟨kd, n, k, sz, tx⟩ := x
  dsimp only
  by_cases h1 : kd = 1
  · subst h1
    go_enter Tryz.func92, Tryz.ntmps92
    go_wp2
    go_ret
    exact ⟨by simp [childrenB, int_beq], (Below.refl _ _).alloc (Nat.le_refl _) _⟩
  have b1 : (kd == 1) = false := by rw [beq_eq_false_iff_ne]; exact h1
  by_cases h2 : kd = 2
  · subst h2
    go_enter Tryz.func92, Tryz.ntmps92
    go_wp2
    go_ret
    exact ⟨by simp [childrenB, int_beq], (Below.refl _ _).alloc (Nat.le_refl _) _⟩
  have b2 : (kd == 2) = false := by rw [beq_eq_false_iff_ne]; exact h2
  by_cases h20 : kd = 20
  · subst h20
    go_enter Tryz.func92, Tryz.ntmps92
    go_wp2
    go_ret
    exact ⟨by simp [childrenB, int_beq], (Below.refl _ _).alloc (Nat.le_refl _) _⟩
  have b20 : (kd == 20) = false := by rw [beq_eq_false_iff_ne]; exact h20
  by_cases h3 : kd = 3
  · subst h3
    go_enter Tryz.func92, Tryz.ntmps92
    go_wp2
    go_ret
    exact ⟨by simp [childrenB], (Below.refl _ _).alloc (Nat.le_refl _) _⟩
  have b3 : (kd == 3) = false := by rw [beq_eq_false_iff_ne]; exact h3
  by_cases h4 : kd = 4
  · subst h4
    go_enter Tryz.func92, Tryz.ntmps92
    go_wp2
    go_ret
    exact ⟨by simp [childrenB], (Below.refl _ _).alloc (Nat.le_refl _) _⟩
  have b4 : (kd == 4) = false := by rw [beq_eq_false_iff_ne]; exact h4
  by_cases h21 : kd = 21
  · subst h21
    go_enter Tryz.func92, Tryz.ntmps92
    go_wp2
    go_ret
    exact ⟨by simp [childrenB], (Below.refl _ _).alloc (Nat.le_refl _) _⟩
  have b21 : (kd == 21) = false := by rw [beq_eq_false_iff_ne]; exact h21
  by_cases h37 : kd = 37
  · subst h37
    go_enter Tryz.func92, Tryz.ntmps92
    go_wp2
    go_ret
    exact ⟨by simp [childrenB], (Below.refl _ _).alloc (Nat.le_refl _) _⟩
  have b37 : (kd == 37) = false := by rw [beq_eq_false_iff_ne]; exact h37
  by_cases h23 : kd = 23
  · subst h23
    go_enter Tryz.func92, Tryz.ntmps92
    go_wp2
    go_ret
    exact ⟨by simp [childrenB], (Below.refl _ _).alloc (Nat.le_refl _) _⟩
  have b23 : (kd == 23) = false := by rw [beq_eq_false_iff_ne]; exact h23
  by_cases h32 : kd = 32
  · subst h32
    go_enter Tryz.func92, Tryz.ntmps92
    go_wp2
    go_ret
    exact ⟨by simp [childrenB], (Below.refl _ _).alloc (Nat.le_refl _) _⟩
  have b32 : (kd == 32) = false := by rw [beq_eq_false_iff_ne]; exact h32
  by_cases h24 : kd = 24
  · subst h24
    go_enter Tryz.func92, Tryz.ntmps92
    go_wp2
    go_ret
    exact ⟨by simp [childrenB, int_beq], (Below.refl _ _).alloc (Nat.le_refl _) _⟩
  have b24 : (kd == 24) = false := by rw [beq_eq_false_iff_ne]; exact h24
  by_cases h25 : kd = 25
  · subst h25
    go_enter Tryz.func92, Tryz.ntmps92
    go_wp2
    go_ret
    exact ⟨by simp [childrenB, int_beq], (Below.refl _ _).alloc (Nat.le_refl _) _⟩
  have b25 : (kd == 25) = false := by rw [beq_eq_false_iff_ne]; exact h25
  by_cases h26 : kd = 26
  · subst h26
    go_enter Tryz.func92, Tryz.ntmps92
    go_wp2
    go_ret
    exact ⟨by simp [childrenB, int_beq], (Below.refl _ _).alloc (Nat.le_refl _) _⟩
  have b26 : (kd == 26) = false := by rw [beq_eq_false_iff_ne]; exact h26
  by_cases h28 : kd = 28
  · subst h28
    go_enter Tryz.func92, Tryz.ntmps92
    go_wp2
    go_ret
    exact ⟨by simp [childrenB, int_beq], (Below.refl _ _).alloc (Nat.le_refl _) _⟩
  have b28 : (kd == 28) = false := by rw [beq_eq_false_iff_ne]; exact h28
  by_cases h29 : kd = 29
  · subst h29
    go_enter Tryz.func92, Tryz.ntmps92
    go_wp2
    go_ret
    exact ⟨by simp [childrenB, int_beq], (Below.refl _ _).alloc (Nat.le_refl _) _⟩
  have b29 : (kd == 29) = false := by rw [beq_eq_false_iff_ne]; exact h29
  by_cases h35 : kd = 35
  · subst h35
    go_enter Tryz.func92, Tryz.ntmps92
    go_wp2
    go_ret
    exact ⟨by simp [childrenB, int_beq], (Below.refl _ _).alloc (Nat.le_refl _) _⟩
  have b35 : (kd == 35) = false := by rw [beq_eq_false_iff_ne]; exact h35
  by_cases h33 : kd = 33
  · subst h33
    go_enter Tryz.func92, Tryz.ntmps92
    go_wp2
    go_ret
    exact ⟨by simp [childrenB, int_beq], (Below.refl _ _).alloc (Nat.le_refl _) _⟩
  have b33 : (kd == 33) = false := by rw [beq_eq_false_iff_ne]; exact h33
  by_cases h34 : kd = 34
  · subst h34
    go_enter Tryz.func92, Tryz.ntmps92
    go_wp2
    go_ret
    exact ⟨by simp [childrenB, int_beq], (Below.refl _ _).alloc (Nat.le_refl _) _⟩
  have b34 : (kd == 34) = false := by rw [beq_eq_false_iff_ne]; exact h34
  by_cases h30 : kd = 30
  · subst h30
    by_cases hk : 1 ≤ k
    · go_enter Tryz.func92, Tryz.ntmps92
      go_wp2
      go_ret
      exact ⟨by first | (simp [childrenB, hk, int_beq]; done) | (simp [childrenB, int_beq]; intro h; omega), (Below.refl _ _).alloc (Nat.le_refl _) _⟩
    · go_enter Tryz.func92, Tryz.ntmps92
      go_wp2
      go_ret
      exact ⟨by first | (simp [childrenB]; done) | (simp [childrenB]; intro h; omega), (Below.refl _ _).alloc (Nat.le_refl _) _⟩
  have b30 : (kd == 30) = false := by rw [beq_eq_false_iff_ne]; exact h30
  have HX : Hid (childrenB ⟨kd, n, k, sz, tx⟩ = decide (k = 1)) := Lib.hid (by simp [childrenB, h1, h2, h20, h3, h4, h21, h37, h23, h32, h24, h25, h26, h28, h29, h35, h33, h34, h30])
  clear h1 h2 h20 h3 h4 h21 h37 h23 h32 h24 h25 h26 h28 h29 h35 h33 h34 h30
  go_enter Tryz.func92, Tryz.ntmps92
  go_wp2
  go_ret
  exact ⟨by rw [HX.out]; rfl, (Below.refl _ _).alloc (Nat.le_refl _) _⟩

set_option maxHeartbeats 16000000 in
set_option maxRecDepth 100000 in
theorem cTakes_any (x : PNode) (k : Nat) (w : World) (hK : 0 < x.k ∧ x.k < 9223372036854775808) : Calls Tryz.prog 94 #[.agg #[.int .i64 x.kind, .int .i64 x.n, .int .i64 x.k, .int .i64 x.size, .string (bs x.text)], .int .i64 k] w fun e w' => e = .returned (.bool (takesB x.kind x.k k)) ∧ Below w.heap.size w w' := by
  obtain ⟨kd, n, K, sz, tx⟩ := x
  dsimp only at hK ⊢
  by_cases h12 : kd = 12
  · subst h12
    go_enter Tryz.func94, Tryz.ntmps94
    go_wp2
    go_ret
    exact ⟨by simp [takesB], (Below.refl _ _).alloc (Nat.le_refl _) _⟩
  have b12 : (kd == 12) = false := by rw [beq_eq_false_iff_ne]; exact h12
  by_cases h23 : kd = 23
  · subst h23
    go_enter Tryz.func94, Tryz.ntmps94
    go_wp2
    go_ret
    exact ⟨by simp [takesB], (Below.refl _ _).alloc (Nat.le_refl _) _⟩
  have b23 : (kd == 23) = false := by rw [beq_eq_false_iff_ne]; exact h23
  by_cases h32 : kd = 32
  · subst h32
    go_enter Tryz.func94, Tryz.ntmps94
    go_wp2
    go_ret
    exact ⟨by simp [takesB], (Below.refl _ _).alloc (Nat.le_refl _) _⟩
  have b32 : (kd == 32) = false := by rw [beq_eq_false_iff_ne]; exact h32
  by_cases h24 : kd = 24
  · subst h24
    go_enter Tryz.func94, Tryz.ntmps94
    go_wp2
    go_ret
    exact ⟨by simp [takesB], (Below.refl _ _).alloc (Nat.le_refl _) _⟩
  have b24 : (kd == 24) = false := by rw [beq_eq_false_iff_ne]; exact h24
  by_cases h25 : kd = 25
  · subst h25
    go_enter Tryz.func94, Tryz.ntmps94
    go_wp2
    go_ret
    exact ⟨by simp [takesB], (Below.refl _ _).alloc (Nat.le_refl _) _⟩
  have b25 : (kd == 25) = false := by rw [beq_eq_false_iff_ne]; exact h25
  by_cases h26 : kd = 26
  · subst h26
    go_enter Tryz.func94, Tryz.ntmps94
    go_wp2
    go_ret
    exact ⟨by simp [takesB], (Below.refl _ _).alloc (Nat.le_refl _) _⟩
  have b26 : (kd == 26) = false := by rw [beq_eq_false_iff_ne]; exact h26
  by_cases h28 : kd = 28
  · subst h28
    go_enter Tryz.func94, Tryz.ntmps94
    go_wp2
    go_ret
    exact ⟨by simp [takesB], (Below.refl _ _).alloc (Nat.le_refl _) _⟩
  have b28 : (kd == 28) = false := by rw [beq_eq_false_iff_ne]; exact h28
  by_cases h27 : kd = 27
  · subst h27
    go_enter Tryz.func94, Tryz.ntmps94
    go_wp2
    go_ret
    exact ⟨by simp [takesB], (Below.refl _ _).alloc (Nat.le_refl _) _⟩
  have b27 : (kd == 27) = false := by rw [beq_eq_false_iff_ne]; exact h27
  by_cases h31 : kd = 31
  · subst h31
    go_enter Tryz.func94, Tryz.ntmps94
    go_wp2
    go_ret
    exact ⟨by simp [takesB], (Below.refl _ _).alloc (Nat.le_refl _) _⟩
  have b31 : (kd == 31) = false := by rw [beq_eq_false_iff_ne]; exact h31
  by_cases h29 : kd = 29
  · subst h29
    go_enter Tryz.func94, Tryz.ntmps94
    go_wp2
    go_ret
    exact ⟨by simp [takesB, int_beq], (Below.refl _ _).alloc (Nat.le_refl _) _⟩
  have b29 : (kd == 29) = false := by rw [beq_eq_false_iff_ne]; exact h29
  by_cases h35 : kd = 35
  · subst h35
    go_enter Tryz.func94, Tryz.ntmps94
    go_wp2
    go_ret
    exact ⟨by simp [takesB, int_beq], (Below.refl _ _).alloc (Nat.le_refl _) _⟩
  have b35 : (kd == 35) = false := by rw [beq_eq_false_iff_ne]; exact h35
  by_cases h33 : kd = 33
  · subst h33
    go_enter Tryz.func94, Tryz.ntmps94
    go_wp2
    go_ret
    exact ⟨by simp [takesB, int_beq], (Below.refl _ _).alloc (Nat.le_refl _) _⟩
  have b33 : (kd == 33) = false := by rw [beq_eq_false_iff_ne]; exact h33
  by_cases h34 : kd = 34
  · subst h34
    go_enter Tryz.func94, Tryz.ntmps94
    go_wp2
    go_ret
    exact ⟨by simp [takesB, int_beq], (Below.refl _ _).alloc (Nat.le_refl _) _⟩
  have b34 : (kd == 34) = false := by rw [beq_eq_false_iff_ne]; exact h34
  by_cases h30 : kd = 30
  · subst h30
    by_cases hk : k = 0
    · subst hk
      go_enter Tryz.func94, Tryz.ntmps94
      go_wp2
      go_ret
      exact ⟨by simp [takesB], (Below.refl _ _).alloc (Nat.le_refl _) _⟩
    · have hk2 : ((k : Int) == 0) = false := by rw [beq_eq_false_iff_ne]; omega
      go_enter Tryz.func94, Tryz.ntmps94
      go_wp2
      go_ret
      exact ⟨by simp [takesB, int_beq]; omega, (Below.refl _ _).alloc (Nat.le_refl _) _⟩
  have b30 : (kd == 30) = false := by rw [beq_eq_false_iff_ne]; exact h30
  by_cases h37 : kd = 37
  · subst h37
    have hw1 : IntKind.i64.wrap (K - 1) = K - 1 := by rw [IntKind.wrap_i64]; omega
    go_enter Tryz.func94, Tryz.ntmps94
    go_wp2
    go_ret
    exact ⟨by simp [takesB], (Below.refl _ _).alloc (Nat.le_refl _) _⟩
  have b37 : (kd == 37) = false := by rw [beq_eq_false_iff_ne]; exact h37
  have HX : Hid (takesB kd K k = true) := Lib.hid (by simp [takesB, h12, h23, h32, h24, h25, h26, h28, h27, h31, h29, h35, h33, h34, h30, h37])
  clear h12 h23 h32 h24 h25 h26 h28 h27 h31 h29 h35 h33 h34 h30 h37
  go_enter Tryz.func94, Tryz.ntmps94
  go_wp2
  go_ret
  exact ⟨by rw [HX.out]; rfl, (Below.refl _ _).alloc (Nat.le_refl _) _⟩

end Go.Proofs.YtepebnblbheegaaGreatDoor

/- core's small functions: a node's number and text; an error at a place. -/
namespace Go.Proofs.YtepebnblbheegaaGreatDoor
open Go Go.RowKit

theorem loop_eq (b : ByteArray) : ∀ (m i : Nat) (r : List UInt8), b.size - i = m → ByteArray.toList.loop b i r = r.reverse ++ b.data.toList.drop i := by
  intro m
  induction m with
  | zero =>
    intro i r h
    rw [ByteArray.toList.loop, if_neg (by omega), List.drop_of_length_le (by rw [size_eq]; omega)]
    simp
  | succ m ih =>
    intro i r h
    have hi : i < b.size := by omega
    rw [ByteArray.toList.loop, if_pos hi, ih _ _ (by omega), List.reverse_cons, List.append_assoc]
    congr 1
    rw [drop_bat b i hi]
    have h2 : i < b.data.size := hi
    have : b.get! i = bat b i := by
      unfold ByteArray.get! bat
      simp [List.getD, Array.getElem?_eq_getElem h2, getElem!_pos b.data i h2]
    rw [this]
    rfl
theorem bs_toList (l : List UInt8) : (bs l).toList = l := by
  unfold ByteArray.toList
  rw [loop_eq _ _ _ _ rfl, List.drop_zero]
  exact bs_list l
theorem bs_isEmpty (l : List UInt8) : (bs l).toList.isEmpty = decide (l = []) := by
  rw [bs_toList]
  cases l <;> simp

set_option maxHeartbeats 4000000 in
theorem cNamed_any (k : Int) (w : World) : Calls Tryz.prog 128 #[.int .i64 k] w fun e w' => e = .returned (.bool (namedB k)) ∧ Below w.heap.size w w' := by
  have HB := Lib.hid (show Blk (w.alloc (.cells #[Value.int .i64 2, .int .i64 22, .int .i64 29, .int .i64 31, .int .i64 35] 3)) w.heap.size ([2, 22, 29, 31, 35].map fun (k : Nat) => Value.int .i64 (k : Int)) from Blk.new w [Value.int .i64 2, .int .i64 22, .int .i64 29, .int .i64 31, .int .i64 35] 3)
  go_enter Tryz.func128, Tryz.ntmps128
  go_wp2_with fail
  refine (Tryz.slices_Contains_int w.heap.size 0 5 5 ([2, 22, 29, 31, 35].map fun (k : Nat) => (k : Int)) _ _ (by simp) (by omega) (ints_cells HB.out)).mono ?_
  rintro e w2 ⟨rfl, rfl⟩
  go_wp2_with fail
  go_ret
  exact ⟨congrArg (fun b => Ending.returned (Value.bool b)) (by simp [namedB]), (Below.refl _ _).alloc (Nat.le_refl _) _⟩

set_option maxHeartbeats 4000000 in
theorem cAt_any (i : Nat) (a : Addr) (sent : Nat → Addr) (c : Nat) (hc : sent c = a) (w : World) : Calls Tryz.prog 93 #[.int .i64 i, .iface 303 (.pointer (some a))] w fun e w' => ∃ eb, e = .returned (.iface 67 (.pointer (some ⟨eb, 0, none⟩))) ∧ ErrAt w' eb sent c i ∧ w.heap.size ≤ eb ∧ Below w.heap.size w w' := by
  subst hc
  go_enter Tryz.func93, Tryz.ntmps93
  go_wp2
  go_ret
  exact ⟨_, rfl, Blk.new w [Value.int .i64 i, .iface 303 (.pointer (some (sent c)))] 69, Nat.le_refl _, (Below.refl _ _).alloc (Nat.le_refl _) _⟩

set_option maxHeartbeats 16000000 in
set_option maxRecDepth 100000 in
theorem cFields_any (x : PNode) (w : World) (hx : x.text.length ≤ 100000) : Calls Tryz.prog 91 #[.agg #[.int .i64 x.kind, .int .i64 x.n, .int .i64 x.k, .int .i64 x.size, .string (bs x.text)]] w fun e w' => e = .returned (.bool (fieldsB x)) ∧ Below w.heap.size w w' := by
  obtain ⟨kd, n, k, sz, tx⟩ := x
  dsimp only at hx ⊢
  have hb0 := (Below.refl w.heap.size w).alloc (Nat.le_refl _) (.cells #[.int .i64 kd, .int .i64 n, .int .i64 k, .int .i64 sz, .string (bs tx)] 82)
  by_cases h1 : kd = 1
  · subst h1
    by_cases hn : n = 0
    · subst hn
      have HX : Hid (fieldsB ⟨1, 0, k, sz, tx⟩ = decide (tx.length ≤ 2000)) := Lib.hid (by simp [fieldsB, fieldsM])
      have hle : (decide (((bs tx).size : Int) ≤ 2000)) = decide (tx.length ≤ 2000) := by rw [bs_size]; simp; omega
      go_enter Tryz.func91, Tryz.ntmps91
      go_wp2
      go_ret
      exact ⟨by rw [HX.out]; rfl, hb0⟩
    · have hn0 : (n == 0) = false := by rw [beq_eq_false_iff_ne]; exact hn
      by_cases hn1 : n = 1
      · subst hn1
        have HX : Hid (fieldsB ⟨1, 1, k, sz, tx⟩ = (isClosed tx && decide (tx.length ≤ 2000))) := Lib.hid (by simp [fieldsB, fieldsM])
        go_enter Tryz.func91, Tryz.ntmps91
        go_wp2_with fail
        refine (ptClosed_any (bs tx) _ (by rw [bs_size]; omega)).mono ?_
        rintro e w1 ⟨rfl, hb1⟩
        rw [bs_list]
        have hb2 := bNext hb0 hb1
        have hB := (Blk.new w [Value.int .i64 1, .int .i64 1, .int .i64 k, .int .i64 sz, .string (bs tx)] 82).below hb1
        have c4 := hB.cell 4 rfl
        cases hcl : isClosed tx with
        | false =>
          go_wp2
          go_ret
          exact ⟨by rw [HX.out, hcl]; rfl, hb2⟩
        | true =>
          have hle : (decide (((bs tx).size : Int) ≤ 2000)) = decide (tx.length ≤ 2000) := by rw [bs_size]; simp; omega
          go_wp2
          go_ret
          exact ⟨by rw [HX.out, hcl]; rfl, hb2⟩
      · have hn1' : (n == 1) = false := by rw [beq_eq_false_iff_ne]; exact hn1
        have HX : Hid (fieldsB ⟨1, n, k, sz, tx⟩ = false) := Lib.hid (by simp [fieldsB, fieldsM, hn, hn1])
        go_enter Tryz.func91, Tryz.ntmps91
        go_wp2
        go_ret
        exact ⟨by rw [HX.out]; rfl, hb0⟩
  have b1 : (kd == 1) = false := by rw [beq_eq_false_iff_ne]; exact h1
  by_cases h11 : kd = 11
  · subst h11
    by_cases q1 : 1 ≤ n
    · by_cases q2 : n ≤ 99
      · have HX : Hid (fieldsB ⟨11, n, k, sz, tx⟩ = decide (tx = [])) := Lib.hid (by simp [fieldsB, fieldsM, q1, q2])
        go_enter Tryz.func91, Tryz.ntmps91
        go_wp2
        go_ret
        exact ⟨by rw [HX.out]; exact congrArg (fun b => Ending.returned (Value.bool b)) (bs_isEmpty tx), hb0⟩
      · have HX : Hid (fieldsB ⟨11, n, k, sz, tx⟩ = false) := Lib.hid (by simp [fieldsB, fieldsM, q2])
        go_enter Tryz.func91, Tryz.ntmps91
        go_wp2
        go_ret
        exact ⟨by rw [HX.out]; rfl, hb0⟩
    · have HX : Hid (fieldsB ⟨11, n, k, sz, tx⟩ = false) := Lib.hid (by simp [fieldsB, fieldsM, q1])
      go_enter Tryz.func91, Tryz.ntmps91
      go_wp2
      go_ret
      exact ⟨by rw [HX.out]; rfl, hb0⟩
  have b11 : (kd == 11) = false := by rw [beq_eq_false_iff_ne]; exact h11
  by_cases h33 : kd = 33
  · subst h33
    by_cases q1 : 1 ≤ n
    · by_cases q2 : n ≤ 3
      · have HX : Hid (fieldsB ⟨33, n, k, sz, tx⟩ = decide (tx = [])) := Lib.hid (by simp [fieldsB, fieldsM, q1, q2])
        go_enter Tryz.func91, Tryz.ntmps91
        go_wp2
        go_ret
        exact ⟨by rw [HX.out]; exact congrArg (fun b => Ending.returned (Value.bool b)) (bs_isEmpty tx), hb0⟩
      · have HX : Hid (fieldsB ⟨33, n, k, sz, tx⟩ = false) := Lib.hid (by simp [fieldsB, fieldsM, q2])
        go_enter Tryz.func91, Tryz.ntmps91
        go_wp2
        go_ret
        exact ⟨by rw [HX.out]; rfl, hb0⟩
    · have HX : Hid (fieldsB ⟨33, n, k, sz, tx⟩ = false) := Lib.hid (by simp [fieldsB, fieldsM, q1])
      go_enter Tryz.func91, Tryz.ntmps91
      go_wp2
      go_ret
      exact ⟨by rw [HX.out]; rfl, hb0⟩
  have b33 : (kd == 33) = false := by rw [beq_eq_false_iff_ne]; exact h33
  by_cases hn : n = 0
  · subst hn
    by_cases h2 : kd = 2
    · subst h2
      have HX : Hid (fieldsB ⟨2, 0, k, sz, tx⟩ = (nameB tx || decide (tx = [42]))) := Lib.hid (by simp [fieldsB, fieldsM])
      go_enter Tryz.func91, Tryz.ntmps91
      go_wp2_with fail
      refine (tName_any (bs tx) _ (by rw [bs_size]; omega)).mono ?_
      rintro e w1 ⟨rfl, rfl⟩
      rw [bs_list]
      cases hcl : nameB tx with
      | true =>
        go_wp2
        go_ret
        exact ⟨by rw [HX.out, hcl]; rfl, hb0⟩
      | false =>
        go_wp2
        go_ret
        exact ⟨by rw [HX.out, hcl]; exact congrArg (fun b => Ending.returned (Value.bool b)) (by rw [bs_toList, Bool.false_or]; by_cases h : tx = [42] <;> simp [h]), hb0⟩
    have b2 : (kd == 2) = false := by rw [beq_eq_false_iff_ne]; exact h2
    have HX : Hid (fieldsB ⟨kd, 0, k, sz, tx⟩ = if namedB kd = true then nameB tx else decide (tx = [])) := Lib.hid (by simp [fieldsB, fieldsM, h1, h11, h33, h2])
    clear h1 h11 h33 h2
    go_enter Tryz.func91, Tryz.ntmps91
    go_wp2_with fail
    refine (cNamed_any kd _).mono ?_
    rintro e w1 ⟨rfl, hb1⟩
    have hb2 := bNext hb0 hb1
    have hB := (Blk.new w [Value.int .i64 kd, .int .i64 0, .int .i64 k, .int .i64 sz, .string (bs tx)] 82).below hb1
    have c4 := hB.cell 4 rfl
    cases hcl : namedB kd with
    | true =>
      go_wp2_with fail
      refine (tName_any (bs tx) _ (by rw [bs_size]; omega)).mono ?_
      rintro e w2 ⟨rfl, rfl⟩
      rw [bs_list]
      go_wp2
      go_ret
      exact ⟨by rw [HX.out, hcl]; rfl, hb2⟩
    | false =>
      go_wp2
      go_ret
      exact ⟨by rw [HX.out, hcl, if_neg (by simp)]; exact congrArg (fun b => Ending.returned (Value.bool b)) (bs_isEmpty tx), hb2⟩
  · have hn0 : (n == 0) = false := by rw [beq_eq_false_iff_ne]; exact hn
    have HX : Hid (fieldsB ⟨kd, n, k, sz, tx⟩ = false) := Lib.hid (by simp [fieldsB, fieldsM, h1, h11, h33, hn])
    go_enter Tryz.func91, Tryz.ntmps91
    go_wp2
    go_ret
    exact ⟨by rw [HX.out]; rfl, hb0⟩

theorem nameB_len20 {l : List UInt8} (h : nameB l = true) : l.length ≤ 20 := by
  cases l with
  | nil => simp
  | cons c l =>
    rw [nameB] at h
    simp only [Bool.and_eq_true, decide_eq_true_eq] at h
    rw [List.length_cons]
    omega
theorem fieldsM_len {M : Nat} {x : PNode} (h : fieldsM M x = true) (hM : M ≤ 50000) : x.text.length ≤ 100000 := by
  unfold fieldsM at h
  split at h
  · simp only [Bool.and_eq_true, decide_eq_true_eq] at h
    omega
  split at h
  · simp only [Bool.and_eq_true, decide_eq_true_eq] at h
    rw [h.2]; simp
  split at h
  · simp only [Bool.and_eq_true, decide_eq_true_eq] at h
    rw [h.2]; simp
  split at h
  · cases h
  split at h
  · simp only [Bool.or_eq_true, decide_eq_true_eq] at h
    rcases h with h | h
    · have := nameB_len20 h
      omega
    · rw [h]; simp
  split at h
  · have := nameB_len20 h
    omega
  · simp only [decide_eq_true_eq] at h
    rw [h]; simp

end Go.Proofs.YtepebnblbheegaaGreatDoor
