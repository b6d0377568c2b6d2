/- What the methods of a source return: contracts, each over any world. -/
import Derived.Test.YtdadgodjjfgmfaaDoorText
namespace Go.Proofs.YtdadgodjjfgmfaaDoor
open Go Go.RowKit

theorem takeWhile_of (p : UInt8 → Bool) (l : List UInt8) (n : Nat) (h1 : (l.take n).all p = true) (h2 : ∀ c m, l.drop n = c :: m → p c = false) : l.takeWhile p = l.take n := by
  induction l generalizing n with
  | nil => simp
  | cons c l ih =>
    cases n with
    | zero =>
      have := h2 c l rfl
      simp [this]
    | succ n =>
      simp only [List.take_succ_cons, List.all_cons, Bool.and_eq_true] at h1
      rw [List.takeWhile_cons_of_pos h1.1, List.take_succ_cons, ih n h1.2 (fun c m h => h2 c m (by simpa using h))]

/-- What the run's loop has come to. -/
theorem run_end (s : ByteArray) (i k : Nat) (hi : i < s.size) (hik : i ≤ k) (hk : k ≤ s.size) (hb : isBegin (bat s i) = true) (hall : ((s.data.toList.drop i).take (k - i)).all isGo = true) (hend : k < s.size → isGo (bat s k) = false) :
    runName (s.data.toList.drop i) = subs s.data.toList i k := by
  have h := drop_bat s i hi
  have e : subs s.data.toList i k = (s.data.toList.drop i).take (k - i) := by
    unfold subs
    rw [show ((i : Nat) : Int).toNat = i from rfl, show ((k : Nat) : Int).toNat = k from rfl, List.drop_take]
  rw [e, ← takeWhile_of isGo (s.data.toList.drop i) (k - i) hall ?_, h, runName, if_pos hb]
  intro c m hcm
  rw [List.drop_drop, show i + (k - i) = k from by omega] at hcm
  by_cases hlt : k < s.size
  · rw [drop_bat s k hlt] at hcm
    injection hcm with h1 _
    rw [← h1]
    exact hend hlt
  · rw [List.drop_eq_nil_of_le (by rw [size_eq]; omega)] at hcm
    cases hcm

theorem run_step (s : ByteArray) (i k : Nat) (hik : i ≤ k) (hk : k < s.size) (hall : ((s.data.toList.drop i).take (k - i)).all isGo = true) (hg : isGo (bat s k) = true) : ((s.data.toList.drop i).take (k + 1 - i)).all isGo = true := by
  rw [show k + 1 - i = (k - i) + 1 from by omega]
  have h1 : k - i < (s.data.toList.drop i).length := by rw [List.length_drop, size_eq]; omega
  rw [List.take_succ_eq_append_getElem h1, List.all_append, hall, Bool.true_and, List.all_cons, List.all_nil, Bool.and_true]
  rw [← hg]
  congr 1
  have h2 : k < s.data.size := hk
  simp [bat, List.getD, Array.getElem?_eq_getElem h2, show i + (k - i) = k from by omega]

theorem run_none (s : ByteArray) (i : Nat) (h : s.size ≤ i) : runName (s.data.toList.drop i) = [] := by
  rw [List.drop_eq_nil_of_le (by rw [size_eq]; omega)]
  rfl

theorem run_not (s : ByteArray) (i : Nat) (h : i < s.size) (hb : isBegin (bat s i) = false) : runName (s.data.toList.drop i) = [] := by
  rw [drop_bat s i h, runName, hb]
  rfl

theorem sName_high (q : Addr) (s : ByteArray) (i : Nat) (w : World) (hs : s.size ≤ 1000000) (hi : s.size ≤ i) (hi2 : i ≤ 10000000) (hc : w.cell? q = some (.string s)) :
    Calls Tryd.prog 23 #[.pointer (some q), .int .i64 i] w fun e w' => e = .returned (.string ⟨#[]⟩) ∧ Below w.heap.size w w' := by
  go_enter Tryd.func23, Tryd.ntmps23
  go_wp2_with (go_at_call 27; refine (bByte_high s _ _ hs (by omega)).mono ?_; rintro e w' ⟨rfl, hb⟩)
  go_ret
  exact ⟨rfl, hb⟩

theorem sName_not (q : Addr) (s : ByteArray) (i : Nat) (w : World) (hs : s.size ≤ 1000000) (hi : i < s.size) (hb : Hid (isBegin (bat s i) = false)) (hc : w.cell? q = some (.string s)) :
    Calls Tryd.prog 23 #[.pointer (some q), .int .i64 i] w fun e w' => e = .returned (.string ⟨#[]⟩) ∧ Below w.heap.size w w' := by
  go_enter Tryd.func23, Tryd.ntmps23
  go_wp2_with (first | (go_at_call 27; refine (bByte_in s _ _ hs (by omega)).mono ?_; rintro e w' ⟨rfl, hb1⟩) | (go_at_call 50; refine (tBegins_any _ _).mono ?_; rintro e w' ⟨rfl, rfl⟩; rw [hb.out]))
  go_ret
  exact ⟨rfl, ‹_›⟩

theorem sName_run (q : Addr) (s : ByteArray) (i : Nat) (w : World) (hs : s.size ≤ 1000000) (hi : i < s.size) (hb : Hid (isBegin (bat s i) = true)) (hc : w.cell? q = some (.string s)) (r : List UInt8)
    (hr : Hid (∀ k : Nat, i ≤ k → k ≤ s.size → ((s.data.toList.drop i).take (k - i)).all isGo = true → (k < s.size → isGo (bat s k) = false) → subs s.data.toList i k = r)) :
    Calls Tryd.prog 23 #[.pointer (some q), .int .i64 i] w fun e w' => e = .returned (.string (bs r)) ∧ Below w.heap.size w w' := by
  go_enter Tryd.func23, Tryd.ntmps23
  go_wp2_with (first | (go_at_call 27; refine (bByte_in s _ _ hs (by omega)).mono ?_; rintro e w1 ⟨rfl, hb1⟩) | (go_at_call 50; refine (tBegins_any _ _).mono ?_; rintro e w' ⟨rfl, rfl⟩; rw [hb.out]))
  go_loopw [5, 6, 7] (fun c x t wr => ∃ k : Nat, i ≤ k ∧ k ≤ s.size ∧ t = .int .i64 k ∧ Below w.heap.size w wr ∧ Hid (((s.data.toList.drop i).take (k - i)).all isGo = true) ∧
      ((k < s.size ∧ c = .int .u8 (bat s k).toNat ∧ x = .bool true) ∨ (s.size ≤ k ∧ c = .int .u8 0 ∧ x = .bool false))) (fun _ _ t _ => s.size - (intOf t).toNat)
  case atStart => exact ⟨i, Nat.le_refl _, by omega, rfl, ‹_›, Lib.hid (by rw [Nat.sub_self]; rfl), .inl ⟨hi, rfl, rfl⟩⟩
  case round =>
    obtain ⟨k, hik, hk, rfl, hbr, hall, hcase⟩ := hrel
    have hcr := bSome hbr hc
    clear hc
    rcases hcase with ⟨hlt, rfl, rfl⟩ | ⟨hge, rfl, rfl⟩
    · by_cases hg : isGo (bat s k) = true
      · have HG := Lib.hid hg
        have hn := Lib.hid (run_step s i k hik hlt hall.out hg)
        clear hg
        by_cases hlt2 : k + 1 < s.size
        · go_wp2_with (first | (go_at_call 51; refine (tGoesOn_any _ _).mono ?_; rintro e w' ⟨rfl, rfl⟩; rw [HG.out]) | (go_at_call 27; refine (bByte_in s (k + 1) _ hs (by omega)).mono ?_; rintro e w2 ⟨rfl, hb2⟩))
          go_roundw
          case rel => exact ⟨k + 1, by omega, by omega, by go_num, bNext hbr hb2, hn, .inl ⟨hlt2, rfl, rfl⟩⟩
          case measure => simp [intOf]; omega
        · go_wp2_with (first | (go_at_call 51; refine (tGoesOn_any _ _).mono ?_; rintro e w' ⟨rfl, rfl⟩; rw [HG.out]) | (go_at_call 27; refine (bByte_high s _ _ hs (by omega)).mono ?_; rintro e w2 ⟨rfl, hb2⟩))
          go_roundw
          case rel => exact ⟨k + 1, by omega, by omega, by go_num, bNext hbr hb2, hn, .inr ⟨by omega, rfl, rfl⟩⟩
          case measure => simp [intOf]; omega
      · have hg' : isGo (bat s k) = false := by simpa using hg
        have HG := Lib.hid hg'
        have HR := Lib.hid (hr.out k hik hk hall.out (fun _ => hg'))
        clear hg hg'
        go_wp2_with (first | (go_at_call 51; refine (tGoesOn_any _ _).mono ?_; rintro e w' ⟨rfl, rfl⟩; rw [HG.out]) | (go_at_call 26; refine (bSlice_any s _ _ _ hs).mono ?_; rintro e w2 ⟨rfl, hb2⟩))
        go_ret
        exact ⟨by rw [← HR.out]; rfl, bNext hbr ‹_›⟩
    · have HR := Lib.hid (hr.out k hik hk hall.out (fun h => absurd h (by omega)))
      go_wp2_with (first | (go_at_call 26; refine (bSlice_any s _ _ _ hs).mono ?_; rintro e w2 ⟨rfl, hb2⟩))
      go_ret
      exact ⟨by rw [← HR.out]; rfl, bNext hbr ‹_›⟩

/-- (*text.Source).Name, from a place on that is none below 0. -/
theorem sName_any (q : Addr) (s : ByteArray) (i : Nat) (w : World) (hs : s.size ≤ 1000000) (hi2 : i ≤ 10000000) (hc : w.cell? q = some (.string s)) :
    Calls Tryd.prog 23 #[.pointer (some q), .int .i64 i] w fun e w' => e = .returned (.string (bs (runName (s.data.toList.drop i)))) ∧ Below w.heap.size w w' := by
  by_cases hi : s.size ≤ i
  · rw [run_none s i hi]
    exact sName_high q s i w hs hi hi2 hc
  · cases hb : isBegin (bat s i) with
    | false =>
      rw [run_not s i (by omega) hb]
      exact sName_not q s i w hs (by omega) (Lib.hid hb) hc
    | true =>
      exact sName_run q s i w hs (by omega) (Lib.hid hb) hc _ (Lib.hid fun k h1 h2 h3 h4 => (run_end s i k (by omega) h1 h2 hb h3 h4).symm)

theorem tNew_ok0 (s : ByteArray) (w : World) (hs : s.size ≤ 8192) :
    Calls Tryd.prog 21 #[.string s] w fun e w' => e = .returned (.tuple #[.pointer (some ⟨w.heap.size, 0, none⟩), .nilIface]) ∧ w.alloc (.cells #[.string s] 48) = w' := by
  go_enter Tryd.func21, Tryd.ntmps21
  go_wp2
  go_ret2
  exact ⟨rfl, rfl⟩

/-- text.New of a text that is no longer than it may be. -/
theorem tNew_ok (s : ByteArray) (w : World) (hs : s.size ≤ 8192) :
    Calls Tryd.prog 21 #[.string s] w fun e w' => e = .returned (.tuple #[.pointer (some ⟨w.heap.size, 0, none⟩), .nilIface]) ∧ Blk w' w.heap.size [.string s] ∧ Below w.heap.size w w' := by
  refine (tNew_ok0 s w hs).mono ?_
  rintro e w' ⟨rfl, rfl⟩
  exact ⟨rfl, Blk.new w [.string s] _, (Below.refl _ _).alloc (Nat.le_refl _) _⟩

/-- text.New of a longer text. -/
theorem tNew_long (s : ByteArray) (v : Value) (w : World) (hs : 8192 < s.size) (hs2 : s.size ≤ 140737488355328) (hg : w.cell? ⟨0, 0, none⟩ = some v) :
    Calls Tryd.prog 21 #[.string s] w fun e w' => e = .returned (.tuple #[.pointer none, v]) ∧ Below w.heap.size w w' := by
  go_enter Tryd.func21, Tryd.ntmps21
  go_wp2
  go_quiet (fail)
  go_wp2
  go_ret2
  exact ⟨rfl, bDrewN (Below.refl _ _) _⟩

end Go.Proofs.YtdadgodjjfgmfaaDoor
