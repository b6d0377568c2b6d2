/- TextNames. -/
import Derived.Test.YtdadgodjjfgmfaaDoorFirst1
namespace Go.Proofs.YtdadgodjjfgmfaaDoor
open Go Go.RowKit

/-- Is each byte one that may stand where it stands in a name? -/
def allB : List UInt8 → Bool
  | [] => true
  | c :: l => isBegin c && l.all isGo

set_option maxRecDepth 100000 in
theorem textNames_long (s : ByteArray) (w : World) (h : 300 < s.size) :
    Calls Tryd.prog 5 #[.string s] w fun e w' => e = .returned (.bool true) ∧ Below w.heap.size w w' := by
  go_enter Tryd.func5, Tryd.ntmps5
  go_wp2_with (go_at_call 20; refine (first1_any _).mono ?_; rintro e w1 ⟨rfl, hb1⟩)
  go_ret
  exact ⟨rfl, hb1⟩

theorem allB_succ (s : ByteArray) (k : Nat) (h : k < s.size) : allB (s.data.toList.take (k + 1)) = (allB (s.data.toList.take k) && (isBegin s[k] || (isDigit s[k] && decide (0 < k)))) := by
  have h1 : k < s.data.toList.length := by rw [size_eq]; exact h
  rw [List.take_succ_eq_append_getElem h1]
  have e : s.data.toList[k] = s[k] := by simp; rfl
  rw [e]
  cases k with
  | zero => simp [allB]
  | succ k =>
    cases hl : s.data.toList with
    | nil => rw [hl] at h1; simp at h1
    | cons c l => simp [allB, isGo, Bool.and_assoc]

theorem isGo_of_begin (c : UInt8) (h : isBegin c = true) : isGo c = true := by simp [isGo, h]
theorem nameB_not (l : List UInt8) (h : allB l = false) : nameB l = false := by
  cases l with
  | nil => rfl
  | cons c l =>
    simp only [allB] at h
    simp only [nameB, List.all_cons]
    cases hb : isBegin c with
    | false => simp
    | true =>
      rw [hb, Bool.true_and] at h
      simp [h]
theorem nameB_all (s : ByteArray) (h1 : 1 ≤ s.size) (h : allB s.data.toList = true) : nameB s.data.toList = decide ((s.size : Int) ≤ 20) := by
  have hl := size_eq s
  cases e : s.data.toList with
  | nil => rw [e] at hl; simp at hl; omega
  | cons c l =>
    rw [e] at h hl
    simp only [allB, Bool.and_eq_true] at h
    simp only [List.length_cons] at hl
    simp only [nameB, List.all_cons, h.1, h.2, isGo_of_begin c h.1, Bool.and_true]
    rw [Bool.eq_iff_iff, decide_eq_true_eq, decide_eq_true_eq]
    omega
theorem takeWhile_all (l r : List UInt8) (h : l.all isGo = true) (hr : r = [] ∨ ∃ m, r = 45 :: m) : (l ++ r).takeWhile isGo = l := by
  induction l with
  | nil =>
    rcases hr with rfl | ⟨m, rfl⟩
    · rfl
    · rfl
  | cons c l ih =>
    simp only [List.all_cons, Bool.and_eq_true] at h
    rw [List.cons_append, List.takeWhile_cons_of_pos h.1, ih h.2]
theorem run_full (l r : List UInt8) (h : allB l = true) (hr : r = [] ∨ ∃ m, r = 45 :: m) : runName (l ++ r) = l := by
  cases l with
  | nil =>
    rcases hr with rfl | ⟨m, rfl⟩
    · rfl
    · rfl
  | cons c l =>
    simp only [allB, Bool.and_eq_true] at h
    rw [List.cons_append, runName, if_pos h.1, ← List.cons_append]
    exact takeWhile_all (c :: l) r (by rw [List.all_cons, isGo_of_begin c h.1, h.2]; rfl) hr

theorem ex_dash0 (q : Addr) (w : World) (hc : w.cell? q = some (.string ⟨#[45]⟩)) :
    Calls Tryd.prog 23 #[.pointer (some q), .int .i64 0] w fun e w' => e = .returned (.string ⟨#[]⟩) ∧ Below w.heap.size w w' :=
  sName_any q ⟨#[45]⟩ 0 w (by decide) (by decide) hc
theorem ex_dash1 (q : Addr) (w : World) (hc : w.cell? q = some (.string ⟨#[45]⟩)) :
    Calls Tryd.prog 23 #[.pointer (some q), .int .i64 1] w fun e w' => e = .returned (.string ⟨#[]⟩) ∧ Below w.heap.size w w' :=
  sName_any q ⟨#[45]⟩ 1 w (by decide) (by decide) hc

set_option maxRecDepth 100000 in
theorem textNames_none (w : World) :
    Calls Tryd.prog 5 #[.string ⟨#[]⟩] w fun e w' => e = .returned (.bool true) ∧ Below w.heap.size w w' := by
  go_enter Tryd.func5, Tryd.ntmps5
  go_wp2_with (go_at_call 20; refine (first1_any _).mono ?_; rintro e w1 ⟨rfl, hb1⟩)
  go_loopg [5, 6] 0 (fun m c d wr => m = 0 ∧ c = .bool true ∧ d = .int .i64 0 ∧ wr = w1)
  case atStart => exact ⟨rfl, rfl, rfl, rfl⟩
  case round =>
    obtain ⟨rfl, rfl, rfl, rfl⟩ := hrel
    have hT : ((⟨#[]⟩ : ByteArray) ++ (⟨#[45]⟩ : ByteArray) ++ (⟨#[]⟩ : ByteArray)) = (⟨#[45]⟩ : ByteArray) := rfl
    go_wp2_with fail
    refine (tNew_ok _ _ (by decide)).mono ?_
    rintro e w2 ⟨rfl, hS2, hb2⟩
    have hc2 := hS2.cell 0 rfl
    go_wp2_with fail
    refine (tName_empty _).mono ?_
    rintro e w3 ⟨rfl, rfl⟩
    go_wp2_with fail
    refine (ex_dash0 _ _ hc2).mono ?_
    rintro e w3 ⟨rfl, hb3⟩
    have hc3 := bSome hb3 hc2
    go_wp2_with fail
    refine (ex_dash1 _ _ hc3).mono ?_
    rintro e w4 ⟨rfl, hb4⟩
    have hc4 := bSome hb4 hc3
    go_wp2_with fail
    refine (ex_dash0 _ _ hc4).mono ?_
    rintro e w5 ⟨rfl, hb5⟩
    go_wp2_with fail
    go_ret
    exact ⟨rfl, bNext (bNext (bNext (bNext hb1 hb2) hb3) hb4) hb5⟩

set_option maxHeartbeats 4000000 in
set_option maxRecDepth 100000 in
theorem textNames_some (s : ByteArray) (w : World) (h1 : 1 ≤ s.size) (hs : s.size ≤ 300) :
    Calls Tryd.prog 5 #[.string s] w fun e w' => e = .returned (.bool true) ∧ Below w.heap.size w w' := by
  go_enter Tryd.func5, Tryd.ntmps5
  go_wp2_with (go_at_call 20; refine (first1_any _).mono ?_; rintro e w1 ⟨rfl, hb1⟩)
  go_loopg [5, 6] (s.size) (fun m c d wr => ∃ k : Nat, m = s.size - k ∧ k ≤ s.size ∧ c = .bool (allB (s.data.toList.take k)) ∧ d = .int .i64 k ∧ Below w.heap.size w wr)
  case atStart => exact ⟨0, rfl, Nat.zero_le _, rfl, rfl, hb1⟩
  case round =>
    clear hb1
    obtain ⟨k, rfl, hk, rfl, rfl, hb⟩ := hrel
    by_cases hlt : k < s.size
    · have hst := Lib.hid (allB_succ s k hlt)
      cases ha : allB (s.data.toList.take k) with
      | false =>
        have HN := Lib.hid (show false = allB (s.data.toList.take (k + 1)) by rw [hst.out, ha]; rfl)
        clear hst ha
        go_wp2_with fail
        all_goals
          go_roundg (s.size - (k + 1))
          case measure => omega
          case rel => exact ⟨k + 1, rfl, by omega, congrArg Value.bool HN.out, by go_num, hb⟩
      | true =>
        have HN := Lib.hid (show (isBegin s[k] || (isDigit s[k] && decide (0 < k))) = allB (s.data.toList.take (k + 1)) by rw [hst.out, ha]; rfl)
        clear hst ha
        go_wp2_with fail
        all_goals
          go_roundg (s.size - (k + 1))
          case measure => omega
          case rel =>
            refine ⟨k + 1, rfl, by omega, congrArg Value.bool ?_, by go_num, hb⟩
            rw [← HN.out, Bool.eq_iff_iff]
            unfold isBegin isLetter isDigit
            simp only [Bool.or_eq_true, Bool.and_eq_true, decide_eq_true_eq, beq_iff_eq, Bool.false_eq_true, eq_self, true_iff, false_iff]
            omega
    · obtain rfl : k = s.size := by omega
      rw [List.take_of_length_le (by rw [size_eq]; exact Nat.le_refl _)]
      have hT : (s ++ (⟨#[45]⟩ : ByteArray) ++ s).data.toList = s.data.toList ++ 45 :: s.data.toList := by simp
      have hTs : (s ++ (⟨#[45]⟩ : ByteArray) ++ s).size = s.size + 1 + s.size := by simp [ByteArray.size_append]; rfl
      cases hA : allB s.data.toList with
      | false =>
        have HN := Lib.hid (nameB_not s.data.toList hA)
        clear hA hT
        go_wp2_with fail
        refine (tNew_ok _ _ (by rw [hTs]; omega)).mono ?_
        rintro e w2 ⟨rfl, hS2, hb2⟩
        go_wp2_with fail
        refine (tName_any s _ (by omega)).mono ?_
        rintro e w3 ⟨rfl, rfl⟩
        rw [HN.out]
        go_wp2_with fail
        all_goals (go_ret; exact ⟨rfl, bNext hb hb2⟩)
      | true =>
        have HN := Lib.hid (nameB_all s h1 hA)
        have HR0 := Lib.hid (show bs (runName (List.drop 0 (s ++ (⟨#[45]⟩ : ByteArray) ++ s).data.toList)) = s by rw [hT, List.drop_zero, run_full _ _ hA (.inr ⟨_, rfl⟩), bs_of])
        have HR1 := Lib.hid (show bs (runName (List.drop (s.size + 1) (s ++ (⟨#[45]⟩ : ByteArray) ++ s).data.toList)) = s by
          have e : List.drop (s.size + 1) (s.data.toList ++ 45 :: s.data.toList) = s.data.toList := by
            rw [← size_eq s, List.drop_append, List.drop_eq_nil_of_le (by omega)]
            simp
          have r := run_full s.data.toList [] hA (.inl rfl)
          rw [List.append_nil] at r
          rw [hT, e, r, bs_of])
        have HR2 := Lib.hid (show bs (runName (List.drop s.size (s ++ (⟨#[45]⟩ : ByteArray) ++ s).data.toList)) = ⟨#[]⟩ by
          rw [hT, ← size_eq s, List.drop_left]
          rfl)
        clear hA hT
        go_wp2_with fail
        refine (tNew_ok _ _ (by rw [hTs]; omega)).mono ?_
        rintro e w2 ⟨rfl, hS2, hb2⟩
        have hc2 := hS2.cell 0 rfl
        go_wp2_with fail
        refine (tName_any s _ (by omega)).mono ?_
        rintro e w3 ⟨rfl, rfl⟩
        rw [HN.out]
        go_wp2_with fail
        all_goals
          refine (sName_any _ _ 0 _ (by rw [hTs]; omega) (by omega) hc2).mono ?_
          rintro e w3 ⟨rfl, hb3⟩
          rw [HR0.out]
          have hc3 := bSome hb3 hc2
          go_wp2_with fail
          refine (sName_any _ _ (s.size + 1) _ (by rw [hTs]; omega) (by omega) hc3).mono ?_
          rintro e w4 ⟨rfl, hb4⟩
          rw [HR1.out]
          have hc4 := bSome hb4 hc3
          go_wp2_with fail
          refine (sName_any _ _ s.size _ (by rw [hTs]; omega) (by omega) hc4).mono ?_
          rintro e w5 ⟨rfl, hb5⟩
          rw [HR2.out]
          go_wp2_with fail
          go_ret
          exact ⟨rfl, bNext (bNext (bNext (bNext hb hb2) hb3) hb4) hb5⟩


/-- patoislaw1.TextNames. -/
theorem textNames_any (s : ByteArray) (w : World) :
    Calls Tryd.prog 5 #[.string s] w fun e w' => e = .returned (.bool true) ∧ Below w.heap.size w w' := by
  by_cases h : 300 < s.size
  · exact textNames_long s w h
  · by_cases h0 : s.size = 0
    · rw [empty_of_size s h0]
      exact textNames_none w
    · exact textNames_some s w (by omega) (by omega)

end Go.Proofs.YtdadgodjjfgmfaaDoor
