/- The document's runs and numbers, and what a source answers anywhere: contracts. -/
import Derived.Test.YtdadgodjjfgmfaaDoorText5
import Derived.Laws.IdiomStrings
import Derived.Deep.RegionHeld
namespace Go.Proofs.YtdadgodjjfgmfaaDoor
open Go Go.RowKit

theorem bDrew6 {B : Nat} {a w : World} (h : Below B a w) : Below B a w.drew := ⟨h.os, h.tape, h.output, h.size, h.block⟩
theorem bMore6 {a w : World} (h : Below a.heap.size a w) (o : Obj) : Below a.heap.size a (w.alloc o) := h.alloc h.size o

theorem bHas_low (s t : ByteArray) (i : Int) (w : World) (hs : s.size ≤ 1000000) (hi : i < 0) :
    Calls Tryd.prog 28 #[.agg #[.string s], .int .i64 i, .string t] w fun e w' => e = .returned (.bool false) ∧ Below w.heap.size w w' := by
  go_enter Tryd.func28, Tryd.ntmps28
  go_wp2_with fail
  go_ret
  exact ⟨rfl, (Below.refl _ _).alloc (Nat.le_refl _) _⟩
theorem bHas_high (s t : ByteArray) (i : Int) (w : World) (hs : s.size ≤ 1000000) (hi : (s.size : Int) < i) :
    Calls Tryd.prog 28 #[.agg #[.string s], .int .i64 i, .string t] w fun e w' => e = .returned (.bool false) ∧ Below w.heap.size w w' := by
  have h0 : 0 ≤ i := by omega
  go_enter Tryd.func28, Tryd.ntmps28
  go_wp2_with fail
  go_ret
  exact ⟨rfl, (Below.refl _ _).alloc (Nat.le_refl _) _⟩
theorem sName_low (q : Addr) (s : ByteArray) (i : Int) (w : World) (hs : s.size ≤ 1000000) (hi : i < 0) (hc : w.cell? q = some (.string s)) :
    Calls Tryd.prog 23 #[.pointer (some q), .int .i64 i] w fun e w' => e = .returned (.string ⟨#[]⟩) ∧ Below w.heap.size w w' := by
  go_enter Tryd.func23, Tryd.ntmps23
  go_wp2_with (go_at_call 27; refine (bByte_low s _ _ hs (by omega)).mono ?_; rintro e w' ⟨rfl, hb⟩)
  go_ret
  exact ⟨rfl, hb⟩
theorem sName_over (q : Addr) (s : ByteArray) (i : Int) (w : World) (hs : s.size ≤ 1000000) (hi : (s.size : Int) ≤ i) (hc : w.cell? q = some (.string s)) :
    Calls Tryd.prog 23 #[.pointer (some q), .int .i64 i] w fun e w' => e = .returned (.string ⟨#[]⟩) ∧ Below w.heap.size w w' := by
  go_enter Tryd.func23, Tryd.ntmps23
  go_wp2_with (go_at_call 27; refine (bByte_high s _ _ hs (by omega)).mono ?_; rintro e w' ⟨rfl, hb⟩)
  go_ret
  exact ⟨rfl, hb⟩

theorem rRun_not (s : ByteArray) (i : Nat) (w : World) (hs : s.size ≤ 1000000) (hi : i < s.size) (hb : Hid (isGo s[i] = false)) :
    Calls Tryd.prog 36 #[.string s, .int .i64 i] w fun e w' => e = .returned (.int .i64 i) ∧ w = w' := by
  go_enter Tryd.func36, Tryd.ntmps36
  go_wp2_with (go_at_call 32; refine (rLetter_any _ _).mono ?_; rintro e w' ⟨rfl, rfl⟩; rw [hb.out])
  go_ret
  exact ⟨rfl, rfl⟩
theorem rRun_digit (s : ByteArray) (i : Nat) (w : World) (hs : s.size ≤ 1000000) (hi : i < s.size) (hb : Hid (isGo s[i] = true)) (h1 : decide ((48 : Int) ≤ s[i].toNat) = true) (h2 : decide ((s[i].toNat : Int) ≤ 57) = true) :
    Calls Tryd.prog 36 #[.string s, .int .i64 i] w fun e w' => e = .returned (.int .i64 i) ∧ w = w' := by
  go_enter Tryd.func36, Tryd.ntmps36
  go_wp2_with (go_at_call 32; refine (rLetter_any _ _).mono ?_; rintro e w' ⟨rfl, rfl⟩; rw [hb.out])
  go_ret
  exact ⟨rfl, rfl⟩
theorem rRun_loop (s : ByteArray) (i : Nat) (w : World) (hs : s.size ≤ 1000000) (hi : i < s.size) (hb : Hid (isGo s[i] = true)) (hd : decide ((48 : Int) ≤ s[i].toNat) = false ∨ (decide ((48 : Int) ≤ s[i].toNat) = true ∧ decide ((s[i].toNat : Int) ≤ 57) = false)) (r : Nat)
    (hr : Hid (∀ k : Nat, i ≤ k → k ≤ s.size → ((s.data.toList.drop i).take (k - i)).all isGo = true → (k < s.size → isGo (bat s k) = false) → k = r)) :
    Calls Tryd.prog 36 #[.string s, .int .i64 i] w fun e w' => e = .returned (.int .i64 r) ∧ w = w' := by
  have hnle : ¬ s.size ≤ i := by omega
  go_enter Tryd.func36, Tryd.ntmps36
  rcases hd with hd | ⟨hd, he⟩
  all_goals
    go_wp2_with (go_at_call 32; refine (rLetter_any _ _).mono ?_; rintro e w' ⟨rfl, rfl⟩; rw [hb.out])
    go_loopg [5] (s.size - i) (fun m c wr => ∃ k : Nat, m = s.size - k ∧ i ≤ k ∧ k ≤ s.size ∧ c = .int .i64 k ∧ wr = w ∧ Hid (((s.data.toList.drop i).take (k - i)).all isGo = true))
    case atStart => exact ⟨i, rfl, Nat.le_refl _, by omega, rfl, rfl, Lib.hid (by rw [Nat.sub_self]; rfl)⟩
    case round =>
      obtain ⟨k, rfl, hik, hk, rfl, rfl, hall⟩ := hrel
      by_cases hlt : k < s.size
      · by_cases hg : isGo s[k] = true
        · have HG := Lib.hid hg
          have HN := Lib.hid (run_step s i k hik hlt hall.out (by rw [← getElem_bat s k hlt]; exact hg))
          clear hg
          go_wp2_with (go_at_call 32; refine (rLetter_any _ _).mono ?_; rintro e w' ⟨rfl, rfl⟩; rw [HG.out])
          go_roundg (s.size - (k + 1))
          case measure => omega
          case rel => exact ⟨k + 1, rfl, by omega, by omega, by go_num, rfl, HN⟩
        · have HG := Lib.hid (show isGo s[k] = false by simpa using hg)
          have HR := Lib.hid (hr.out k hik hk hall.out (fun _ => by rw [← getElem_bat s k hlt]; exact HG.out))
          clear hg
          go_wp2_with (go_at_call 32; refine (rLetter_any _ _).mono ?_; rintro e w' ⟨rfl, rfl⟩; rw [HG.out])
          go_ret
          exact ⟨by rw [← HR.out]; rfl, rfl⟩
      · have HR := Lib.hid (hr.out k hik hk hall.out (fun h => absurd h hlt))
        go_wp2
        go_ret
        exact ⟨by rw [← HR.out]; rfl, rfl⟩

/-- patoisref.Run, from a place on that is one. -/
theorem rRun_in (s : ByteArray) (i : Nat) (w : World) (hs : s.size ≤ 1000000) (hi : i < s.size) :
    Calls Tryd.prog 36 #[.string s, .int .i64 i] w fun e w' => e = .returned (.int .i64 ((i + (runName (s.data.toList.drop i)).length : Nat) : Int)) ∧ w = w' := by
  have hb0 := getElem_bat s i hi
  by_cases hbeg : isBegin s[i] = true
  · have hgo : isGo s[i] = true := by rw [isGo, hbeg]; rfl
    have hdig : isDigit s[i] = false := by
      have := digit_begin s[i]
      rw [hbeg] at this
      cases h : isDigit s[i] with
      | false => rfl
      | true => rw [h] at this; simp at this
    refine rRun_loop s i w hs hi (Lib.hid hgo) ?_ _ (Lib.hid fun k h1 h2 h3 h4 => ?_)
    · by_cases h1 : (48 : Int) ≤ s[i].toNat
      · by_cases h2 : (s[i].toNat : Int) ≤ 57
        · have e : isDigit s[i] = true := by unfold isDigit; rw [Bool.and_eq_true, decide_eq_true_eq, decide_eq_true_eq]; omega
          rw [e] at hdig
          cases hdig
        · exact .inr ⟨decide_eq_true h1, decide_eq_false h2⟩
      · exact .inl (decide_eq_false h1)
    · rw [run_end s i k hi h1 h2 (by rw [← hb0]; exact hbeg) h3 h4]
      unfold subs
      rw [show ((i : Nat) : Int).toNat = i from rfl, show ((k : Nat) : Int).toNat = k from rfl, List.length_drop, List.length_take, size_eq]
      omega
  · have hbeg' : isBegin s[i] = false := by simpa using hbeg
    rw [run_not s i hi (by rw [← hb0]; exact hbeg')]
    by_cases hgo : isGo s[i] = true
    · have hdig : isDigit s[i] = true := by rw [isGo, hbeg', Bool.false_or] at hgo; exact hgo
      have hd2 := hdig
      unfold isDigit at hd2
      rw [Bool.and_eq_true, decide_eq_true_eq, decide_eq_true_eq] at hd2
      exact rRun_digit s i w hs hi (Lib.hid hgo) (decide_eq_true (by omega)) (decide_eq_true (by omega))
    · exact rRun_not s i w hs hi (Lib.hid (by simpa using hgo))

theorem conv_num (c : UInt8) (z : Int) (hz : (c.toNat : Int) = z) (w : World) (b : Nat) (h : w.cell? ⟨b, 0, none⟩ = some (.int .u8 z)) : (convert 51 9 (.slice (some ⟨b, 0, none⟩) 1 1)).run Tryd.prog w = .ok (.string (bs [c])) w := by
  refine run_convert_bytes_back _ _ _ 5 ⟨b, 0, none⟩ 1 [c] Tryd.underlying51 Tryd.underlying5 Tryd.underlying9 ?_
  intro j hj
  have : j = 0 := by simp at hj; omega
  subst this
  show w.cell? ⟨b, 0, none⟩ = _
  rw [h, ← hz]
  rfl

set_option maxRecDepth 100000 in
theorem rNumber_small (n : Nat) (w : World) (hn : n < 10) :
    Calls Tryd.prog 38 #[.int .i64 n] w fun e w' => e = .returned (.string (bs (Lib.decDigits n))) ∧ Below w.heap.size w w' := by
  obtain ⟨c, hc⟩ : ∃ c, UInt8.ofNat (48 + n) = c := ⟨_, rfl⟩
  have HD := Lib.hid (Lib.decDigits_one hn)
  rw [hc] at HD
  have HC := conv_num c (48 + (n : Int)) (by rw [← hc, (digit_of n hn).1]; omega)
  clear hc
  go_enter Tryd.func38, Tryd.ntmps38
  go_wp2_with fail
  go_ret
  exact ⟨by rw [HD.out]; rfl, (Below.refl _ _).alloc (Nat.le_refl _) _⟩

set_option maxHeartbeats 4000000 in
set_option maxRecDepth 100000 in
theorem rNumber_big (n m d : Nat) (hm : n / 10 = m) (hd : n % 10 = d) (w : World) (hn : ¬ n < 10) (hn2 : n ≤ 9223372036854775807) (HI : Hid (∀ w1 : World, Calls Tryd.prog 38 #[.int .i64 m] w1 fun e w' => e = .returned (.string (bs (Lib.decDigits m))) ∧ Below w1.heap.size w1 w')) :
    Calls Tryd.prog 38 #[.int .i64 n] w fun e w' => e = .returned (.string (bs (Lib.decDigits n))) ∧ Below w.heap.size w w' := by
  have hd10 : d < 10 := by omega
  obtain ⟨c, hc⟩ : ∃ c, UInt8.ofNat (48 + d) = c := ⟨_, rfl⟩
  obtain ⟨t1, ht1⟩ : ∃ t1, bs (Lib.decDigits m) = t1 := ⟨_, rfl⟩
  obtain ⟨t2, ht2⟩ : ∃ t2, bs [c] = t2 := ⟨_, rfl⟩
  have HD : Hid (t1 ++ t2 = bs (Lib.decDigits n)) := Lib.hid (by
    rw [← ht1, ← ht2, ← hc]
    conv => rhs; rw [Lib.decDigits, dif_neg hn, hm, hd]
    unfold bs
    apply ByteArray.ext
    simp)
  have hz1 : t1.size ≤ 20 := by
    rw [← ht1, bs_size, Lib.decDigits_length]
    exact nDigits_le 19 m (by omega)
  have hz2 : t2.size = 1 := by rw [← ht2, bs_size]; rfl
  rw [ht1] at HI
  have HC := conv_num c (48 + (d : Int)) (by rw [← hc, (digit_of _ hd10).1]; omega)
  rw [ht2] at HC
  clear hc ht1 ht2
  have e1 : (n : Int) / 10 = (m : Int) := by omega
  have e2 : (n : Int) % 10 = (d : Int) := by omega
  have e3 : Int.tdiv (n : Int) 10 = (m : Int) := by rw [Int.tdiv_eq_ediv_of_nonneg (by omega)]; exact e1
  have e4 : Int.tmod (n : Int) 10 = (d : Int) := by rw [Int.tmod_eq_emod_of_nonneg (by omega)]; exact e2
  have e5 : IntKind.i64.wrap (m : Int) = (m : Int) := by rw [IntKind.wrap_i64]; omega
  have e6 : IntKind.i64.wrap (d : Int) = (d : Int) := by rw [IntKind.wrap_i64]; omega
  have e7 : IntKind.i64.wrap (48 + (d : Int)) = 48 + (d : Int) := by rw [IntKind.wrap_i64]; omega
  have e8 : IntKind.u8.wrap (48 + (d : Int)) = 48 + (d : Int) := by
    have : d = 0 ∨ d = 1 ∨ d = 2 ∨ d = 3 ∨ d = 4 ∨ d = 5 ∨ d = 6 ∨ d = 7 ∨ d = 8 ∨ d = 9 := by omega
    rcases this with h | h | h | h | h | h | h | h | h | h <;> subst h <;> decide
  go_enter Tryd.func38, Tryd.ntmps38
  go_wp2_with fail
  go_region_held (fun w' => Below w.heap.size w w') (first | exact bDrewN (Below.refl _ _) 1 | assumption | exact ⟨rfl, rfl, rfl, Nat.le_refl _, fun _ _ => rfl⟩ | (repeat (first | assumption | exact Below.refl _ _ | with_reducible refine bDrew6 ?_ | with_reducible refine bMore6 ?_ _ | refine bNext ?_ (by assumption))))
    (first
      | (go_at_call 38; refine (HI.out _).mono ?_; rintro e w5 ⟨rfl, hb5⟩; (try have T1 := bSome hb5 (p := ⟨w.heap.size, 0, none⟩) (v := .int .u8 (48 + (d : Int))) (by first | assumption | exact (Blk.newAt [.int .u8 (48 + (d : Int))] _ rfl).cell 0 rfl))))
  all_goals
    rename_i hh
    go_wp2_with fail
    go_ret
    exact ⟨by rw [← HD.out]; rfl, hh⟩

theorem rNumber_nat (n : Nat) : ∀ w : World, n ≤ 9223372036854775807 →
    Calls Tryd.prog 38 #[.int .i64 n] w fun e w' => e = .returned (.string (bs (Lib.decDigits n))) ∧ Below w.heap.size w w' := by
  induction n using Nat.strongRecOn with
  | _ n ih =>
    intro w hn
    by_cases h : n < 10
    · exact rNumber_small n w h
    · exact rNumber_big n (n / 10) (n % 10) rfl rfl w h hn (Lib.hid fun w1 => ih (n / 10) (by omega) w1 (by omega))

theorem itoa_least : bs (Lib.itoa (-9223372036854775808)) = ⟨#[45, 57, 50, 50, 51, 51, 55, 50, 48, 51, 54, 56, 53, 52, 55, 55, 53, 56, 48, 56]⟩ := by
  have h := dec_digits 19 [57, 50, 50, 51, 51, 55, 50, 48, 51, 54, 56, 53, 52, 55, 55, 53, 56, 48, 56] 9223372036854775808 rfl (by simp) (fun _ => by simp) (by decide +kernel)
  rw [Lib.itoa, if_pos (by decide), show ((-9223372036854775808 : Int)).natAbs = 9223372036854775808 from rfl, h]
  rfl

set_option maxRecDepth 100000 in
theorem rNumber_least (n : Int) (w : World) (hn : n < -9223372036854775807) (hn2 : -9223372036854775808 ≤ n) :
    Calls Tryd.prog 38 #[.int .i64 n] w fun e w' => e = .returned (.string (bs (Lib.itoa n))) ∧ Below w.heap.size w w' := by
  obtain rfl : n = -9223372036854775808 := by omega
  rw [itoa_least]
  go_enter Tryd.func38, Tryd.ntmps38
  go_wp2_with fail
  go_ret
  exact ⟨rfl, Below.refl _ _⟩

set_option maxRecDepth 100000 in
theorem rNumber_neg (n : Int) (w : World) (m : Nat) (hm : -n = (m : Int)) (hn : n < 0) (hn2 : -9223372036854775807 ≤ n) :
    Calls Tryd.prog 38 #[.int .i64 n] w fun e w' => e = .returned (.string (bs (Lib.itoa n))) ∧ Below w.heap.size w w' := by
  obtain ⟨t1, ht1⟩ : ∃ t1, bs (Lib.decDigits m) = t1 := ⟨_, rfl⟩
  have HD : Hid (⟨#[45]⟩ ++ t1 = bs (Lib.itoa n)) := Lib.hid (by
    rw [← ht1, Lib.itoa, if_pos hn, show n.natAbs = m from by omega, show (⟨#[45]⟩ : ByteArray) = bs [45] from rfl]
    unfold bs
    apply ByteArray.ext
    simp)
  have hz1 : t1.size ≤ 20 := by
    rw [← ht1, bs_size, Lib.decDigits_length]
    exact nDigits_le 19 m (by omega)
  have HN := rNumber_nat m w (by omega)
  rw [ht1] at HN
  replace HN := Lib.hid HN
  have e5 : IntKind.i64.wrap (m : Int) = (m : Int) := by rw [IntKind.wrap_i64]; omega
  clear ht1
  go_enter Tryd.func38, Tryd.ntmps38
  go_wp2_with fail
  refine HN.out.mono ?_
  rintro e w1 ⟨rfl, hb1⟩
  go_wp2_with fail
  go_ret
  exact ⟨by rw [← HD.out]; rfl, hb1⟩

/-- patoisref.Number. -/
theorem rNumber_any (n : Int) (w : World) (h0 : -9223372036854775808 ≤ n) (h1 : n ≤ 9223372036854775807) :
    Calls Tryd.prog 38 #[.int .i64 n] w fun e w' => e = .returned (.string (bs (Lib.itoa n))) ∧ Below w.heap.size w w' := by
  by_cases hn : n < 0
  · by_cases hn2 : n < -9223372036854775807
    · exact rNumber_least n w hn2 h0
    · exact rNumber_neg n w n.natAbs (by omega) hn (by omega)
  · obtain ⟨m, rfl⟩ : ∃ m : Nat, n = m := ⟨n.toNat, by omega⟩
    have := rNumber_nat m w (by omega)
    rw [Lib.itoa, if_neg hn]
    exact this

end Go.Proofs.YtdadgodjjfgmfaaDoor
