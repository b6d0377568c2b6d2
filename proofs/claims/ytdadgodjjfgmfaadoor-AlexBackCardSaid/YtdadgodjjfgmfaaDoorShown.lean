/- alex.shown: a part as a source has it. -/
import Derived.Test.YtdadgodjjfgmfaaDoorFirst10
import Derived.Test.YtdadgodjjfgmfaaDoorPureA9
import Derived.Lib.SplitLaws
import Derived.Lib.Replace
import Derived.Lib.IndexBytes
namespace Go.Proofs.YtdadgodjjfgmfaaDoor
open Go Go.RowKit

theorem indexA_ne (b c : UInt8) (l : List UInt8) (h : b ≠ c) (i : Nat) (hi : Lib.index l [c] = i) : Lib.index (b :: l) [c] = ((i + 1 : Nat) : Int) := by
  rw [Lib.index_one] at hi ⊢
  unfold Lib.indexByte
  have h1 : (b == c) = false := beq_false_of_ne h
  rw [hi]
  simp [h1] <;> omega
theorem indexA_eq (c : UInt8) (l : List UInt8) : Lib.index (c :: l) [c] = ((0 : Nat) : Int) := by
  rw [Lib.index_one]
  unfold Lib.indexByte
  simp
theorem replaceK_sgl (l : List UInt8) : Lib.replaceK [39] [39, 92, 39, 39] (Lib.count l [39]) l = sglA l := by
  induction l with
  | nil => rfl
  | cons c l ih =>
    by_cases hc : c = 39
    · subst hc
      rw [Lib.count_cons_eq, Nat.add_comm, Lib.replaceK_hit _ _ _ _ 0 (indexA_eq 39 l), sglA, if_pos (by decide)]
      simp only [List.take_zero, List.nil_append, Nat.zero_add, List.length_cons, List.length_nil, List.drop_succ_cons, List.drop_zero]
      rw [ih]
      rfl
    · have hc' : ¬ c.toNat = 39 := fun e => hc (UInt8.toNat_inj.1 e)
      rw [Lib.count_cons_ne c 39 l hc, sglA, if_neg hc', ← ih]
      cases hn : Lib.count l [39] with
      | zero => rfl
      | succ m =>
        obtain ⟨i, hi⟩ := Lib.index_of_count (s := l) (old := [39]) (by omega)
        rw [Lib.replaceK_hit _ _ _ _ (i + 1) (indexA_ne c 39 l hc i hi), Lib.replaceK_hit _ _ _ _ i hi]
        simp
theorem replaceAll_sgl (l : List UInt8) : Lib.replaceAll l [39] [39, 92, 39, 39] = sglA l := by
  rw [Lib.replaceAll, Lib.replace, if_neg (by decide), Lib.replaceNum, if_pos (.inl (by decide))]
  exact replaceK_sgl l

theorem decDigits_one (i : Nat) (_h1 : 1 ≤ i) (h9 : i ≤ 9) : Lib.decDigits i = [(48 + i).toUInt8] := by
  rw [Lib.decDigits, dif_pos (by omega)]
theorem tNumber_one (i : Nat) (w : World) (h1 : 1 ≤ i) (h9 : i ≤ 9) :
    Calls Tryd.prog 34 #[.int .i64 i] w fun e w' => e = .returned (.string (bs [(48 + i).toUInt8])) ∧ Below w.heap.size w w' := by
  rw [← decDigits_one i h1 h9]
  go_enter Tryd.func34, Tryd.ntmps34
  go_wp2_with (go_at_call 56; refine (Tryd.strconv_Itoa_small i (by omega) _).mono ?_; rintro e w' ⟨rfl, rfl⟩)
  go_ret
  exact ⟨rfl, Below.refl _ _⟩

theorem bs_cons (c : UInt8) (l : List UInt8) : (⟨#[c]⟩ : ByteArray) ++ bs l = bs (c :: l) := by
  rw [show (⟨#[c]⟩ : ByteArray) = bs [c] from rfl, bsAppA]
  rfl
theorem bs_snoc (l : List UInt8) (c : UInt8) : bs l ++ (⟨#[c]⟩ : ByteArray) = bs (l ++ [c]) := by
  rw [show (⟨#[c]⟩ : ByteArray) = bs [c] from rfl, bsAppA]

theorem shown_q (p : APart) (h1 : p.kind ≠ 1) (h2 : p.kind ≠ 2) (hq : p.quoted = true) : shownA p = 34 :: (coreA p ++ [34]) := by
  unfold shownA
  rw [if_neg h1, if_neg h2, if_pos hq]
theorem shown_nq (p : APart) (h1 : p.kind ≠ 1) (h2 : p.kind ≠ 2) (hq : p.quoted = false) : shownA p = coreA p := by
  unfold shownA
  rw [if_neg h1, if_neg h2, if_neg (by rw [hq]; decide)]

set_option maxHeartbeats 8000000 in
set_option maxRecDepth 100000 in
theorem aShown_any (p : APart) (w : World) (mx : Int) (hm : w.cell? ⟨4, 0, none⟩ = some (.int .i64 mx)) (hk : 1 ≤ p.kind ∧ p.kind ≤ 6) (hn : p.kind = 5 → 1 ≤ p.num ∧ p.num ≤ 9) (ht : p.text.length ≤ 10000) (x : List UInt8) (hx : Hid (shownA p = x)) :
    Calls Tryd.prog 62 #[.agg p.cells.toArray] w fun e w' => e = .returned (.string (bs x)) ∧ Below w.heap.size w w' := by
  have hB := Lib.hid (Blk.new w p.cells 61)
  have hm1 := bSome ((Below.refl w.heap.size w).alloc (Nat.le_refl _) (.cells p.cells.toArray 61)) hm
  obtain ⟨hk1, hk6⟩ := hk
  have hts := bs_size p.text
  unfold APart.cells at *
  go_enter Tryd.func62, Tryd.ntmps62
  go_upto_region 2 with fail
  have c0 := hB.out.cell 0 rfl
  have c2 := hB.out.cell 2 rfl
  have c3 := hB.out.cell 3 rfl
  have c4 := hB.out.cell 4 rfl
  have hb1 : Below w.heap.size w (w.alloc (.cells #[.int .i64 p.kind, .int .i64 p.place, .int .i64 p.num, .bool p.quoted, .string (bs p.text)] 61)) := (Below.refl _ _).alloc (Nat.le_refl _) _
  generalize w.alloc (.cells #[.int .i64 p.kind, .int .i64 p.place, .int .i64 p.num, .bool p.quoted, .string (bs p.text)] 61) = w1 at *
  clear hB hm
  by_cases h1 : p.kind = 1
  · have HX : Hid (p.text = x) := Lib.hid (by rw [← hx.out]; unfold shownA; rw [if_pos h1])
    rw [h1] at c0
    clear hx
    go_wp2_with fail
    go_ret
    exact ⟨by rw [← HX.out]; rfl, hb1⟩
  · by_cases h2 : p.kind = 2
    · rw [h2] at c0
      have hsl := sglA_length p.text
      have HX : Hid ((⟨#[39]⟩ : ByteArray) ++ bs (sglA p.text) ++ ⟨#[39]⟩ = bs x) := Lib.hid (by
        rw [← hx.out, bs_cons, bs_snoc]
        unfold shownA
        rw [if_neg h1, if_pos h2]
        rfl)
      have hds : (bs (sglA p.text)).size ≤ 40000 := by rw [bs_size]; omega
      obtain ⟨y, hy⟩ : ∃ y, (⟨#[39]⟩ : ByteArray) ++ bs (sglA p.text) = y := ⟨_, rfl⟩
      have hys : y.size ≤ 40001 := by
        rw [← hy, bs_cons, bs_size, List.length_cons]
        omega
      rw [hy] at HX
      have HR : Hid (Calls Tryd.prog 59 #[.string (bs p.text), .string ⟨#[39]⟩, .string ⟨#[39, 92, 39, 39]⟩] w1 fun e w' => e = .returned (.string (bs (sglA p.text))) ∧ Below w1.heap.size w1 w') := Lib.hid (by
        have hcb := Lib.countB_le ⟨#[39]⟩ (by decide) (bs p.text).size (bs p.text) (Nat.le_refl _)
        rw [bs_size] at hcb
        have hh := Tryd.strings_ReplaceAll (bs p.text) ⟨#[39]⟩ ⟨#[39, 92, 39, 39]⟩ mx w1 (by rw [bs_size]; omega) hm1 (by decide) (by
          rw [bs_size]
          have : (⟨#[39, 92, 39, 39]⟩ : ByteArray).size = 4 := rfl
          rw [this]
          omega)
        rw [bs_list, show (⟨#[39]⟩ : ByteArray).data.toList = [39] from rfl, show (⟨#[39, 92, 39, 39]⟩ : ByteArray).data.toList = [39, 92, 39, 39] from rfl, replaceAll_sgl] at hh
        exact hh)
      clear hx
      generalize bs (sglA p.text) = dd at *
      go_wp2_with (go_at_call 59; refine HR.out.mono ?_; rintro e w5 ⟨rfl, hb5⟩)
      go_ret
      exact ⟨by rw [← HX.out]; rfl, bNext hb1 hb5⟩
    · have hj : p.kind = 3 ∨ p.kind = 4 ∨ p.kind = 5 ∨ p.kind = 6 := by omega
      rcases hj with h3 | h3 | h3 | h3
      · rw [h3] at c0
        obtain ⟨y, hy⟩ : ∃ y, (⟨#[36, 123]⟩ : ByteArray) ++ bs p.text = y := ⟨_, rfl⟩
        have hys : y.size ≤ 10002 := by rw [← hy, show (⟨#[36, 123]⟩ : ByteArray) = bs [36, 123] from rfl, bsAppA, bs_size]; simp; omega
        have hyz : y ++ ⟨#[125]⟩ = bs (36 :: 123 :: (p.text ++ [125])) := by rw [← hy, show (⟨#[36, 123]⟩ : ByteArray) = bs [36, 123] from rfl, bsAppA, bs_snoc]; simp
        by_cases hs : p.text = [42]
        · have hcd : Hid (coreA p = [36, 42]) := Lib.hid (by unfold coreA; rw [if_pos h3, if_pos hs])
          have e1 : (bs p.text).toList = [42] := by rw [Lib.toList_data, bs_list, hs]
          have hyw : (⟨#[36, 42]⟩ : ByteArray) = bs [36, 42] := rfl
          clear hs
          have HC : Hid (coreA p = [36, 42]) := Lib.hid (by first | exact hcd.out | (unfold coreA; simp [h3]))
          have hcz : (bs ([36, 42])).size ≤ 10010 := by rw [bs_size]; first | (simp; done) | (simp; omega)
          cases hq : p.quoted with
          | true =>
            have HX : Hid (34 :: ([36, 42] ++ [34]) = x) := Lib.hid (by rw [← hx.out, shown_q p h1 h2 hq, HC.out])
            obtain ⟨z1, hz1⟩ : ∃ z, (⟨#[34]⟩ : ByteArray) ++ bs ([36, 42]) = z := ⟨_, rfl⟩
            have hz2 : z1.size ≤ 10020 := by rw [← hz1, bs_cons, bs_size, List.length_cons]; rw [bs_size] at hcz; omega
            have hz3 : z1 ++ ⟨#[34]⟩ = bs x := by rw [← hz1, bs_cons, bs_snoc, ← HX.out]; rfl
            rw [hq] at c3
            clear hx HC HX hq
            skip
            go_wp2_with (fail)
            go_ret
            exact ⟨rfl, hb1⟩
          | false =>
            have HX : Hid ([36, 42] = x) := Lib.hid (by rw [← hx.out, shown_nq p h1 h2 hq, HC.out])
            rw [hq] at c3
            clear hx HC hq
            skip
            go_wp2_with (fail)
            go_ret
            exact ⟨by rw [← HX.out]; rfl, hb1⟩
        · have hcd : Hid (coreA p = 36 :: 123 :: (p.text ++ [125])) := Lib.hid (by unfold coreA; rw [if_pos h3, if_neg hs])
          have e1 : ¬ (bs p.text).toList = [42] := by rw [Lib.toList_data, bs_list]; exact hs
          have e2 : ((bs p.text).toList == [42]) = false := by simpa using e1
          clear hs
          have HC : Hid (coreA p = (36 :: 123 :: (p.text ++ [125]))) := Lib.hid (by first | exact hcd.out | (unfold coreA; simp [h3]))
          have hcz : (bs ((36 :: 123 :: (p.text ++ [125])))).size ≤ 10010 := by rw [bs_size]; first | (simp; done) | (simp; omega)
          cases hq : p.quoted with
          | true =>
            have HX : Hid (34 :: ((36 :: 123 :: (p.text ++ [125])) ++ [34]) = x) := Lib.hid (by rw [← hx.out, shown_q p h1 h2 hq, HC.out])
            obtain ⟨z1, hz1⟩ : ∃ z, (⟨#[34]⟩ : ByteArray) ++ bs ((36 :: 123 :: (p.text ++ [125]))) = z := ⟨_, rfl⟩
            have hz2 : z1.size ≤ 10020 := by rw [← hz1, bs_cons, bs_size, List.length_cons]; rw [bs_size] at hcz; omega
            have hz3 : z1 ++ ⟨#[34]⟩ = bs x := by rw [← hz1, bs_cons, bs_snoc, ← HX.out]; rfl
            rw [hq] at c3
            clear hx HC HX hq
            skip
            go_wp2_with (fail)
            go_ret
            exact ⟨rfl, hb1⟩
          | false =>
            have HX : Hid ((36 :: 123 :: (p.text ++ [125])) = x) := Lib.hid (by rw [← hx.out, shown_nq p h1 h2 hq, HC.out])
            rw [hq] at c3
            clear hx HC hq
            skip
            go_wp2_with (fail)
            go_ret
            exact ⟨by rw [← HX.out]; rfl, hb1⟩
      · rw [h3] at c0
        obtain ⟨y, hy⟩ : ∃ y, (⟨#[36, 40]⟩ : ByteArray) ++ bs p.text = y := ⟨_, rfl⟩
        have hys : y.size ≤ 10002 := by rw [← hy, show (⟨#[36, 40]⟩ : ByteArray) = bs [36, 40] from rfl, bsAppA, bs_size]; simp; omega
        have hyz : y ++ ⟨#[41]⟩ = bs (36 :: 40 :: (p.text ++ [41])) := by rw [← hy, show (⟨#[36, 40]⟩ : ByteArray) = bs [36, 40] from rfl, bsAppA, bs_snoc]; simp
        have HC : Hid (coreA p = (36 :: 40 :: (p.text ++ [41]))) := Lib.hid (by first | exact hcd.out | (unfold coreA; simp [h3]))
        have hcz : (bs ((36 :: 40 :: (p.text ++ [41])))).size ≤ 10010 := by rw [bs_size]; first | (simp; done) | (simp; omega)
        cases hq : p.quoted with
        | true =>
          have HX : Hid (34 :: ((36 :: 40 :: (p.text ++ [41])) ++ [34]) = x) := Lib.hid (by rw [← hx.out, shown_q p h1 h2 hq, HC.out])
          obtain ⟨z1, hz1⟩ : ∃ z, (⟨#[34]⟩ : ByteArray) ++ bs ((36 :: 40 :: (p.text ++ [41]))) = z := ⟨_, rfl⟩
          have hz2 : z1.size ≤ 10020 := by rw [← hz1, bs_cons, bs_size, List.length_cons]; rw [bs_size] at hcz; omega
          have hz3 : z1 ++ ⟨#[34]⟩ = bs x := by rw [← hz1, bs_cons, bs_snoc, ← HX.out]; rfl
          rw [hq] at c3
          clear hx HC HX hq
          skip
          go_wp2_with (fail)
          go_ret
          exact ⟨rfl, hb1⟩
        | false =>
          have HX : Hid ((36 :: 40 :: (p.text ++ [41])) = x) := Lib.hid (by rw [← hx.out, shown_nq p h1 h2 hq, HC.out])
          rw [hq] at c3
          clear hx HC hq
          skip
          go_wp2_with (fail)
          go_ret
          exact ⟨by rw [← HX.out]; rfl, hb1⟩
      · rw [h3] at c0
        obtain ⟨hn1, hn9⟩ := hn h3
        have HNu := Lib.hid (tNumber_one p.num w1 hn1 hn9)
        have hyz : (⟨#[36]⟩ : ByteArray) ++ bs [(48 + p.num).toUInt8] = bs [36, (48 + p.num).toUInt8] := by rw [bs_cons]
        have hnz : (bs [(48 + p.num).toUInt8]).size = 1 := rfl
        have hcd : Hid (coreA p = [36, (48 + p.num).toUInt8]) := Lib.hid (by unfold coreA; simp [h3])
        clear hn
        generalize (48 + p.num).toUInt8 = cd at *
        have HC : Hid (coreA p = [36, cd]) := Lib.hid (by first | exact hcd.out | (unfold coreA; simp [h3]))
        have hcz : (bs ([36, cd])).size ≤ 10010 := by rw [bs_size]; first | (simp; done) | (simp; omega)
        cases hq : p.quoted with
        | true =>
          have HX : Hid (34 :: ([36, cd] ++ [34]) = x) := Lib.hid (by rw [← hx.out, shown_q p h1 h2 hq, HC.out])
          obtain ⟨z1, hz1⟩ : ∃ z, (⟨#[34]⟩ : ByteArray) ++ bs ([36, cd]) = z := ⟨_, rfl⟩
          have hz2 : z1.size ≤ 10020 := by rw [← hz1, bs_cons, bs_size, List.length_cons]; rw [bs_size] at hcz; omega
          have hz3 : z1 ++ ⟨#[34]⟩ = bs x := by rw [← hz1, bs_cons, bs_snoc, ← HX.out]; rfl
          rw [hq] at c3
          clear hx HC HX hq
          skip
          go_wp2_with (go_at_call 34; refine HNu.out.mono ?_; rintro e w5 ⟨rfl, hb5⟩; have c35 := bSome hb5 c3)
          go_ret
          exact ⟨rfl, bNext hb1 hb5⟩
        | false =>
          have HX : Hid ([36, cd] = x) := Lib.hid (by rw [← hx.out, shown_nq p h1 h2 hq, HC.out])
          rw [hq] at c3
          clear hx HC hq
          skip
          go_wp2_with (go_at_call 34; refine HNu.out.mono ?_; rintro e w5 ⟨rfl, hb5⟩; have c35 := bSome hb5 c3)
          go_ret
          exact ⟨by rw [← HX.out]; rfl, bNext hb1 hb5⟩
      · rw [h3] at c0
        have hyz : (⟨#[36, 35]⟩ : ByteArray) = bs [36, 35] := rfl
        have HC : Hid (coreA p = [36, 35]) := Lib.hid (by first | exact hcd.out | (unfold coreA; simp [h3]))
        have hcz : (bs ([36, 35])).size ≤ 10010 := by rw [bs_size]; first | (simp; done) | (simp; omega)
        cases hq : p.quoted with
        | true =>
          have HX : Hid (34 :: ([36, 35] ++ [34]) = x) := Lib.hid (by rw [← hx.out, shown_q p h1 h2 hq, HC.out])
          obtain ⟨z1, hz1⟩ : ∃ z, (⟨#[34]⟩ : ByteArray) ++ bs ([36, 35]) = z := ⟨_, rfl⟩
          have hz2 : z1.size ≤ 10020 := by rw [← hz1, bs_cons, bs_size, List.length_cons]; rw [bs_size] at hcz; omega
          have hz3 : z1 ++ ⟨#[34]⟩ = bs x := by rw [← hz1, bs_cons, bs_snoc, ← HX.out]; rfl
          rw [hq] at c3
          clear hx HC HX hq
          skip
          go_wp2_with (fail)
          go_ret
          exact ⟨rfl, hb1⟩
        | false =>
          have HX : Hid ([36, 35] = x) := Lib.hid (by rw [← hx.out, shown_nq p h1 h2 hq, HC.out])
          rw [hq] at c3
          clear hx HC hq
          skip
          go_wp2_with (fail)
          go_ret
          exact ⟨by rw [← HX.out]; rfl, hb1⟩

end Go.Proofs.YtdadgodjjfgmfaaDoor
