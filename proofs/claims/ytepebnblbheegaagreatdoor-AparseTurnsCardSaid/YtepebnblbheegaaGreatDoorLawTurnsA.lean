/- AparseTurns. -/
import Derived.Test.YtepebnblbheegaaGreatDoorZG
import Derived.Test.YtepebnblbheegaaGreatDoorZH
import Derived.Test.YtepebnblbheegaaGreatDoorRNum
namespace Go.Proofs.YtepebnblbheegaaGreatDoor
set_option maxHeartbeats 16000000
set_option maxRecDepth 100000
open Go Go.RowKit
def fileA (i : Nat) : List UInt8 := 102 :: Lib.decDigits i
theorem digits_two (i : Nat) (h : i < 12) : i = 0 ∨ i = 1 ∨ i = 2 ∨ i = 3 ∨ i = 4 ∨ i = 5 ∨ i = 6 ∨ i = 7 ∨ i = 8 ∨ i = 9 ∨ i = 10 ∨ i = 11 := by omega
theorem dec_two (i : Nat) (h : i < 12) : Lib.decDigits i = if i < 10 then [UInt8.ofNat (48 + i)] else [49, UInt8.ofNat (38 + i)] := by
 by_cases h1 : i < 10
 ·rw [if_pos h1, Lib.decDigits_one h1]
 ·rw [if_neg h1, Lib.decDigits_two h1 (by omega)]
  have : i = 10 ∨ i = 11 := by omega
  rcases this with rfl | rfl <;> rfl
theorem plain_digit (c : UInt8) (h : 48 ≤ c.toNat ∧ c.toNat ≤ 57) : PlainC c := by
 unfold PlainC PlainA endsA
 refine ⟨⟨?_, by omega, by omega, by omega⟩, by omega⟩
 rw [← Bool.not_eq_true, List.contains_iff_mem]
 simp
 omega
theorem dec_plain (i : Nat) (h : i < 12) : (∀ c ∈ Lib.decDigits i, PlainC c) ∧ (Lib.decDigits i).length ≤ 2 ∧ Lib.decDigits i ≠ [] := by
 rw [dec_two i h]
 rcases digits_two i h with rfl | rfl | rfl | rfl | rfl | rfl | rfl | rfl | rfl | rfl | rfl | rfl <;>
  exact ⟨fun c hc => plain_digit c (by simp at hc; first | (subst hc; decide) | (rcases hc with rfl | rfl <;> decide)), by decide, by decide⟩
theorem filesA (n : Nat) (hn : n ≤ 12) : FilesA fileA n where
 ne := fun i _ => by simp [fileA]
 plain := fun i hi c hc => by
  rcases List.mem_cons.1 hc with rfl | hc
  ·unfold PlainC PlainA
   exact ⟨⟨by decide, by decide, by decide, by decide⟩, by decide⟩
  ·exact (dec_plain i (by omega)).1 c hc
 head := fun i _ => by simp [fileA]
 len := fun i hi => by
  have := (dec_plain i (by omega)).2.1
  simp [fileA]
  omega
theorem turnsA_snoc (F : Nat → List UInt8) : ∀ (ms : List Nat) (i k m : Nat), ms[k]? = some m → turnsSrcA F i (ms.take k) ++ (32 :: (opM m ++ (32 :: F (i + k)))) = turnsSrcA F i (ms.take (k + 1))
 | [], i, k, m, h => by simp at h
 | a :: ms, i, 0, m, h => by
  simp only [List.getElem?_cons_zero, Option.some.injEq] at h
  subst h
  simp [turnsSrcA]
 | a :: ms, i, k + 1, m, h => by
  have ih := turnsA_snoc F ms (i + 1) k m (by simpa using h)
  rw [List.take_succ_cons, List.take_succ_cons, turnsSrcA, turnsSrcA, ← ih]
  rw [show i + 1 + k = i + (k + 1) by omega]
  simp
theorem turnsA_size : ∀ (ms : List Nat) (i : Nat), i + ms.length ≤ 12 → (∀ m ∈ ms, m < 4) → (turnsSrcA fileA i ms).length ≤ 8 * ms.length
 | [], _, _, _ => Nat.le_refl _
 | m :: ms, i, h, hm => by
  simp only [List.length_cons] at h ⊢
  have ih := turnsA_size ms (i + 1) (by omega) (fun x hx => hm x (by simp [hx]))
  have h1 := (dec_plain i (by omega)).2.1
  have h2 : (opM m).length ≤ 3 := by
   have := hm m (by simp)
   have : m = 0 ∨ m = 1 ∨ m = 2 ∨ m = 3 := by omega
   rcases this with rfl | rfl | rfl | rfl <;> decide
  rw [turnsSrcA]
  simp [fileA]
  omega
theorem aroundA_cons (F : Nat → List UInt8) (ms : List Nat) (k m : Nat) (h : ms[k]? = some m) (_hm : m < 4) : aAround (turnsLA F k (ms.drop k)) abP = (if m = 3 then newP 34 0 [] [litP (F k), aAround (turnsLA F (k + 1) (ms.drop (k + 1))) abP] else newP 33 ((m : Int) + 1) [] [litP (F k), aAround (turnsLA F (k + 1) (ms.drop (k + 1))) abP]) := by
 obtain ⟨hk, e⟩ := List.getElem?_eq_some_iff.1 h
 rw [List.drop_eq_getElem_cons hk, e, turnsLA]
 show (if 9 + m = 12 then _ else _) = _
 by_cases h0 : m = 3
 ·rw [if_pos (by omega), if_pos h0]; rfl
 ·rw [if_neg (by omega), if_neg h0, show (((9 + m : Nat) : Int) - 8) = (m : Int) + 1 by omega]; rfl
theorem aroundA_len (F : Nat → List UInt8) (ms : List Nat) (k : Nat) : (aAround (turnsLA F k (ms.drop k)) abP).length ≤ 2 * ms.length + 3 := by
 obtain ⟨_, h2⟩ := turnsLA_len F k (ms.drop k)
 rw [(aaround_len _ _).1, h2]
 have := List.length_drop (i := k) (l := ms)
 show 2 * (ms.drop k).length + 3 ≤ _
 omega
theorem modes_lt (Z : Nat → Int) (n : Nat) : ∀ m ∈ modesOf Z n, m < 4 := fun m hm => by
 obtain ⟨i, _, rfl⟩ := List.mem_map.1 hm
 obtain ⟨_, _, _, _, _, h⟩ := mode_is (Z i)
 exact h
theorem turnsLawA_in (ao : Option Addr) (ln cap : Nat) (Z : Nat → Int) (ahead : Bool) (w : World) (sent : Nat → Addr) (hS : Sents w sent) (hmx : ∃ m, w.cell? ⟨9, 0, none⟩ = some (.int .i64 m)) (het : w.cell? ⟨18, 0, none⟩ = some (.iface 162 (.agg #[.pointer (some ⟨19, 25, none⟩)]))) (hln : ln ≤ cap) (_hcap : cap ≤ maxLen) (hB : IntsOf w ao ln Z) (h12 : ln ≤ 12) :
  Calls Tryz.prog 10 #[.slice ao ln cap, .bool ahead] w fun e w' => e = .returned (.bool true) ∧ Below w.heap.size w w' := by
 have HB := Lib.hid hB
 clear hB
 go_enter Tryz.func10, Tryz.ntmps10
 go_wp2_with fail
 refine (first11_any _ sent hS hmx het).mono ?_
 rintro e w1 ⟨rfl, hb1⟩
 have hgm : 9 < w1.heap.size := hmx.elim fun m hm => block_lt_of_cell (bSome hb1 hm)
 go_wp2_with fail
 refine (cLit_any [97] 9 _ hgm).mono ?_
 rintro e w2 ⟨va, rfl, hva, hb2⟩
 have z2 : 9 < w2.heap.size := Nat.lt_of_lt_of_le hgm hb2.size
 have HVA := Lib.hid hva
 obtain ⟨ga, ca, rfl, -⟩ := id hva
 clear hva
 go_wp2_with fail
 refine (cLit_any [98] 9 _ z2).mono ?_
 rintro e w2' ⟨vb, rfl, hvb, hb2'⟩
 have z2' : 9 < w2'.heap.size := Nat.lt_of_lt_of_le z2 hb2'.size
 have HVA' := Lib.hid (HVA.out.below hb2')
 have HVB := Lib.hid hvb
 obtain ⟨gb, cb, rfl, -⟩ := id hvb
 clear hvb HVA
 go_wp2_with fail
 refine (twoP_any 21 0 (litP [97]) (litP [98]) 9 _ _ w2' z2' HVA'.out HVB.out (by decide)).mono ?_
 rintro e w3 ⟨vp, rfl, hvp, hb3⟩
 have z3 : 9 < w3.heap.size := Nat.lt_of_lt_of_le z2' hb3.size
 have HVP := Lib.hid (show NSl w3 9 vp abP from hvp)
 obtain ⟨gp, cp, rfl, -⟩ := id HVP.out
 have hB3 := bNext hb1 (bNext hb2 (bNext hb2' hb3))
 have HB3 := Lib.hid (HB.out.below hB3)
 clear hvp HVA' HVB hb1 hb2 hb2' hb3 z2 z2' hgm HB
 obtain ⟨ms, hms⟩ : ∃ ms, modesOf Z ln = ms := ⟨_, rfl⟩
 have HML := Lib.hid (show ms.length = ln from by rw [← hms]; exact modes_len Z ln)
 have HMT := Lib.hid (show ∀ m ∈ ms, m < 4 from by rw [← hms]; exact modes_lt Z ln)
 have HMG : Hid (∀ k, k < ln → ms[k]? = some (modeOf (Z k))) := Lib.hid fun k hk => by rw [← hms]; exact modes_get Z ln k hk
 clear hms
 have HE : Hid (∀ k, k < ln → bs (turnsSrcA fileA 0 (ms.take k)) ++ { data := #[32] } ++ bs (opM (modeOf (Z k))) ++ { data := #[32, 102] } ++ bs (Lib.decDigits k) = bs (turnsSrcA fileA 0 (ms.take (k + 1))) ∧ (bs (turnsSrcA fileA 0 (ms.take k))).size ≤ 96 ∧ (bs (turnsSrcA fileA 0 (ms.take (k + 1)))).size ≤ 96 ∧ (bs (Lib.decDigits k)).size ≤ 2) := Lib.hid fun k hk => by
  have l0 := turnsA_size (ms.take k) 0 (by have := HML.out; rw [List.length_take]; omega) (fun m hm => HMT.out m (List.mem_of_mem_take hm))
  have l1 := turnsA_size (ms.take (k + 1)) 0 (by have := HML.out; rw [List.length_take]; omega) (fun m hm => HMT.out m (List.mem_of_mem_take hm))
  rw [List.length_take] at l0 l1
  have := HML.out
  rw [bs_size, bs_size, bs_size]
  refine ⟨?_, by omega, by omega, (dec_plain k (by omega)).2.1⟩
  rw [show ({ data := #[32] } : ByteArray) = bs [32] from rfl, show ({ data := #[32, 102] } : ByteArray) = bs [32, 102] from rfl, bs_app9, bs_app9, bs_app9, bs_app9, ← turnsA_snoc fileA ms 0 k _ (HMG.out k hk)]
  simp [fileA]
 have HNU := Lib.hid fun (k : Nat) (w9 : World) (hk : k < ln) => rNumber_two k w9 (by omega)
 go_upto_block 0 with fail
 go_cut [6] (fun s6 w9 => s6 = .string (bs (turnsSrcA fileA 0 ms)) ∧ Below w3.heap.size w3 w9)
 case first =>
  go_wp2_with fail
  go_loopg [6, 8] ln (fun m s i wr => ∃ k : Nat, m = ln - k ∧ k ≤ ln ∧ s = .string (bs (turnsSrcA fileA 0 (ms.take k))) ∧ i = .int .i64 k ∧ Below w3.heap.size w3 wr)
  case atStart => exact ⟨0, rfl, Nat.zero_le _, rfl, rfl, Below.refl _ _⟩
  case round =>
   obtain ⟨k, rfl, hk, rfl, rfl, hbr⟩ := hrel
   by_cases h1 : k < ln
   ·obtain ⟨a, rfl, hz, hz1, hz2⟩ := HB3.out k h1
    have hz := bSome hbr hz
    obtain ⟨u, hu, hu1, hu2, hu3, hu4⟩ := mode_is (Z k)
    obtain ⟨E, y1, y2, y3⟩ := HE.out k h1
    have HN := Lib.hid fun (w9 : World) => HNU.out k w9 h1
    generalize Z k = z at *
    generalize modeOf z = md at *
    obtain ⟨du, hdu⟩ : ∃ du, bs (turnsSrcA fileA 0 (ms.take (k + 1))) = du := ⟨_, rfl⟩
    rw [hdu] at E y2
    have HDU := Lib.hid hdu
    clear hdu
    generalize bs (turnsSrcA fileA 0 (ms.take k)) = dt at *
    generalize bs (Lib.decDigits k) = dn at *
    have hlt0 : ¬ 9223372036854775807 < dt.size := by omega
    have hle0 : ¬ 9223372036854775807 ≤ dt.size := by omega
    have hlt1 : ¬ 9223372036854775806 < dt.size := by omega
    have hle1 : ¬ 9223372036854775806 ≤ dt.size := by omega
    have hlt2 : ¬ 9223372036854775805 < dt.size := by omega
    have hle2 : ¬ 9223372036854775805 ≤ dt.size := by omega
    have hlt3 : ¬ 9223372036854775804 < dt.size := by omega
    have hle3 : ¬ 9223372036854775804 ≤ dt.size := by omega
    have hlt4 : ¬ 9223372036854775803 < dt.size := by omega
    have hle4 : ¬ 9223372036854775803 ≤ dt.size := by omega
    have hlt5 : ¬ 9223372036854775802 < dt.size := by omega
    have hle5 : ¬ 9223372036854775802 ≤ dt.size := by omega
    have hlt6 : ¬ 9223372036854775801 < dt.size := by omega
    have hle6 : ¬ 9223372036854775801 ≤ dt.size := by omega
    have hlt7 : ¬ 9223372036854775800 < dt.size := by omega
    have hle7 : ¬ 9223372036854775800 ≤ dt.size := by omega
    have hsl1 : ¬ 9223372036854775807 < dt.size + 1 := by omega
    have hsl2 : ¬ 9223372036854775807 < dt.size + 2 := by omega
    have hsl3 : ¬ 9223372036854775807 < dt.size + 3 := by omega
    have hsl4 : ¬ 9223372036854775807 < dt.size + 4 := by omega
    have hsl5 : ¬ 9223372036854775807 < dt.size + 5 := by omega
    have hsl6 : ¬ 9223372036854775807 < dt.size + 6 := by omega
    have hsl7 : ¬ 9223372036854775807 < dt.size + 7 := by omega
    have hsd1 : ¬ 9223372036854775807 < dt.size + 1 + dn.size := by omega
    have hsd2 : ¬ 9223372036854775807 < dt.size + 2 + dn.size := by omega
    have hsd3 : ¬ 9223372036854775807 < dt.size + 3 + dn.size := by omega
    have hsd4 : ¬ 9223372036854775807 < dt.size + 4 + dn.size := by omega
    have hsd5 : ¬ 9223372036854775807 < dt.size + 5 + dn.size := by omega
    have hsd6 : ¬ 9223372036854775807 < dt.size + 6 + dn.size := by omega
    have hsd7 : ¬ 9223372036854775807 < dt.size + 7 + dn.size := by omega
    have hu7 : u = -3 ∨ u = -2 ∨ u = -1 ∨ u = 0 ∨ u = 1 ∨ u = 2 ∨ u = 3 := by omega
    rcases hu7 with rfl | rfl | rfl | rfl | rfl | rfl | rfl
    ·have hmd : md = 1 := by
      have h : Int.tmod ((-3 : Int) + 4) 4 = 1 := by decide
      omega
     subst hmd
     have E2 : dt ++ { data := #[32] } ++ { data := #[62] } ++ { data := #[32, 102] } ++ dn = du := E
     have HE2 := Lib.hid E2
     clear E E2 HMG HMT HE HNU
     have hz9 := bSome ((Below.refl _ wr).alloc (Nat.le_refl _) (.cells #[.string { data := #[60] }, .string { data := #[62] }, .string { data := #[62, 62] }, .string { data := #[60, 60, 60] }] 9)) hz
     have hw : IntKind.i64.wrap 1 = 1 := by decide
     go_upto_region 9 with fail
     go_region_with (first | (go_at_call 30; (with_reducible refine (HN.out _).mono ?_); rintro e w9 ⟨rfl, hb9⟩; (first | (have hzq := bSome hb9 hz9; have hr9 := bSome hb9 (((Blk.new wr [Value.string { data := #[60] }, .string { data := #[62] }, .string { data := #[62, 62] }, .string { data := #[60, 60, 60] }] 9).drew).cell 1 rfl)) | (have hzq := bSome hb9 hz; have hzq2 := bSome ((Below.refl _ w9).alloc (Nat.le_refl _) (.cells #[.string { data := #[60] }, .string { data := #[62] }, .string { data := #[62, 62] }, .string { data := #[60, 60, 60] }] 9)) hzq))))
     all_goals (go_wp2_with fail)
     all_goals go_roundg (ln - (k + 1))
     all_goals first
      | omega
      | exact ⟨k + 1, rfl, by omega, by rw [HE2.out, HDU.out], by go_num, bNext ((hbr.alloc hbr.size _).drew) hb9⟩
      | exact ⟨k + 1, rfl, by omega, by rw [HE2.out, HDU.out], by go_num, (bNext hbr.drew hb9).alloc (bNext hbr.drew hb9).size _⟩
    ·have hmd : md = 2 := by
      have h : Int.tmod ((-2 : Int) + 4) 4 = 2 := by decide
      omega
     subst hmd
     have E2 : dt ++ { data := #[32] } ++ { data := #[62, 62] } ++ { data := #[32, 102] } ++ dn = du := E
     have HE2 := Lib.hid E2
     clear E E2 HMG HMT HE HNU
     have hz9 := bSome ((Below.refl _ wr).alloc (Nat.le_refl _) (.cells #[.string { data := #[60] }, .string { data := #[62] }, .string { data := #[62, 62] }, .string { data := #[60, 60, 60] }] 9)) hz
     have hw : IntKind.i64.wrap 2 = 2 := by decide
     go_upto_region 9 with fail
     go_region_with (first | (go_at_call 30; (with_reducible refine (HN.out _).mono ?_); rintro e w9 ⟨rfl, hb9⟩; (first | (have hzq := bSome hb9 hz9; have hr9 := bSome hb9 (((Blk.new wr [Value.string { data := #[60] }, .string { data := #[62] }, .string { data := #[62, 62] }, .string { data := #[60, 60, 60] }] 9).drew).cell 2 rfl)) | (have hzq := bSome hb9 hz; have hzq2 := bSome ((Below.refl _ w9).alloc (Nat.le_refl _) (.cells #[.string { data := #[60] }, .string { data := #[62] }, .string { data := #[62, 62] }, .string { data := #[60, 60, 60] }] 9)) hzq))))
     all_goals (go_wp2_with fail)
     all_goals go_roundg (ln - (k + 1))
     all_goals first
      | omega
      | exact ⟨k + 1, rfl, by omega, by rw [HE2.out, HDU.out], by go_num, bNext ((hbr.alloc hbr.size _).drew) hb9⟩
      | exact ⟨k + 1, rfl, by omega, by rw [HE2.out, HDU.out], by go_num, (bNext hbr.drew hb9).alloc (bNext hbr.drew hb9).size _⟩
    ·have hmd : md = 3 := by
      have h : Int.tmod ((-1 : Int) + 4) 4 = 3 := by decide
      omega
     subst hmd
     have E2 : dt ++ { data := #[32] } ++ { data := #[60, 60, 60] } ++ { data := #[32, 102] } ++ dn = du := E
     have HE2 := Lib.hid E2
     clear E E2 HMG HMT HE HNU
     have hz9 := bSome ((Below.refl _ wr).alloc (Nat.le_refl _) (.cells #[.string { data := #[60] }, .string { data := #[62] }, .string { data := #[62, 62] }, .string { data := #[60, 60, 60] }] 9)) hz
     have hw : IntKind.i64.wrap 3 = 3 := by decide
     go_upto_region 9 with fail
     go_region_with (first | (go_at_call 30; (with_reducible refine (HN.out _).mono ?_); rintro e w9 ⟨rfl, hb9⟩; (first | (have hzq := bSome hb9 hz9; have hr9 := bSome hb9 (((Blk.new wr [Value.string { data := #[60] }, .string { data := #[62] }, .string { data := #[62, 62] }, .string { data := #[60, 60, 60] }] 9).drew).cell 3 rfl)) | (have hzq := bSome hb9 hz; have hzq2 := bSome ((Below.refl _ w9).alloc (Nat.le_refl _) (.cells #[.string { data := #[60] }, .string { data := #[62] }, .string { data := #[62, 62] }, .string { data := #[60, 60, 60] }] 9)) hzq))))
     all_goals (go_wp2_with fail)
     all_goals go_roundg (ln - (k + 1))
     all_goals first
      | omega
      | exact ⟨k + 1, rfl, by omega, by rw [HE2.out, HDU.out], by go_num, bNext ((hbr.alloc hbr.size _).drew) hb9⟩
      | exact ⟨k + 1, rfl, by omega, by rw [HE2.out, HDU.out], by go_num, (bNext hbr.drew hb9).alloc (bNext hbr.drew hb9).size _⟩
    ·have hmd : md = 0 := by
      have h : Int.tmod ((0 : Int) + 4) 4 = 0 := by decide
      omega
     subst hmd
     have E2 : dt ++ { data := #[32] } ++ { data := #[60] } ++ { data := #[32, 102] } ++ dn = du := E
     have HE2 := Lib.hid E2
     clear E E2 HMG HMT HE HNU
     have hz9 := bSome ((Below.refl _ wr).alloc (Nat.le_refl _) (.cells #[.string { data := #[60] }, .string { data := #[62] }, .string { data := #[62, 62] }, .string { data := #[60, 60, 60] }] 9)) hz
     have hw : IntKind.i64.wrap 4 = 4 := by decide
     go_upto_region 9 with fail
     go_region_with (first | (go_at_call 30; (with_reducible refine (HN.out _).mono ?_); rintro e w9 ⟨rfl, hb9⟩; (first | (have hzq := bSome hb9 hz9; have hr9 := bSome hb9 (((Blk.new wr [Value.string { data := #[60] }, .string { data := #[62] }, .string { data := #[62, 62] }, .string { data := #[60, 60, 60] }] 9).drew).cell 0 rfl)) | (have hzq := bSome hb9 hz; have hzq2 := bSome ((Below.refl _ w9).alloc (Nat.le_refl _) (.cells #[.string { data := #[60] }, .string { data := #[62] }, .string { data := #[62, 62] }, .string { data := #[60, 60, 60] }] 9)) hzq))))
     all_goals (go_wp2_with fail)
     all_goals go_roundg (ln - (k + 1))
     all_goals first
      | omega
      | exact ⟨k + 1, rfl, by omega, by rw [HE2.out, HDU.out], by go_num, bNext ((hbr.alloc hbr.size _).drew) hb9⟩
      | exact ⟨k + 1, rfl, by omega, by rw [HE2.out, HDU.out], by go_num, (bNext hbr.drew hb9).alloc (bNext hbr.drew hb9).size _⟩
    ·have hmd : md = 1 := by
      have h : Int.tmod ((1 : Int) + 4) 4 = 1 := by decide
      omega
     subst hmd
     have E2 : dt ++ { data := #[32] } ++ { data := #[62] } ++ { data := #[32, 102] } ++ dn = du := E
     have HE2 := Lib.hid E2
     clear E E2 HMG HMT HE HNU
     have hz9 := bSome ((Below.refl _ wr).alloc (Nat.le_refl _) (.cells #[.string { data := #[60] }, .string { data := #[62] }, .string { data := #[62, 62] }, .string { data := #[60, 60, 60] }] 9)) hz
     have hw : IntKind.i64.wrap 5 = 5 := by decide
     go_upto_region 9 with fail
     go_region_with (first | (go_at_call 30; (with_reducible refine (HN.out _).mono ?_); rintro e w9 ⟨rfl, hb9⟩; (first | (have hzq := bSome hb9 hz9; have hr9 := bSome hb9 (((Blk.new wr [Value.string { data := #[60] }, .string { data := #[62] }, .string { data := #[62, 62] }, .string { data := #[60, 60, 60] }] 9).drew).cell 1 rfl)) | (have hzq := bSome hb9 hz; have hzq2 := bSome ((Below.refl _ w9).alloc (Nat.le_refl _) (.cells #[.string { data := #[60] }, .string { data := #[62] }, .string { data := #[62, 62] }, .string { data := #[60, 60, 60] }] 9)) hzq))))
     all_goals (go_wp2_with fail)
     all_goals go_roundg (ln - (k + 1))
     all_goals first
      | omega
      | exact ⟨k + 1, rfl, by omega, by rw [HE2.out, HDU.out], by go_num, bNext ((hbr.alloc hbr.size _).drew) hb9⟩
      | exact ⟨k + 1, rfl, by omega, by rw [HE2.out, HDU.out], by go_num, (bNext hbr.drew hb9).alloc (bNext hbr.drew hb9).size _⟩
    ·have hmd : md = 2 := by
      have h : Int.tmod ((2 : Int) + 4) 4 = 2 := by decide
      omega
     subst hmd
     have E2 : dt ++ { data := #[32] } ++ { data := #[62, 62] } ++ { data := #[32, 102] } ++ dn = du := E
     have HE2 := Lib.hid E2
     clear E E2 HMG HMT HE HNU
     have hz9 := bSome ((Below.refl _ wr).alloc (Nat.le_refl _) (.cells #[.string { data := #[60] }, .string { data := #[62] }, .string { data := #[62, 62] }, .string { data := #[60, 60, 60] }] 9)) hz
     have hw : IntKind.i64.wrap 6 = 6 := by decide
     go_upto_region 9 with fail
     go_region_with (first | (go_at_call 30; (with_reducible refine (HN.out _).mono ?_); rintro e w9 ⟨rfl, hb9⟩; (first | (have hzq := bSome hb9 hz9; have hr9 := bSome hb9 (((Blk.new wr [Value.string { data := #[60] }, .string { data := #[62] }, .string { data := #[62, 62] }, .string { data := #[60, 60, 60] }] 9).drew).cell 2 rfl)) | (have hzq := bSome hb9 hz; have hzq2 := bSome ((Below.refl _ w9).alloc (Nat.le_refl _) (.cells #[.string { data := #[60] }, .string { data := #[62] }, .string { data := #[62, 62] }, .string { data := #[60, 60, 60] }] 9)) hzq))))
     all_goals (go_wp2_with fail)
     all_goals go_roundg (ln - (k + 1))
     all_goals first
      | omega
      | exact ⟨k + 1, rfl, by omega, by rw [HE2.out, HDU.out], by go_num, bNext ((hbr.alloc hbr.size _).drew) hb9⟩
      | exact ⟨k + 1, rfl, by omega, by rw [HE2.out, HDU.out], by go_num, (bNext hbr.drew hb9).alloc (bNext hbr.drew hb9).size _⟩
    ·have hmd : md = 3 := by
      have h : Int.tmod ((3 : Int) + 4) 4 = 3 := by decide
      omega
     subst hmd
     have E2 : dt ++ { data := #[32] } ++ { data := #[60, 60, 60] } ++ { data := #[32, 102] } ++ dn = du := E
     have HE2 := Lib.hid E2
     clear E E2 HMG HMT HE HNU
     have hz9 := bSome ((Below.refl _ wr).alloc (Nat.le_refl _) (.cells #[.string { data := #[60] }, .string { data := #[62] }, .string { data := #[62, 62] }, .string { data := #[60, 60, 60] }] 9)) hz
     have hw : IntKind.i64.wrap 7 = 7 := by decide
     go_upto_region 9 with fail
     go_region_with (first | (go_at_call 30; (with_reducible refine (HN.out _).mono ?_); rintro e w9 ⟨rfl, hb9⟩; (first | (have hzq := bSome hb9 hz9; have hr9 := bSome hb9 (((Blk.new wr [Value.string { data := #[60] }, .string { data := #[62] }, .string { data := #[62, 62] }, .string { data := #[60, 60, 60] }] 9).drew).cell 3 rfl)) | (have hzq := bSome hb9 hz; have hzq2 := bSome ((Below.refl _ w9).alloc (Nat.le_refl _) (.cells #[.string { data := #[60] }, .string { data := #[62] }, .string { data := #[62, 62] }, .string { data := #[60, 60, 60] }] 9)) hzq))))
     all_goals (go_wp2_with fail)
     all_goals go_roundg (ln - (k + 1))
     all_goals first
      | omega
      | exact ⟨k + 1, rfl, by omega, by rw [HE2.out, HDU.out], by go_num, bNext ((hbr.alloc hbr.size _).drew) hb9⟩
      | exact ⟨k + 1, rfl, by omega, by rw [HE2.out, HDU.out], by go_num, (bNext hbr.drew hb9).alloc (bNext hbr.drew hb9).size _⟩
   ·obtain rfl : k = ln := by omega
    go_wp2_with fail
    go_meet
    case rel => exact ⟨by rw [List.take_of_length_le (by have := HML.out; omega)], hbr⟩
 case rest =>
  rename World => w4
  obtain ⟨rfl, hb4⟩ := hcut
  have HB4 := Lib.hid (HB3.out.below hb4)
  have hB4 := bNext hB3 hb4
  have hS4 := hS.below hB4
  have hm4 := hmx.elim fun m hm => (⟨m, bSome hB4 hm⟩ : ∃ m, w4.cell? ⟨9, 0, none⟩ = some (.int .i64 m))
  have ht4 := bSome hB4 het
  have HVP4 := Lib.hid (HVP.out.below hb4)
  have z4 : 9 < w4.heap.size := Nat.lt_of_lt_of_le z3 hb4.size
  clear HB3 hS hmx het hB3 hb4 HVP z3 HE
  have HF := Lib.hid (filesA ms.length (by have := HML.out; omega))
  have HCK := Lib.hid (turnsPA_check fileA ms HF.out HMT.out (by have := HML.out; omega))
  have HSZ := Lib.hid (turnsA_size ms 0 (by have := HML.out; omega) HMT.out)
  obtain ⟨S, hS0⟩ : ∃ S, turnsSrcA fileA 0 ms = S := ⟨_, rfl⟩
  have TB := Lib.hid (turns_back HF.out HMT.out)
  have TM := Lib.hid (turns_mid HF.out HMT.out)
  have TF := Lib.hid (turns_front HF.out HMT.out)
  have TR := Lib.hid (turns_brace HF.out HMT.out)
  rw [hS0] at HSZ TB TM TF TR ⊢
  have hSl : S.length ≤ 96 := by have := HSZ.out; have := HML.out; omega
  have PB := Lib.hid (parseA_of TB.out.1 TB.out.2 (by simp; omega) HCK.out)
  have PM := Lib.hid (parseA_of TM.out.1 TM.out.2 (by simp; omega) HCK.out)
  have PF := Lib.hid (parseA_of TF.out.1 TF.out.2 (by simp; omega) HCK.out)
  have PR := Lib.hid (parseA_of TR.out.1 TR.out.2 (by simp; omega) HCK.out)
  clear hS0 HSZ TB TM TF TR HCK HF
  go_upto_block 2 with fail
  go_cut [7] (fun s7 w9 => ∃ v, s7 = v ∧ NSl w9 9 v (aAround (turnsLA fileA 0 (ms.drop 0)) abP) ∧ Below w4.heap.size w4 w9)
  case first =>
   go_wp2_with fail
   go_loopg [7, 9] ln (fun m p i wr => ∃ (k : Nat) (v : Value), k = m ∧ k ≤ ln ∧ p = v ∧ NSl wr 9 v (aAround (turnsLA fileA k (ms.drop k)) abP) ∧ i = .int .i64 ((k : Int) - 1) ∧ Below w4.heap.size w4 wr)
   case atStart => exact ⟨ln, _, rfl, Nat.le_refl _, rfl, by rw [List.drop_of_length_le (by have := HML.out; omega)]; exact HVP4.out, rfl, Below.refl _ _⟩
   case round =>
    clear HVP4
    obtain ⟨k, v, rfl, hk, rfl, hv, rfl, hbr⟩ := hrel
    have HV := Lib.hid hv
    obtain ⟨gv, cv, rfl, -⟩ := id hv
    clear hv
    by_cases h1 : 0 < k
    ·obtain ⟨q, rfl⟩ : ∃ q, k = q + 1 := ⟨k - 1, by omega⟩
     have hkk : ((q + 1 : Nat) : Int) - 1 = (q : Int) := by omega
     rw [hkk]
     obtain ⟨a, rfl, hz, hz1, hz2⟩ := HB4.out q (by omega)
     have hz := bSome hbr hz
     obtain ⟨u, hu, hu1, hu2, hu3, hu4⟩ := mode_is (Z q)
     have HAC := Lib.hid (aroundA_cons fileA ms q _ (HMG.out q (by omega)) hu4)
     have HAL := Lib.hid (aroundA_len fileA ms (q + 1))
     have HNQ := Lib.hid fun (w9 : World) => HNU.out q w9 (by omega)
     have hdn : (bs (Lib.decDigits q)).size ≤ 2 := by rw [bs_size]; exact (dec_plain q (by omega)).2.1
     have EF := Lib.hid (show ({ data := #[102] } : ByteArray) ++ bs (Lib.decDigits q) = bs (fileA q) from by rw [show ({ data := #[102] } : ByteArray) = bs [102] from rfl, bs_app9]; rfl)
     generalize Z q = z at *
     generalize modeOf z = md at *
     generalize bs (Lib.decDigits q) = dn at *
     generalize hlv : (aAround (turnsLA fileA (q + 1) (ms.drop (q + 1))) abP).length = lv at *
     have HLV := Lib.hid hlv
     clear hlv hkk
     have zr : 9 < wr.heap.size := Nat.lt_of_lt_of_le z4 hbr.size
     have h4 : md = 0 ∨ md = 1 ∨ md = 2 ∨ md = 3 := by omega
     rcases h4 with rfl | rfl | rfl | rfl
     ·have HA2 := Lib.hid (show aAround (turnsLA fileA q (ms.drop q)) abP = newP 33 1 [] [litP (fileA q), aAround (turnsLA fileA (q + 1) (ms.drop (q + 1))) abP] from by
       first
        | exact HAC.out.trans (if_neg (by decide))
        | exact HAC.out.trans (if_pos rfl))
      clear HAC
      go_wp2_with fail
      refine (HNQ.out _).mono ?_
      rintro e w5 ⟨rfl, hb5⟩
      have HV5 := Lib.hid (HV.out.below hb5)
      have hb5 := bNext hbr hb5
      have z5 : 9 < w5.heap.size := Nat.lt_of_lt_of_le z4 hb5.size
      clear HV HNQ
      go_wp2_with fail
      rw [EF.out]
      refine (cLit_any (fileA q) 9 _ z5).mono ?_
      rintro e w6 ⟨vf, rfl, hvf, hb6⟩
      have HVF := Lib.hid hvf
      obtain ⟨gf, cf, rfl, -⟩ := id hvf
      have z6 : 9 < w6.heap.size := Nat.lt_of_lt_of_le z5 hb6.size
      have HV6 := Lib.hid (HV5.out.below hb6)
      have hB6 := bNext hb5 hb6
      clear hvf hb6 HV5 hbr hb5 EF
      go_wp2_with fail
      refine (twoP_any 33 1 (litP (fileA q)) (aAround (turnsLA fileA (q + 1) (ms.drop (q + 1))) abP) 9 _ _ w6 z6 HVF.out HV6.out (by rw [HLV.out, show (litP (fileA q)).length = 1 from rfl]; have := HAL.out; have := HML.out; omega)).mono ?_
      rintro e w7 ⟨vn, rfl, hvn, hb7⟩
      have HVN := Lib.hid (show NSl w7 9 vn (aAround (turnsLA fileA q (ms.drop q)) abP) from by rw [HA2.out]; exact hvn)
      obtain ⟨gn, cn, rfl, -⟩ := id HVN.out
      have hB7 := bNext hB6 hb7
      clear hvn hb7 hB6 HV6 HVF HA2
      generalize (aAround (turnsLA fileA q (ms.drop q)) abP).length = ll at *
      go_wp2_with fail
      go_roundg q
      case measure => omega
      case rel => exact ⟨q, _, rfl, by omega, rfl, HVN.out, by go_num, hB7⟩
     ·have HA2 := Lib.hid (show aAround (turnsLA fileA q (ms.drop q)) abP = newP 33 2 [] [litP (fileA q), aAround (turnsLA fileA (q + 1) (ms.drop (q + 1))) abP] from by
       first
        | exact HAC.out.trans (if_neg (by decide))
        | exact HAC.out.trans (if_pos rfl))
      clear HAC
      go_wp2_with fail
      refine (HNQ.out _).mono ?_
      rintro e w5 ⟨rfl, hb5⟩
      have HV5 := Lib.hid (HV.out.below hb5)
      have hb5 := bNext hbr hb5
      have z5 : 9 < w5.heap.size := Nat.lt_of_lt_of_le z4 hb5.size
      clear HV HNQ
      go_wp2_with fail
      rw [EF.out]
      refine (cLit_any (fileA q) 9 _ z5).mono ?_
      rintro e w6 ⟨vf, rfl, hvf, hb6⟩
      have HVF := Lib.hid hvf
      obtain ⟨gf, cf, rfl, -⟩ := id hvf
      have z6 : 9 < w6.heap.size := Nat.lt_of_lt_of_le z5 hb6.size
      have HV6 := Lib.hid (HV5.out.below hb6)
      have hB6 := bNext hb5 hb6
      clear hvf hb6 HV5 hbr hb5 EF
      go_wp2_with fail
      refine (twoP_any 33 2 (litP (fileA q)) (aAround (turnsLA fileA (q + 1) (ms.drop (q + 1))) abP) 9 _ _ w6 z6 HVF.out HV6.out (by rw [HLV.out, show (litP (fileA q)).length = 1 from rfl]; have := HAL.out; have := HML.out; omega)).mono ?_
      rintro e w7 ⟨vn, rfl, hvn, hb7⟩
      have HVN := Lib.hid (show NSl w7 9 vn (aAround (turnsLA fileA q (ms.drop q)) abP) from by rw [HA2.out]; exact hvn)
      obtain ⟨gn, cn, rfl, -⟩ := id HVN.out
      have hB7 := bNext hB6 hb7
      clear hvn hb7 hB6 HV6 HVF HA2
      generalize (aAround (turnsLA fileA q (ms.drop q)) abP).length = ll at *
      go_wp2_with fail
      go_roundg q
      case measure => omega
      case rel => exact ⟨q, _, rfl, by omega, rfl, HVN.out, by go_num, hB7⟩
     ·have HA2 := Lib.hid (show aAround (turnsLA fileA q (ms.drop q)) abP = newP 33 3 [] [litP (fileA q), aAround (turnsLA fileA (q + 1) (ms.drop (q + 1))) abP] from by
       first
        | exact HAC.out.trans (if_neg (by decide))
        | exact HAC.out.trans (if_pos rfl))
      clear HAC
      go_wp2_with fail
      refine (HNQ.out _).mono ?_
      rintro e w5 ⟨rfl, hb5⟩
      have HV5 := Lib.hid (HV.out.below hb5)
      have hb5 := bNext hbr hb5
      have z5 : 9 < w5.heap.size := Nat.lt_of_lt_of_le z4 hb5.size
      clear HV HNQ
      go_wp2_with fail
      rw [EF.out]
      refine (cLit_any (fileA q) 9 _ z5).mono ?_
      rintro e w6 ⟨vf, rfl, hvf, hb6⟩
      have HVF := Lib.hid hvf
      obtain ⟨gf, cf, rfl, -⟩ := id hvf
      have z6 : 9 < w6.heap.size := Nat.lt_of_lt_of_le z5 hb6.size
      have HV6 := Lib.hid (HV5.out.below hb6)
      have hB6 := bNext hb5 hb6
      clear hvf hb6 HV5 hbr hb5 EF
      go_wp2_with fail
      refine (twoP_any 33 3 (litP (fileA q)) (aAround (turnsLA fileA (q + 1) (ms.drop (q + 1))) abP) 9 _ _ w6 z6 HVF.out HV6.out (by rw [HLV.out, show (litP (fileA q)).length = 1 from rfl]; have := HAL.out; have := HML.out; omega)).mono ?_
      rintro e w7 ⟨vn, rfl, hvn, hb7⟩
      have HVN := Lib.hid (show NSl w7 9 vn (aAround (turnsLA fileA q (ms.drop q)) abP) from by rw [HA2.out]; exact hvn)
      obtain ⟨gn, cn, rfl, -⟩ := id HVN.out
      have hB7 := bNext hB6 hb7
      clear hvn hb7 hB6 HV6 HVF HA2
      generalize (aAround (turnsLA fileA q (ms.drop q)) abP).length = ll at *
      go_wp2_with fail
      go_roundg q
      case measure => omega
      case rel => exact ⟨q, _, rfl, by omega, rfl, HVN.out, by go_num, hB7⟩
     ·have HA2 := Lib.hid (show aAround (turnsLA fileA q (ms.drop q)) abP = newP 34 0 [] [litP (fileA q), aAround (turnsLA fileA (q + 1) (ms.drop (q + 1))) abP] from by
       first
        | exact HAC.out.trans (if_neg (by decide))
        | exact HAC.out.trans (if_pos rfl))
      clear HAC
      go_wp2_with fail
      refine (HNQ.out _).mono ?_
      rintro e w5 ⟨rfl, hb5⟩
      have HV5 := Lib.hid (HV.out.below hb5)
      have hb5 := bNext hbr hb5
      have z5 : 9 < w5.heap.size := Nat.lt_of_lt_of_le z4 hb5.size
      clear HV HNQ
      go_wp2_with fail
      rw [EF.out]
      refine (cLit_any (fileA q) 9 _ z5).mono ?_
      rintro e w6 ⟨vf, rfl, hvf, hb6⟩
      have HVF := Lib.hid hvf
      obtain ⟨gf, cf, rfl, -⟩ := id hvf
      have z6 : 9 < w6.heap.size := Nat.lt_of_lt_of_le z5 hb6.size
      have HV6 := Lib.hid (HV5.out.below hb6)
      have hB6 := bNext hb5 hb6
      clear hvf hb6 HV5 hbr hb5 EF
      go_wp2_with fail
      refine (twoP_any 34 0 (litP (fileA q)) (aAround (turnsLA fileA (q + 1) (ms.drop (q + 1))) abP) 9 _ _ w6 z6 HVF.out HV6.out (by rw [HLV.out, show (litP (fileA q)).length = 1 from rfl]; have := HAL.out; have := HML.out; omega)).mono ?_
      rintro e w7 ⟨vn, rfl, hvn, hb7⟩
      have HVN := Lib.hid (show NSl w7 9 vn (aAround (turnsLA fileA q (ms.drop q)) abP) from by rw [HA2.out]; exact hvn)
      obtain ⟨gn, cn, rfl, -⟩ := id HVN.out
      have hB7 := bNext hB6 hb7
      clear hvn hb7 hB6 HV6 HVF HA2
      generalize (aAround (turnsLA fileA q (ms.drop q)) abP).length = ll at *
      go_wp2_with fail
      go_roundg q
      case measure => omega
      case rel => exact ⟨q, _, rfl, by omega, rfl, HVN.out, by go_num, hB7⟩
    ·obtain rfl : k = 0 := by omega
     go_wp2_with fail
     go_meet
     case rel => exact ⟨_, rfl, HV.out, hbr⟩
  case rest =>
   rename World => w5
   obtain ⟨v, rfl, hv, hb5⟩ := hcut
   rw [List.drop_zero] at hv
   have HV := Lib.hid hv
   obtain ⟨gv, cv, rfl, -⟩ := id hv
   have hB5 := bNext hB4 hb5
   have hS5 := hS4.below hb5
   have hm5 := hm4.elim fun m hm => (⟨m, bSome hb5 hm⟩ : ∃ m, w5.cell? ⟨9, 0, none⟩ = some (.int .i64 m))
   have ht5 := bSome hb5 ht4
   have HPL := Lib.hid (show (aAround (turnsLA fileA 0 ms) abP).length ≤ 27 from by have h := aroundA_len fileA ms 0; rw [List.drop_zero] at h; have := HML.out; omega)
   generalize aAround (turnsLA fileA 0 ms) abP = P at *
   clear hv HB4 hS4 hm4 ht4 hB4 hb5 HVP4 HMG
   have EB := Lib.hid (show ({ data := #[97, 32, 98] } : ByteArray) ++ bs S = bs (97 :: 32 :: 98 :: S) from by rw [show ({ data := #[97, 32, 98] } : ByteArray) = bs [97, 32, 98] from rfl, bs_app9]; rfl)
   have EF := Lib.hid (show bs S ++ ({ data := #[32, 97, 32, 98] } : ByteArray) = bs (S ++ [32, 97, 32, 98]) from by rw [show ({ data := #[32, 97, 32, 98] } : ByteArray) = bs [32, 97, 32, 98] from rfl, bs_app9])
   have EM := Lib.hid (show ({ data := #[97] } : ByteArray) ++ bs S ++ { data := #[32, 98] } = bs (97 :: (S ++ [32, 98])) from by
    rw [show ({ data := #[97] } : ByteArray) = bs [97] from rfl, show ({ data := #[32, 98] } : ByteArray) = bs [32, 98] from rfl, bs_app9, bs_app9]; rfl)
   have ER := Lib.hid (show ({ data := #[123, 32, 97, 32, 98, 59, 32, 125] } : ByteArray) ++ bs S = bs ([123, 32, 97, 32, 98, 59, 32, 125] ++ S) from by rw [show ({ data := #[123, 32, 97, 32, 98, 59, 32, 125] } : ByteArray) = bs [123, 32, 97, 32, 98, 59, 32, 125] from rfl, bs_app9])
   have hbl : (bs S).size ≤ 96 := by rw [bs_size]; exact hSl
   generalize bs S = sb at *
   cases ahead with
   | false =>
    go_wp2_with fail
    rw [EB.out]
    refine (parse_okA _ P PB.out (by simp; omega) w5 sent hS5 hm5 ht5).mono ?_
    rintro e w6 ⟨g6, c6, b6, rfl, hN6, hb6⟩
    have HN6 := Lib.hid hN6
    have HV6 := Lib.hid (HV.out.below hb6)
    have hS6 := hS5.below hb6
    have hm6 := hm5.elim fun m hm => (⟨m, bSome hb6 hm⟩ : ∃ m, w6.cell? ⟨9, 0, none⟩ = some (.int .i64 m))
    have ht6 := bSome hb6 ht5
    have hB6 := bNext hB5 hb6
    clear hN6 HV hS5 hm5 ht5 hB5 hb6 EB EF PB PF
    go_wp2_with fail
    rw [EM.out]
    refine (parse_okA _ P PM.out (by simp; omega) w6 sent hS6 hm6 ht6).mono ?_
    rintro e w7 ⟨g7, c7, b7, rfl, hN7, hb7⟩
    have HN7 := Lib.hid hN7
    have HN6' := Lib.hid (HN6.out.below hb7)
    have HV7 := Lib.hid (HV6.out.below hb7)
    have hS7 := hS6.below hb7
    have hm7 := hm6.elim fun m hm => (⟨m, bSome hb7 hm⟩ : ∃ m, w7.cell? ⟨9, 0, none⟩ = some (.int .i64 m))
    have ht7 := bSome hb7 ht6
    have hB7 := bNext hB6 hb7
    clear hN7 HN6 HV6 hS6 hm6 ht6 hB6 hb7 EM PM
    go_wp2_with fail
    rw [ER.out]
    refine (parse_okA _ P PR.out (by simp; omega) w7 sent hS7 hm7 ht7).mono ?_
    rintro e w8 ⟨g8, c8, b8, rfl, hN8, hb8⟩
    have HN8 := Lib.hid hN8
    have HN7' := Lib.hid (HN7.out.below hb8)
    have HN6'' := Lib.hid (HN6'.out.below hb8)
    have HV8 := Lib.hid (HV7.out.below hb8)
    have hB8 := bNext hB7 hb8
    clear hN8 HN7 HN6' HV7 hS7 hm7 ht7 hB7 hb8 ER PR
    have hpl : P.length ≤ 100000000 := by have := HPL.out; omega
    have HPL2 := Lib.hid hpl
    clear hpl
    generalize hpq : P.length = pl at *
    have HPQ := Lib.hid hpq
    clear hpq
    go_wp2_with fail
    refine (cSame_eq P b6 9 _ _ w8 HN6''.out HV8.out (by rw [HPQ.out]; exact HPL2.out)).mono ?_
    rintro e w9 ⟨rfl, hb9⟩
    have HV9 := Lib.hid (HV8.out.below hb9)
    have HN79 := Lib.hid (HN7'.out.below hb9)
    have HN89 := Lib.hid (HN8.out.below hb9)
    have hB9 := bNext hB8 hb9
    clear HV8 HN7' HN8 HN6'' hB8 hb9
    go_wp2_with fail
    refine (cSame_eq P b7 9 _ _ w9 HN79.out HV9.out (by rw [HPQ.out]; exact HPL2.out)).mono ?_
    rintro e wa ⟨rfl, hba⟩
    have HVa := Lib.hid (HV9.out.below hba)
    have HN8a := Lib.hid (HN89.out.below hba)
    have hBa := bNext hB9 hba
    clear HV9 HN79 HN89 hB9 hba
    go_wp2_with fail
    refine (cSame_eq P b8 9 _ _ wa HN8a.out HVa.out (by rw [HPQ.out]; exact HPL2.out)).mono ?_
    rintro e wb ⟨rfl, hbb⟩
    have hBb := bNext hBa hbb
    go_wp2_with fail
    go_ret
    exact ⟨rfl, hBb⟩
   | true =>
    go_wp2_with fail
    rw [EF.out]
    refine (parse_okA _ P PF.out (by simp; omega) w5 sent hS5 hm5 ht5).mono ?_
    rintro e w6 ⟨g6, c6, b6, rfl, hN6, hb6⟩
    have HN6 := Lib.hid hN6
    have HV6 := Lib.hid (HV.out.below hb6)
    have hS6 := hS5.below hb6
    have hm6 := hm5.elim fun m hm => (⟨m, bSome hb6 hm⟩ : ∃ m, w6.cell? ⟨9, 0, none⟩ = some (.int .i64 m))
    have ht6 := bSome hb6 ht5
    have hB6 := bNext hB5 hb6
    clear hN6 HV hS5 hm5 ht5 hB5 hb6 EB EF PB PF
    go_wp2_with fail
    rw [EM.out]
    refine (parse_okA _ P PM.out (by simp; omega) w6 sent hS6 hm6 ht6).mono ?_
    rintro e w7 ⟨g7, c7, b7, rfl, hN7, hb7⟩
    have HN7 := Lib.hid hN7
    have HN6' := Lib.hid (HN6.out.below hb7)
    have HV7 := Lib.hid (HV6.out.below hb7)
    have hS7 := hS6.below hb7
    have hm7 := hm6.elim fun m hm => (⟨m, bSome hb7 hm⟩ : ∃ m, w7.cell? ⟨9, 0, none⟩ = some (.int .i64 m))
    have ht7 := bSome hb7 ht6
    have hB7 := bNext hB6 hb7
    clear hN7 HN6 HV6 hS6 hm6 ht6 hB6 hb7 EM PM
    go_wp2_with fail
    rw [ER.out]
    refine (parse_okA _ P PR.out (by simp; omega) w7 sent hS7 hm7 ht7).mono ?_
    rintro e w8 ⟨g8, c8, b8, rfl, hN8, hb8⟩
    have HN8 := Lib.hid hN8
    have HN7' := Lib.hid (HN7.out.below hb8)
    have HN6'' := Lib.hid (HN6'.out.below hb8)
    have HV8 := Lib.hid (HV7.out.below hb8)
    have hB8 := bNext hB7 hb8
    clear hN8 HN7 HN6' HV7 hS7 hm7 ht7 hB7 hb8 ER PR
    have hpl : P.length ≤ 100000000 := by have := HPL.out; omega
    have HPL2 := Lib.hid hpl
    clear hpl
    generalize hpq : P.length = pl at *
    have HPQ := Lib.hid hpq
    clear hpq
    go_wp2_with fail
    refine (cSame_eq P b6 9 _ _ w8 HN6''.out HV8.out (by rw [HPQ.out]; exact HPL2.out)).mono ?_
    rintro e w9 ⟨rfl, hb9⟩
    have HV9 := Lib.hid (HV8.out.below hb9)
    have HN79 := Lib.hid (HN7'.out.below hb9)
    have HN89 := Lib.hid (HN8.out.below hb9)
    have hB9 := bNext hB8 hb9
    clear HV8 HN7' HN8 HN6'' hB8 hb9
    go_wp2_with fail
    refine (cSame_eq P b7 9 _ _ w9 HN79.out HV9.out (by rw [HPQ.out]; exact HPL2.out)).mono ?_
    rintro e wa ⟨rfl, hba⟩
    have HVa := Lib.hid (HV9.out.below hba)
    have HN8a := Lib.hid (HN89.out.below hba)
    have hBa := bNext hB9 hba
    clear HV9 HN79 HN89 hB9 hba
    go_wp2_with fail
    refine (cSame_eq P b8 9 _ _ wa HN8a.out HVa.out (by rw [HPQ.out]; exact HPL2.out)).mono ?_
    rintro e wb ⟨rfl, hbb⟩
    have hBb := bNext hBa hbb
    go_wp2_with fail
    go_ret
    exact ⟨rfl, hBb⟩
theorem turnsLawA_all (ao : Option Addr) (ln cap : Nat) (ahead : Bool) (w : World) (sent : Nat → Addr) (hS : Sents w sent) (hmx : ∃ m, w.cell? ⟨9, 0, none⟩ = some (.int .i64 m)) (het : w.cell? ⟨18, 0, none⟩ = some (.iface 162 (.agg #[.pointer (some ⟨19, 25, none⟩)]))) (hln : ln ≤ cap) (hcap : cap ≤ maxLen) (hB : IntsAt w ao ln) :
  Calls Tryz.prog 10 #[.slice ao ln cap, .bool ahead] w fun e w' => e = .returned (.bool true) ∧ Below w.heap.size w w' := by
 by_cases h12 : ln ≤ 12
 ·obtain ⟨Z, hZ⟩ := hB.of
  exact turnsLawA_in ao ln cap Z ahead w sent hS hmx het hln hcap hZ h12
 ·have h13 : 12 < ln := by omega
  clear hB h12
  go_enter Tryz.func10, Tryz.ntmps10
  go_wp2_with fail
  refine (first11_any _ sent hS hmx het).mono ?_
  rintro e w1 ⟨rfl, hb1⟩
  go_wp2_with fail
  go_ret
  exact ⟨rfl, hb1⟩
end Go.Proofs.YtepebnblbheegaaGreatDoor
