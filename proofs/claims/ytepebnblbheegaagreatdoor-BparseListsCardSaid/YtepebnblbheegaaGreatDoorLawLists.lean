/- BparseLists. -/
import Derived.Test.YtepebnblbheegaaGreatDoorLawKit
import Derived.Test.YtepebnblbheegaaGreatDoorParseLG
namespace Go.Proofs.YtepebnblbheegaaGreatDoor
open Go Go.RowKit

theorem dblB_one9 (c : UInt8) : dblB [c] = if c.toNat = 39 then [39, 39] else [c] := by
  rw [dblB]
  split <;> rfl
theorem dblB_succ9 (s : ByteArray) (k : Nat) (h : k < s.size) : dblB (s.data.toList.take (k + 1)) = dblB (s.data.toList.take k) ++ (if (s[k]).toNat = 39 then [39, 39] else [s[k]]) := by
  have h1 : k < s.data.toList.length := by rw [size_eq]; exact h
  have e : s.data.toList[k] = s[k] := by simp; rfl
  rw [List.take_succ_eq_append_getElem h1, dblB_append, e, dblB_one9]
theorem extract_one9 (s : ByteArray) (k : Nat) (h : k < s.size) : s.extract k (k + 1) = bs [s[k]] := by
  rw [extract_bs, getElem_bat s k h]
  congr 1
  rw [List.drop_take, drop_bat s k h, show k + 1 - k = 1 from by omega]
  rfl
theorem quoteS_len (s : List UInt8) : (quoteS s).length ≤ 2 * s.length + 2 := by
  unfold quoteS
  have := dblB_length s
  simp only [List.length_cons, List.length_append, List.length_nil]
  omega

def strsL (Z : Nat → ByteArray) (n : Nat) : List (List UInt8) := (List.range n).map fun i => (Z i).data.toList
theorem strsL_len (Z : Nat → ByteArray) (n : Nat) : (strsL Z n).length = n := by simp [strsL]
theorem strsL_succ (Z : Nat → ByteArray) (n : Nat) : strsL Z (n + 1) = strsL Z n ++ [(Z n).data.toList] := by simp [strsL, List.range_succ]
theorem strsL_mem (Z : Nat → ByteArray) (n : Nat) (h : ∀ i, i < n → (Z i).size ≤ 100) : ∀ s ∈ strsL Z n, s.length ≤ 100 := by
  intro s hs
  unfold strsL at hs
  obtain ⟨i, hi, rfl⟩ := List.mem_map.1 hs
  rw [size_eq]
  exact h i (List.mem_range.1 hi)
theorem listSrc_snoc (L : List (List UInt8)) (s : List UInt8) : listSrc (L ++ [s]) = listSrc L ++ (32 :: quoteS s) := by simp [listSrc]
theorem listSrc_len : ∀ (L : List (List UInt8)), (∀ s ∈ L, s.length ≤ 100) → (listSrc L).length ≤ 203 * L.length
  | [], _ => Nat.le_refl _
  | s :: L, h => by
    have ih := listSrc_len L fun t ht => h t (by simp [ht])
    have h1 := quoteS_len s
    have h2 := h s (by simp)
    have : listSrc (s :: L) = (32 :: quoteS s) ++ listSrc L := by simp [listSrc]
    rw [this]
    simp only [List.length_append, List.length_cons]
    omega
def gsep (caret : Bool) (k : Nat) : List UInt8 := if k = 0 then [] else if caret = true then [32, 94, 32] else [36, 120]
theorem glued_snoc (caret : Bool) (s : List UInt8) : ∀ (L : List (List UInt8)), gluedSrc caret (L ++ [s]) = gluedSrc caret L ++ (gsep caret L.length ++ quoteS s)
  | [] => by simp [gluedSrc, gsep]
  | [t] => by
    simp [gluedSrc, gsep]
  | t :: u :: L => by
    have ih := glued_snoc caret s (u :: L)
    show quoteS t ++ ((if caret then [32, 94, 32] else [36, 120]) ++ gluedSrc caret ((u :: L) ++ [s])) = _
    rw [ih]
    simp [gluedSrc, gsep]
theorem glued_len (caret : Bool) : ∀ (L : List (List UInt8)), (∀ s ∈ L, s.length ≤ 100) → (gluedSrc caret L).length ≤ 205 * L.length
  | [], _ => Nat.zero_le _
  | [s], h => by
    have h1 := quoteS_len s
    have h2 := h s (by simp)
    simp only [gluedSrc, List.length_cons, List.length_nil]
    omega
  | s :: t :: L, h => by
    have ih := glued_len caret (t :: L) fun u hu => h u (by simp at hu ⊢; exact .inr hu)
    have h1 := quoteS_len s
    have h2 := h s (by simp)
    rw [gluedSrc]
    simp only [List.length_append, List.length_cons] at ih ⊢
    split <;> simp only [List.length_cons, List.length_nil] <;> omega
theorem flat_len9 : ∀ (L : List (List UInt8)), (∀ s ∈ L, s.length ≤ 100) → L.flatten.length ≤ 100 * L.length
  | [], _ => Nat.le_refl _
  | s :: L, h => by
    have ih := flat_len9 L fun t ht => h t (by simp [ht])
    have h2 := h s (by simp)
    simp only [List.flatten_cons, List.length_append, List.length_cons]
    omega
theorem items_snoc (s : List UInt8) : ∀ (L : List (List UInt8)), itemsP false (L ++ [s]) = itemsP false L ++ ((if L.length = 0 then [] else [newP 2 0 [120] []]) ++ [litP s])
  | [] => by simp [itemsP]
  | [t] => by simp [itemsP]
  | t :: u :: L => by
    have ih := items_snoc s (u :: L)
    show litP t :: ([newP 2 0 [120] []] ++ itemsP false ((u :: L) ++ [s])) = _
    rw [ih]
    simp [itemsP]
theorem items_len : ∀ (L : List (List UInt8)), (itemsP false L).length = 2 * L.length - 1 ∧ (itemsP false L).flatten.length = 2 * L.length - 1 ∧ ∀ x ∈ itemsP false L, 0 < x.length
  | [] => ⟨rfl, rfl, fun x hx => by cases hx⟩
  | [s] => ⟨rfl, rfl, fun x hx => by simp [itemsP] at hx; subst hx; simp [litP, newP]⟩
  | s :: t :: L => by
    obtain ⟨h1, h2, h3⟩ := items_len (t :: L)
    refine ⟨?_, ?_, fun x hx => ?_⟩
    · simp [itemsP, h1]
      simp at h1
      omega
    · simp [itemsP] at h2 ⊢
      rw [h2]
      simp [litP, newP]
      omega
    · simp only [itemsP, if_neg (show ¬ (false = true) by simp), List.cons_append, List.nil_append, List.mem_cons] at hx
      rcases hx with rfl | rfl | hx
      · simp [litP, newP]
      · simp [newP]
      · exact h3 x hx
theorem lits_flat : ∀ (L : List (List UInt8)), (L.map litP).flatten.length = L.length
  | [] => rfl
  | s :: L => by
    rw [List.map_cons, List.flatten_cons, List.length_append, lits_flat L]
    simp [litP, newP]
    omega

set_option maxRecDepth 100000 in
set_option maxHeartbeats 16000000 in
theorem listsLaw_in (ao : Option Addr) (n cap : Nat) (Z : Nat → ByteArray) (caret : Bool) (w : World) (sent : Nat → Addr) (hS : Sents w sent) (hmx : ∃ m, w.cell? ⟨9, 0, none⟩ = some (.int .i64 m)) (hln : n ≤ cap) (_hcap : cap ≤ maxLen) (hB : StrsOf w ao n Z) (h12 : n ≤ 12) (hn0 : 0 < n) :
    Calls Tryz.prog 5 #[.slice ao n cap, .bool caret] w fun e w' => e = .returned (.bool true) ∧ Below w.heap.size w w' := by
  obtain ⟨k0, hk0, hk1, hk2, hk3⟩ := info_parts infoNodes
  have HB := Lib.hid hB
  have hne : ((n : Int) == 0) = false := by rw [beq_eq_false_iff_ne]; omega
  clear hB
  go_enter Tryz.func5, Tryz.ntmps5
  go_wp2_with fail
  refine (first13_any _ sent hS hmx).mono ?_
  rintro e w1 ⟨rfl, hb1⟩
  have hm1 := hmx.elim fun m hm => (⟨m, bSome hb1 hm⟩ : ∃ m, w1.cell? ⟨9, 0, none⟩ = some (.int .i64 m))
  have hS1 := hS.below hb1
  have HB1 := Lib.hid (HB.out.below hb1)
  have hgm : 9 < w1.heap.size := hm1.elim fun m hm => block_lt_of_cell hm
  clear hS hmx HB
  go_wp2_with fail
  go_loopg [6, 7, 8, 9, 10] n (fun m a b c v i wr => ∃ k : Nat, m = n - k ∧ k ≤ n ∧ a = .string (bs (listSrc (strsL Z k))) ∧ b = .string (bs (gluedSrc caret (strsL Z k))) ∧ c = .string (bs (strsL Z k).flatten) ∧ KOwn wr w1.heap.size 9 v ((strsL Z k).map litP) ∧ i = .int .i64 k ∧ Below w1.heap.size w1 wr ∧ Hid (∀ j, j < k → (Z j).size ≤ 100))
  case atStart => exact ⟨0, rfl, Nat.zero_le _, rfl, rfl, rfl, KOwn.nil _ _ _, rfl, Below.refl _ _, Lib.hid fun j hj => absurd hj (by omega)⟩
  case round =>
    obtain ⟨k, rfl, hk, rfl, rfl, rfl, hO, rfl, hbr, hall⟩ := hrel
    have hmem := strsL_mem Z k hall.out
    have s1 := listSrc_len _ hmem
    have s2 := glued_len caret _ hmem
    have s3 := flat_len9 _ hmem
    rw [strsL_len] at s1 s2 s3
    have q1 : (bs (listSrc (strsL Z k))).size ≤ 2600 := by rw [bs_size]; omega
    have q2 : (bs (gluedSrc caret (strsL Z k))).size ≤ 2600 := by rw [bs_size]; omega
    have q3 : (bs (strsL Z k).flatten).size ≤ 2600 := by rw [bs_size]; omega
    have HO := Lib.hid hO
    obtain ⟨va, vc, rfl⟩ := hO.form
    rw [List.length_map, strsL_len] at HO ⊢
    by_cases hlt : k < n
    · obtain ⟨a, rfl, hz, hzm⟩ := HB1.out k hlt
      have hz := bSome hbr hz
      obtain ⟨s, hs⟩ : ∃ s, Z k = s := ⟨_, rfl⟩
      rw [hs] at hz hzm
      unfold maxLen at hzm
      have EL := Lib.hid (show listSrc (strsL Z k) ++ (32 :: quoteS s.data.toList) = listSrc (strsL Z (k + 1)) from by rw [strsL_succ, listSrc_snoc, hs])
      have EG := Lib.hid (show gluedSrc caret (strsL Z k) ++ (gsep caret k ++ quoteS s.data.toList) = gluedSrc caret (strsL Z (k + 1)) from by rw [strsL_succ, glued_snoc, strsL_len, hs])
      have EF := Lib.hid (show (strsL Z k).flatten ++ s.data.toList = (strsL Z (k + 1)).flatten from by rw [strsL_succ, hs]; simp)
      have EM := Lib.hid (show (strsL Z k).map litP ++ [litP s.data.toList] = (strsL Z (k + 1)).map litP from by rw [strsL_succ, hs]; simp)
      have HSK := Lib.hid hs
      have HML := Lib.hid (show ((strsL Z k).map litP).length = k from by rw [List.length_map, strsL_len])
      clear hs hmem s1 s2 s3
      generalize listSrc (strsL Z k) = LA at *
      generalize gluedSrc caret (strsL Z k) = LG at *
      generalize (strsL Z k).flatten = LF at *
      generalize (strsL Z k).map litP = LM at *
      by_cases hbig : 100 < s.size
      · go_wp2_with fail
        go_ret
        exact ⟨rfl, bNext hb1 (hbr.mono (Nat.le_refl _))⟩
      · have hle : s.size ≤ 100 := by omega
        go_upto_block 2 with fail
        go_cut [11] (fun s11 w9 => s11 = .string (bs (39 :: dblB s.data.toList)) ∧ wr = w9)
        case first =>
          go_wp2_with fail
          go_loopg [11, 12] (s.size) (fun m x y w9 => ∃ j : Nat, m = s.size - j ∧ j ≤ s.size ∧ x = .string (bs (39 :: dblB (s.data.toList.take j))) ∧ y = .int .i64 j ∧ wr = w9)
          case atStart => exact ⟨0, rfl, Nat.zero_le _, rfl, rfl, rfl⟩
          case round =>
            obtain ⟨j, rfl, hj, rfl, rfl, rfl⟩ := hrel
            have hzz : (bs (39 :: dblB (s.data.toList.take j))).size ≤ 1000 := by
              rw [bs_size, List.length_cons]
              have := dblB_length (s.data.toList.take j)
              rw [List.length_take, size_eq] at this
              omega
            by_cases hjt : j < s.size
            · have hd := dblB_succ9 s j hjt
              by_cases h39 : s[j].toNat = 39
              · have e39 : ((s[j].toNat : Int) == 39) = true := by rw [beq_iff_eq]; omega
                obtain ⟨t1, ht1⟩ : ∃ t1, bs (39 :: dblB (s.data.toList.take j)) ++ s.extract j (j + 1) = t1 := ⟨_, rfl⟩
                have ht2 : t1 ++ ⟨#[39]⟩ = bs (39 :: dblB (s.data.toList.take (j + 1))) := by
                  rw [← ht1, extract_one9 s j hjt, show (⟨#[39]⟩ : ByteArray) = bs [39] from rfl, bs_app9, bs_app9, hd, if_pos h39, show s[j] = 39 from UInt8.toNat_inj.1 h39]
                  simp
                have hz1 : t1.size ≤ 1001 := by
                  rw [← ht1, extract_one9 s j hjt, bs_app9, bs_size]
                  rw [bs_size] at hzz
                  simp only [List.length_append, List.length_cons, List.length_nil] at hzz ⊢
                  omega
                have HT2 := Lib.hid ht2
                clear h39 hd ht2
                generalize bs (39 :: dblB (s.data.toList.take j)) = t0 at *
                go_wp2_with fail
                go_roundg (s.size - (j + 1))
                case measure => omega
                case rel => exact ⟨j + 1, rfl, by omega, by rw [HT2.out], by go_num, rfl⟩
              · have e39 : ((s[j].toNat : Int) == 39) = false := by rw [beq_eq_false_iff_ne]; omega
                have ht1 : bs (39 :: dblB (s.data.toList.take j)) ++ s.extract j (j + 1) = bs (39 :: dblB (s.data.toList.take (j + 1))) := by
                  rw [extract_one9 s j hjt, bs_app9, hd, if_neg h39]
                  simp
                have HT1 := Lib.hid ht1
                clear h39 hd ht1
                generalize bs (39 :: dblB (s.data.toList.take j)) = t0 at *
                go_wp2_with fail
                go_roundg (s.size - (j + 1))
                case measure => omega
                case rel => exact ⟨j + 1, rfl, by omega, by rw [HT1.out], by go_num, rfl⟩
            · obtain rfl : j = s.size := by omega
              go_wp2_with fail
              go_meet
              case rel => exact ⟨by rw [List.take_of_length_le (by rw [size_eq]; omega)], rfl⟩
        case rest =>
          obtain ⟨rfl, rfl⟩ := hcut
          have EQ := Lib.hid (show bs (39 :: dblB s.data.toList) ++ { data := #[39] } = bs (quoteS s.data.toList) from by
            rw [show ({ data := #[39] } : ByteArray) = bs [39] from rfl, bs_app9]
            rfl)
          have hq1 : (bs (39 :: dblB s.data.toList)).size ≤ 300 := by
            rw [bs_size, List.length_cons]
            have := dblB_length s.data.toList
            rw [size_eq] at this
            omega
          have hq2 : (bs (quoteS s.data.toList)).size ≤ 300 := by
            rw [bs_size]
            have := quoteS_len s.data.toList
            rw [size_eq] at this
            omega
          have EL2 := Lib.hid (show bs LA ++ { data := #[32] } ++ bs (quoteS s.data.toList) = bs (listSrc (strsL Z (k + 1))) from by
            rw [show ({ data := #[32] } : ByteArray) = bs [32] from rfl, bs_app9, bs_app9, ← EL.out, List.append_assoc]
            rfl)
          have EF2 := Lib.hid (show bs LF ++ s = bs (strsL Z (k + 1)).flatten from by
            rw [← EF.out, ← bs_app9, bs_of])
          have hmlL : LM.length = k := HML.out
          clear EL EF
          have HG3 : Hid (bs LG ++ bs (gsep caret k) ++ bs (quoteS s.data.toList) = bs (gluedSrc caret (strsL Z (k + 1)))) := Lib.hid (by rw [bs_app9, bs_app9, ← EG.out, List.append_assoc])
          clear EG
          generalize bs (39 :: dblB s.data.toList) = qa at *
          generalize bs (quoteS s.data.toList) = qb at *
          generalize bs LA = la at *
          generalize bs LF = lf at *
          generalize bs LG = lg at *
          have zr : 9 < wr.heap.size := Nat.lt_of_lt_of_le hgm hbr.size
          have HCL := Lib.hid (show Calls Tryz.prog 23 #[.string s] wr fun e w' => ∃ v', e = .returned v' ∧ NSl w' 9 v' (litP s.data.toList) ∧ Below wr.heap.size wr w' from by
            have := cLit_any s.data.toList 9 wr zr
            rwa [bs_of] at this)
          by_cases hkz : k = 0
          · have hd1 : decide ((0 : Int) < (k : Int)) = false := by rw [decide_eq_false_iff_not]; omega
            have hd2 : decide (0 < k) = false := by rw [decide_eq_false_iff_not]; omega
            have HG := Lib.hid (show lg ++ qb = bs (gluedSrc caret (strsL Z (k + 1))) from by
              rw [← HG3.out, show gsep caret k = [] from if_pos hkz, show bs [] = ByteArray.empty from rfl, ByteArray.append_empty])
            clear hkz HG3
            go_wp2_with fail
            rw [EQ.out]
            refine HCL.out.mono ?_
            rintro e w4 ⟨vl, rfl, hvl, hb4⟩
            have HVL := Lib.hid hvl
            obtain ⟨gl, cl, rfl, -⟩ := id hvl
            obtain ⟨us, u1, u2, u3⟩ := HO.out.below hgm hb4
            have hOA : ∀ o, (w4.alloc o).ownsRow w1.heap.size 23 1 _ LM.length us := fun o => ownsRow_kept u2 (Kept.ofBelow (S := Nowhere) ((Below.refl _ w4).alloc (Nat.le_refl _) o)) (fun _ _ _ e => e)
            have hsz4 : w1.heap.size ≤ w4.heap.size := Nat.le_trans hbr.size hb4.size
            rw [hmlL] at hOA
            have HMLL := Lib.hid hmlL
            clear HCL hvl hmlL
            go_wp2_with (at_builtin; refine wpList_append_own _ rfl _ _ 39 rfl w1.heap.size 23 k0 _ 1 24 Tryz.underlying39 hk0 hk1 hk2 hk3 rfl (by decide) _ _ _ rfl (hOA _) ⟨w4.heap.size, 0, none⟩ 1 1 [.slice (some ⟨gl, 0, none⟩) (litP s.data.toList).length cl] rfl rfl ?c1 ?c2 ?c3 ?c4 ?c5 ?_)
            case c1 => exact cells_new (by simp)
            case c2 =>
              intro u hu
              simp at hu
              subst hu
              rfl
            case c3 => unfold maxLen; omega
            case c4 => omega
            case c5 => simp; omega
            intro v6 w6 hown' hgrow _
            obtain ⟨hO6, hb6⟩ := KOwn.grown hsz4 u1 u2 u3 HVL.out (by rw [HMLL.out]; exact hown') hgrow
            rw [EM.out] at hO6
            have hB6 := (bNext hbr hb4).trans hb6
            go_wp2_with fail
            go_roundg (n - (k + 1))
            case measure => omega
            case rel => exact ⟨k + 1, rfl, by omega, by rw [EL2.out], by rw [HG.out], by rw [EF2.out], hO6, by go_num, hB6, Lib.hid fun j hj => by
              by_cases e : j = k
              · rw [e, HSK.out]; exact hle
              · exact hall.out j (by omega)⟩
          · have hd1 : decide ((0 : Int) < (k : Int)) = true := by rw [decide_eq_true_eq]; omega
            have hd2 : decide (0 < k) = true := by rw [decide_eq_true_eq]; omega
            cases caret with
            | true =>
              have HG := Lib.hid (show lg ++ { data := #[32, 94, 32] } ++ qb = bs (gluedSrc true (strsL Z (k + 1))) from by
                rw [← HG3.out, show gsep true k = [32, 94, 32] by unfold gsep; rw [if_neg hkz]; rfl]
                rfl)
              clear hkz HG3
              go_wp2_with fail
              rw [EQ.out]
              refine HCL.out.mono ?_
              rintro e w4 ⟨vl, rfl, hvl, hb4⟩
              have HVL := Lib.hid hvl
              obtain ⟨gl, cl, rfl, -⟩ := id hvl
              obtain ⟨us, u1, u2, u3⟩ := HO.out.below hgm hb4
              have hOA : ∀ o, (w4.alloc o).ownsRow w1.heap.size 23 1 _ LM.length us := fun o => ownsRow_kept u2 (Kept.ofBelow (S := Nowhere) ((Below.refl _ w4).alloc (Nat.le_refl _) o)) (fun _ _ _ e => e)
              have hsz4 : w1.heap.size ≤ w4.heap.size := Nat.le_trans hbr.size hb4.size
              rw [hmlL] at hOA
              have HMLL := Lib.hid hmlL
              clear HCL hvl hmlL
              go_wp2_with (at_builtin; refine wpList_append_own _ rfl _ _ 39 rfl w1.heap.size 23 k0 _ 1 24 Tryz.underlying39 hk0 hk1 hk2 hk3 rfl (by decide) _ _ _ rfl (hOA _) ⟨w4.heap.size, 0, none⟩ 1 1 [.slice (some ⟨gl, 0, none⟩) (litP s.data.toList).length cl] rfl rfl ?c1 ?c2 ?c3 ?c4 ?c5 ?_)
              case c1 => exact cells_new (by simp)
              case c2 =>
                intro u hu
                simp at hu
                subst hu
                rfl
              case c3 => unfold maxLen; omega
              case c4 => omega
              case c5 => simp; omega
              intro v6 w6 hown' hgrow _
              obtain ⟨hO6, hb6⟩ := KOwn.grown hsz4 u1 u2 u3 HVL.out (by rw [HMLL.out]; exact hown') hgrow
              rw [EM.out] at hO6
              have hB6 := (bNext hbr hb4).trans hb6
              go_wp2_with fail
              go_roundg (n - (k + 1))
              case measure => omega
              case rel => exact ⟨k + 1, rfl, by omega, by rw [EL2.out], by rw [HG.out], by rw [EF2.out], hO6, by go_num, hB6, Lib.hid fun j hj => by
                by_cases e : j = k
                · rw [e, HSK.out]; exact hle
                · exact hall.out j (by omega)⟩
            | false =>
              have HG := Lib.hid (show lg ++ { data := #[36, 120] } ++ qb = bs (gluedSrc false (strsL Z (k + 1))) from by
                rw [← HG3.out, show gsep false k = [36, 120] by unfold gsep; rw [if_neg hkz]; rfl]
                rfl)
              clear hkz HG3
              go_wp2_with fail
              rw [EQ.out]
              refine HCL.out.mono ?_
              rintro e w4 ⟨vl, rfl, hvl, hb4⟩
              have HVL := Lib.hid hvl
              obtain ⟨gl, cl, rfl, -⟩ := id hvl
              obtain ⟨us, u1, u2, u3⟩ := HO.out.below hgm hb4
              have hOA : ∀ o, (w4.alloc o).ownsRow w1.heap.size 23 1 _ LM.length us := fun o => ownsRow_kept u2 (Kept.ofBelow (S := Nowhere) ((Below.refl _ w4).alloc (Nat.le_refl _) o)) (fun _ _ _ e => e)
              have hsz4 : w1.heap.size ≤ w4.heap.size := Nat.le_trans hbr.size hb4.size
              rw [hmlL] at hOA
              have HMLL := Lib.hid hmlL
              clear HCL hvl hmlL
              go_wp2_with (at_builtin; refine wpList_append_own _ rfl _ _ 39 rfl w1.heap.size 23 k0 _ 1 24 Tryz.underlying39 hk0 hk1 hk2 hk3 rfl (by decide) _ _ _ rfl (hOA _) ⟨w4.heap.size, 0, none⟩ 1 1 [.slice (some ⟨gl, 0, none⟩) (litP s.data.toList).length cl] rfl rfl ?c1 ?c2 ?c3 ?c4 ?c5 ?_)
              case c1 => exact cells_new (by simp)
              case c2 =>
                intro u hu
                simp at hu
                subst hu
                rfl
              case c3 => unfold maxLen; omega
              case c4 => omega
              case c5 => simp; omega
              intro v6 w6 hown' hgrow _
              obtain ⟨hO6, hb6⟩ := KOwn.grown hsz4 u1 u2 u3 HVL.out (by rw [HMLL.out]; exact hown') hgrow
              rw [EM.out] at hO6
              have hB6 := (bNext hbr hb4).trans hb6
              go_wp2_with fail
              go_roundg (n - (k + 1))
              case measure => omega
              case rel => exact ⟨k + 1, rfl, by omega, by rw [EL2.out], by rw [HG.out], by rw [EF2.out], hO6, by go_num, hB6, Lib.hid fun j hj => by
                by_cases e : j = k
                · rw [e, HSK.out]; exact hle
                · exact hall.out j (by omega)⟩
    · obtain rfl : n = k := by omega
      have HLN := Lib.hid (strsL_len Z n)
      have PL := Lib.hid (parse_list (strsL Z n) (by rw [strsL_len]; omega) hmem)
      have PG := Lib.hid (parse_glued caret (strsL Z n) (fun e => by have := strsL_len Z n; rw [e] at this; simp at this; omega) (by rw [strsL_len]; omega) hmem)
      have hO2 := HO
      clear HB1 hall hmem
      generalize strsL Z n = ls at *
      have HFL := Lib.hid (lits_flat ls)
      have E1 := Lib.hid (show ({ data := #[120, 61, 40] } : ByteArray) ++ bs (listSrc ls) ++ { data := #[32, 41] } = bs (120 :: 61 :: 40 :: (listSrc ls ++ [32, 41])) from by
        rw [show ({ data := #[120, 61, 40] } : ByteArray) = bs [120, 61, 40] from rfl, show ({ data := #[32, 41] } : ByteArray) = bs [32, 41] from rfl, bs_app9, bs_app9]; rfl)
      have E2 := Lib.hid (show ({ data := #[120, 61] } : ByteArray) ++ bs (gluedSrc caret ls) = bs (120 :: 61 :: gluedSrc caret ls) from by
        rw [show ({ data := #[120, 61] } : ByteArray) = bs [120, 61] from rfl, bs_app9]; rfl)
      have hSr := hS1.below hbr
      have hmr := hm1.elim fun m hm => (⟨m, bSome hbr hm⟩ : ∃ m, wr.cell? ⟨9, 0, none⟩ = some (.int .i64 m))
      have hBr := bNext hb1 hbr
      have hgr : w1.heap.size ≤ wr.heap.size := hbr.size
      have lsz : (listSrc ls).length ≤ 2600 := by omega
      have gsz : (gluedSrc caret ls).length ≤ 2600 := by omega
      have fsz : ls.flatten.length ≤ 2600 := by omega
      clear hbr hb1 hS1 hm1 s1 s2 s3 HO
      generalize bs (listSrc ls) = la at *
      generalize bs (gluedSrc caret ls) = lg at *
      obtain ⟨fl, hfl⟩ : ∃ fl, ls.flatten = fl := ⟨_, rfl⟩
      have HFF := Lib.hid hfl
      rw [hfl] at q3 fsz ⊢
      clear hfl
      go_wp2_with fail
      rw [E1.out]
      refine (parse_ok9 _ _ PL.out (by simp; omega) wr sent hSr hmr).mono ?_
      rintro e w4 ⟨g4, c4, b4, rfl, hN4, hb4⟩
      generalize hq4 : (newP 22 0 [120] [newP 3 0 [] (ls.map litP)]).length = n4 at *
      have HQ4 := Lib.hid hq4
      have HN4 := Lib.hid hN4
      have HO4 := Lib.hid (hO2.out.below hgm hb4)
      have hS4 := hSr.below hb4
      have hm4 := hmr.elim fun m hm => (⟨m, bSome hb4 hm⟩ : ∃ m, w4.cell? ⟨9, 0, none⟩ = some (.int .i64 m))
      have hB4 := bNext hBr hb4
      have hg4 := Nat.le_trans hgr hb4.size
      clear hN4 hSr hmr hBr hb4 hO2 PL E1 hq4
      go_wp2_with fail
      rw [E2.out]
      refine (parse_ok9 _ _ PG.out (by simp; omega) w4 sent hS4 hm4).mono ?_
      rintro e w5 ⟨g5, c5, b5, rfl, hN5, hb5⟩
      generalize hq5 : (newP 22 0 [120] [gluedP caret ls]).length = n5 at *
      have HQ5 := Lib.hid hq5
      have HN5 := Lib.hid hN5
      have HO5 := Lib.hid (HO4.out.below hgm hb5)
      have HN45 := Lib.hid (HN4.out.below hb5)
      have hB5 := bNext hB4 hb5
      have hg5 := Nat.le_trans hg4 hb5.size
      have z5 : 9 < w5.heap.size := Nat.lt_of_lt_of_le hgm hg5
      clear hN5 hS4 hm4 hB4 hb5 HO4 HN4 PG E2 hq5 q1 q2
      go_wp2_with fail
      refine (cNewS_any 3 0 [] (ls.map litP) 9 _ w5 z5 (HO5.out.ksl hgm) (by rw [HFL.out, HLN.out]; omega) (by rw [List.length_map, HLN.out]; omega)).mono ?_
      rintro e w6 ⟨v6, rfl, hv6, hb6⟩
      have HV6 := Lib.hid hv6
      obtain ⟨g6, c6, rfl, -⟩ := id hv6
      have hl6 : (newP 3 0 [] (ls.map litP)).length = n + 1 := by rw [len_newP, HFL.out, HLN.out]
      rw [hl6] at HV6 ⊢
      have HL6 := Lib.hid hl6
      have z6 : 9 < w6.heap.size := Nat.lt_of_lt_of_le z5 hb6.size
      clear hv6 hl6
      go_wp2_with fail
      refine (oneP_any 22 0 [120] (newP 3 0 [] (ls.map litP)) 9 _ w6 z6 HV6.out (by rw [HL6.out]; omega)).mono ?_
      rintro e w7 ⟨v7, rfl, hv7, hb7⟩
      have HV7 := Lib.hid hv7
      obtain ⟨g7, c7, rfl, -⟩ := id hv7
      rw [HQ4.out] at HV7 ⊢
      have hB57 := bNext hb6 hb7
      have HN47 := Lib.hid (HN45.out.below hB57)
      clear hv7 hb6 hb7 HV6 HN45
      have hn4 : n4 ≤ 100 := by rw [← HQ4.out, len_newP]; simp only [List.flatten_cons, List.flatten_nil, List.append_nil]; rw [HL6.out]; omega
      go_wp2_with fail
      refine (cSame_eq (newP 22 0 [120] [newP 3 0 [] (ls.map litP)]) b4 9 _ _ w7 HN47.out HV7.out (by rw [HQ4.out]; omega)).mono ?_
      rintro e w8 ⟨rfl, hb8⟩
      have hB58 := bNext hB57 hb8
      have HN58 := Lib.hid (HN5.out.below hB58)
      have HO8 := Lib.hid (HO5.out.below hgm hB58)
      have hB8 := bNext hB5 hB58
      have hg8 := Nat.le_trans hg5 hB58.size
      have z8 : 9 < w8.heap.size := Nat.lt_of_lt_of_le hgm hg8
      clear hb8 hB57 hB58 HN47 HV7 HN5 HO5 hB5 HL6 HQ4 hn4 hg4 hg5 z5 z6
      cases caret with
      | true =>
        have HGP : Hid (gluedP true ls = litP fl) := Lib.hid (by unfold gluedP; rw [if_pos rfl, HFF.out])
        go_wp2_with fail
        refine (cLit_any fl 9 w8 z8).mono ?_
        rintro e w9 ⟨v9, rfl, hv9, hb9⟩
        have HV9 := Lib.hid hv9
        obtain ⟨g9, c9, rfl, -⟩ := id hv9
        have z9 : 9 < w9.heap.size := Nat.lt_of_lt_of_le z8 hb9.size
        clear hv9
        go_wp2_with fail
        refine (oneP_any 22 0 [120] (litP fl) 9 _ w9 z9 HV9.out (by simp [litP, newP])).mono ?_
        rintro e wa ⟨va', rfl, hva, hba⟩
        rw [← HGP.out] at hva
        have HVA := Lib.hid hva
        obtain ⟨ga, ca, rfl, -⟩ := id hva
        rw [HQ5.out] at HVA ⊢
        have hB8a := bNext hb9 hba
        have HNa := Lib.hid (HN58.out.below hB8a)
        have hBa := bNext hB8 hB8a
        have hn5 : n5 ≤ 100 := by rw [← HQ5.out, HGP.out]; simp [newP, litP]
        clear hva hb9 hba hB8a HN58 HV9
        go_wp2_with fail
        refine (cSame_eq (newP 22 0 [120] [gluedP true ls]) b5 9 _ _ wa HNa.out HVA.out (by rw [HQ5.out]; omega)).mono ?_
        rintro e wb ⟨rfl, hbb⟩
        go_wp2_with fail
        go_ret
        exact ⟨rfl, bNext hBa hbb⟩
      | false =>
        obtain ⟨ao8, cap8, hv8, q81, q82, q83⟩ := HO8.out.ksl hgm
        obtain ⟨gw, hgw, hgw1, hgw2, hgw3⟩ := q83 (by rw [List.length_map, HLN.out]; omega)
        rw [List.length_map, HLN.out] at hv8 q81
        injection hv8 with hv81 hv82 hv83
        subst hv81 hv83 hgw
        have HEL : Hid (∀ k, k < n → ∃ u s, ls[k]? = some s ∧ w8.cell? ⟨gw, k, none⟩ = some u ∧ NSl w8 9 u (litP s)) := Lib.hid fun k hk => by
          have hkl : k < ls.length := by rw [HLN.out]; exact hk
          obtain ⟨u, hu, hul⟩ := hgw3 k (litP ls[k]) (by rw [List.getElem?_map, List.getElem?_eq_getElem hkl]; rfl)
          refine ⟨u, ls[k], List.getElem?_eq_getElem hkl, hu, ?_⟩
          rcases hul with hul | ⟨_, hul⟩
          · exact hul
          · simp [litP, newP] at hul
        have HIS : Hid (∀ k s, k < n → ls[k]? = some s → itemsP false (ls.take (k + 1)) = itemsP false (ls.take k) ++ ((if k = 0 then [] else [newP 2 0 [120] []]) ++ [litP s])) := Lib.hid fun k s hk hs => by
          obtain ⟨hkl, e⟩ := List.getElem?_eq_some_iff.1 hs
          rw [List.take_succ_eq_append_getElem hkl, e, items_snoc, List.length_take]
          rw [show min k ls.length = k by omega]
        have HIL : Hid (∀ k, k ≤ n → (itemsP false (ls.take k)).length = 2 * k - 1) := Lib.hid fun k hk => by
          have := (items_len (ls.take k)).1
          rw [List.length_take, HLN.out] at this
          rw [this]
          omega
        clear hgw3 q82 HO8 hv82 hgw2
        go_wp2_with fail
        go_loopg [17, 18] n (fun m v i wr => ∃ k : Nat, m = n - k ∧ k ≤ n ∧ KOwn wr w8.heap.size 9 v (itemsP false (ls.take k)) ∧ i = .int .i64 k ∧ Below w8.heap.size w8 wr)
        case atStart => exact ⟨0, rfl, Nat.zero_le _, KOwn.nil _ _ _, rfl, Below.refl _ _⟩
        case round =>
          obtain ⟨k, rfl, hk, hO, rfl, hbr⟩ := hrel
          have HO := Lib.hid hO
          obtain ⟨va, vc, rfl⟩ := hO.form
          have hil := HIL.out k hk
          rw [hil] at HO ⊢
          have HILK := Lib.hid hil
          clear hO hil
          by_cases hlt : k < n
          · obtain ⟨u, s, hs, hu, hul⟩ := HEL.out k hlt
            have hu := bSome hbr hu
            have HUL := Lib.hid hul
            have HST := Lib.hid (HIS.out k s hlt hs)
            clear hs
            obtain ⟨gu, cu, rfl, -⟩ := id hul
            generalize hlu : (litP s).length = lu at *
            clear hul
            by_cases hkz : k = 0
            · have hd1 : decide ((0 : Int) < (k : Int)) = false := by rw [decide_eq_false_iff_not]; omega
              have hd2 : decide (0 < k) = false := by rw [decide_eq_false_iff_not]; omega
              have HST2 := Lib.hid (show itemsP false (ls.take k) ++ [litP s] = itemsP false (ls.take (k + 1)) from by rw [HST.out, if_pos hkz]; rfl)
              obtain ⟨us, u1, u2, u3⟩ := HO.out
              have hOA : ∀ o, (wr.alloc o).ownsRow w8.heap.size 23 1 _ (2 * k - 1) us := fun o => by
                have := ownsRow_kept u2 (Kept.ofBelow (S := Nowhere) ((Below.refl _ wr).alloc (Nat.le_refl _) o)) (fun _ _ _ e => e)
                rw [HILK.out] at this
                exact this
              have hsz8 := hbr.size
              have HUr := Lib.hid (HUL.out.below hbr)
              clear hkz HST
              go_wp2_with (at_builtin; refine wpList_append_own _ rfl _ _ 39 rfl w8.heap.size 23 k0 _ 1 24 Tryz.underlying39 hk0 hk1 hk2 hk3 rfl (by decide) _ _ _ rfl (hOA _) ⟨wr.heap.size, 0, none⟩ 1 1 [.slice (some ⟨gu, 0, none⟩) lu cu] rfl rfl ?c1 ?c2 ?c3 ?c4 ?c5 ?_)
              case c1 => exact cells_new (by simp)
              case c2 =>
                intro x hx
                simp at hx
                subst hx
                rfl
              case c3 => unfold maxLen; omega
              case c4 => omega
              case c5 => simp; omega
              intro v6 w6 hown' hgrow _
              obtain ⟨hO6, hb6⟩ := KOwn.grown hsz8 u1 u2 u3 HUr.out (by rw [HILK.out]; exact hown') hgrow
              rw [HST2.out] at hO6
              have hB6 := hbr.trans hb6
              go_wp2_with fail
              go_roundg (n - (k + 1))
              case measure => omega
              case rel => exact ⟨k + 1, rfl, by omega, hO6, by go_num, hB6⟩
            · have hd1 : decide ((0 : Int) < (k : Int)) = true := by rw [decide_eq_true_eq]; omega
              have hd2 : decide (0 < k) = true := by rw [decide_eq_true_eq]; omega
              have HST2 := Lib.hid (show itemsP false (ls.take k) ++ [newP 2 0 [120] []] ++ [litP s] = itemsP false (ls.take (k + 1)) from by rw [HST.out, if_neg hkz, List.append_assoc])
              have zr : 9 < wr.heap.size := Nat.lt_of_lt_of_le z8 hbr.size
              have hk1' : 1 ≤ k := by omega
              clear hkz HST
              go_wp2_with fail
              refine (cNewS_any 2 0 [120] [] 9 _ wr zr (KSl.nil _ _) (by simp) (by simp)).mono ?_
              rintro e w4 ⟨vx, rfl, hvx, hb4⟩
              have HVX := Lib.hid hvx
              obtain ⟨gx, cx, rfl, -⟩ := id hvx
              have hl1 : (newP 2 0 [120] []).length = 1 := rfl
              rw [hl1] at HVX ⊢
              have hbr4 := bNext hbr hb4
              obtain ⟨us, u1, u2, u3⟩ := HO.out.below z8 hb4
              have hOA : ∀ o, (w4.alloc o).ownsRow w8.heap.size 23 1 _ (2 * k - 1) us := fun o => by
                have := ownsRow_kept u2 (Kept.ofBelow (S := Nowhere) ((Below.refl _ w4).alloc (Nat.le_refl _) o)) (fun _ _ _ e => e)
                rw [HILK.out] at this
                exact this
              have hsz8 := hbr4.size
              have hu := bSome hb4 hu
              clear hvx hb4 hbr hl1
              go_wp2_with (at_builtin; refine wpList_append_own _ rfl _ _ 39 rfl w8.heap.size 23 k0 _ 1 24 Tryz.underlying39 hk0 hk1 hk2 hk3 rfl (by decide) _ _ _ rfl (hOA _) ⟨w4.heap.size, 0, none⟩ 1 1 [.slice (some ⟨gx, 0, none⟩) 1 cx] rfl rfl ?d1 ?d2 ?d3 ?d4 ?d5 ?_)
              case d1 => exact cells_new (by simp)
              case d2 =>
                intro x hx
                simp at hx
                subst hx
                rfl
              case d3 => unfold maxLen; omega
              case d4 => omega
              case d5 => simp; omega
              intro v6 w6 hown' hgrow _
              obtain ⟨hO6, hb6⟩ := KOwn.grown hsz8 u1 u2 u3 HVX.out (by rw [HILK.out]; exact hown') hgrow
              have hB6 := hbr4.trans hb6
              have HU6 := Lib.hid (HUL.out.below hB6)
              have hu6 : w6.cell? ⟨gw, k, none⟩ = some (.slice (some ⟨gu, 0, none⟩) lu cu) := by
                obtain ⟨u', s', hs', hu', _⟩ := HEL.out k hlt
                have h1 := bSome hbr4 hu'
                rw [hu] at h1
                cases h1
                exact bSome hB6 hu'
              have HO6 := Lib.hid hO6
              obtain ⟨va6, vc6, rfl⟩ := hO6.form
              have hil6 : (itemsP false (ls.take k) ++ [newP 2 0 [120] []]).length = 2 * k := by rw [List.length_append, HILK.out, List.length_cons, List.length_nil]; omega
              rw [hil6] at HO6 ⊢
              have HIL6 := Lib.hid hil6
              obtain ⟨us6, y1, y2, y3⟩ := HO6.out
              have hOA6 : ∀ o, (w6.alloc o).ownsRow w8.heap.size 23 1 _ (2 * k) us6 := fun o => by
                have := ownsRow_kept y2 (Kept.ofBelow (S := Nowhere) ((Below.refl _ w6).alloc (Nat.le_refl _) o)) (fun _ _ _ e => e)
                rw [HIL6.out] at this
                exact this
              have hsz6 := hB6.size
              clear hO6 hb6 hbr4 hu hil6 hown' hgrow
              go_wp2_with (at_builtin; refine wpList_append_own _ rfl _ _ 39 rfl w8.heap.size 23 k0 _ 1 24 Tryz.underlying39 hk0 hk1 hk2 hk3 rfl (by decide) _ _ _ rfl (hOA6 _) ⟨w6.heap.size, 0, none⟩ 1 1 [.slice (some ⟨gu, 0, none⟩) lu cu] rfl rfl ?e1 ?e2 ?e3 ?e4 ?e5 ?_)
              case e1 => exact cells_new (by simp)
              case e2 =>
                intro x hx
                simp at hx
                subst hx
                rfl
              case e3 => unfold maxLen; omega
              case e4 => omega
              case e5 => simp; omega
              intro v7 w7 hown7 hgrow7 _
              obtain ⟨hO7, hb7⟩ := KOwn.grown hsz6 y1 y2 y3 HU6.out (by rw [HIL6.out]; exact hown7) hgrow7
              rw [HST2.out] at hO7
              have hB7 := hB6.trans hb7
              go_wp2_with fail
              go_roundg (n - (k + 1))
              case measure => omega
              case rel => exact ⟨k + 1, rfl, by omega, hO7, by go_num, hB7⟩
          · obtain rfl : n = k := by omega
            have hT : ls.take n = ls := by rw [List.take_of_length_le (by rw [HLN.out]; omega)]
            rw [hT] at HO HILK
            have HN9 := Lib.hid (HN58.out.below hbr)
            have hBr := bNext hB8 hbr
            have zr : 9 < wr.heap.size := Nat.lt_of_lt_of_le z8 hbr.size
            obtain ⟨i1, i2, i3⟩ := items_len ls
            rw [HLN.out] at i1 i2
            obtain ⟨aoj, capj, hvj, qj1, qj2, qj3⟩ := HO.out.ksl z8
            obtain ⟨gj, hgj, hgj1, hgj2, hgj3⟩ := qj3 (by rw [i1]; omega)
            injection hvj with hvj1 hvj2 hvj3
            subst hvj1 hvj3 hgj
            rw [i1] at qj1
            obtain ⟨x0, hx0⟩ : ∃ x0, (itemsP false ls)[0]? = some x0 := ⟨_, List.getElem?_eq_getElem (by rw [i1]; omega)⟩
            obtain ⟨u0, hu0, hul0⟩ := hgj3 0 x0 hx0
            have HUL0 : Hid (NSl wr 9 u0 x0) := Lib.hid (by
              rcases hul0 with h | ⟨_, h⟩
              · exact h
              · have := i3 x0 (List.mem_of_getElem? hx0)
                rw [h] at this
                simp at this)
            obtain ⟨gu, cu, rfl, -⟩ := id HUL0.out
            have HX0 := Lib.hid hx0
            have I1 := Lib.hid i1
            have I2 := Lib.hid i2
            clear hul0 hgj3 hx0 i1 i2 i3 hT hgj2 hvj2 qj2 HN58 hB8 hbr
            generalize hlx : x0.length = lx at *
            have HLX := Lib.hid hlx
            clear hlx
            by_cases hn1 : n = 1
            · subst hn1
              have HGP : Hid (gluedP false ls = x0) := Lib.hid (by
                have h1 := HX0.out
                have h2 := I1.out
                unfold gluedP
                rw [if_neg (by simp)]
                match hi : itemsP false ls, h1, h2 with
                | [y], h1, _ => simpa using h1)
              have hx1 : lx ≤ 10 := by
                have h1 := HX0.out
                have h2 := I1.out
                have h3 := I2.out
                rw [← HLX.out]
                match hi : itemsP false ls, h1, h2, h3 with
                | [y], h1, _, h3 =>
                  simp at h1 h3
                  subst h1
                  omega
              go_wp2_with fail
              refine (oneP_any 22 0 [120] x0 9 _ wr zr HUL0.out (by rw [HLX.out]; omega)).mono ?_
              rintro e wa ⟨va', rfl, hva, hba⟩
              rw [← HGP.out] at hva
              have HVA := Lib.hid hva
              obtain ⟨ga, ca, rfl, -⟩ := id hva
              rw [HQ5.out] at HVA ⊢
              have HNa := Lib.hid (HN9.out.below hba)
              have hBa := bNext hBr hba
              have hn5 : n5 ≤ 100 := by rw [← HQ5.out, HGP.out, len_newP]; simp only [List.flatten_cons, List.flatten_nil, List.append_nil]; rw [HLX.out]; omega
              clear hva hba HN9 hBr
              go_wp2_with fail
              refine (cSame_eq (newP 22 0 [120] [gluedP false ls]) b5 9 _ _ wa HNa.out HVA.out (by rw [HQ5.out]; omega)).mono ?_
              rintro e wb ⟨rfl, hbb⟩
              go_wp2_with fail
              go_ret
              exact ⟨rfl, bNext hBa hbb⟩
            · have hn2 : 2 ≤ n := by omega
              have HGP : Hid (gluedP false ls = newP 4 0 [] (itemsP false ls)) := Lib.hid (by
                have h2 := I1.out
                unfold gluedP
                rw [if_neg (by simp)]
                match hi : itemsP false ls, h2 with
                | [], h2 => simp at h2; omega
                | [y], h2 => simp at h2; omega
                | y :: z :: r, _ => rfl)
              have hd1 : decide ((1 : Int) < ((2 * n - 1 : Nat) : Int)) = true := by rw [decide_eq_true_eq]; omega
              have hd2 : decide (1 < 2 * n - 1) = true := by rw [decide_eq_true_eq]; omega
              go_wp2_with fail
              refine (cNewS_any 4 0 [] (itemsP false ls) 9 _ wr zr (HO.out.ksl z8) (by rw [I2.out]; omega) (by rw [I1.out]; omega)).mono ?_
              rintro e w4 ⟨v4, rfl, hv4, hb4⟩
              have HV4 := Lib.hid hv4
              obtain ⟨g4, c4, rfl, -⟩ := id hv4
              have hl4 : (newP 4 0 [] (itemsP false ls)).length = 2 * n - 1 + 1 := by rw [len_newP, I2.out]
              rw [hl4] at HV4 ⊢
              have HL4 := Lib.hid hl4
              have z4 : 9 < w4.heap.size := Nat.lt_of_lt_of_le zr hb4.size
              have HN94 := Lib.hid (HN9.out.below hb4)
              have hB4 := bNext hBr hb4
              clear hv4 hl4 HN9 hBr hb4
              go_wp2_with fail
              refine (oneP_any 22 0 [120] (newP 4 0 [] (itemsP false ls)) 9 _ w4 z4 HV4.out (by rw [HL4.out]; omega)).mono ?_
              rintro e wa ⟨va', rfl, hva, hba⟩
              rw [← HGP.out] at hva
              have HVA := Lib.hid hva
              obtain ⟨ga, ca, rfl, -⟩ := id hva
              rw [HQ5.out] at HVA ⊢
              have HNa := Lib.hid (HN94.out.below hba)
              have hBa := bNext hB4 hba
              have hn5 : n5 ≤ 100 := by rw [← HQ5.out, HGP.out, len_newP]; simp only [List.flatten_cons, List.flatten_nil, List.append_nil]; rw [HL4.out]; omega
              clear hva hba HN94 hB4
              go_wp2_with fail
              refine (cSame_eq (newP 22 0 [120] [gluedP false ls]) b5 9 _ _ wa HNa.out HVA.out (by rw [HQ5.out]; omega)).mono ?_
              rintro e wb ⟨rfl, hbb⟩
              go_wp2_with fail
              go_ret
              exact ⟨rfl, bNext hBa hbb⟩

set_option maxRecDepth 100000 in
theorem listsLaw_all (ao : Option Addr) (n cap : Nat) (caret : Bool) (w : World) (sent : Nat → Addr) (hS : Sents w sent) (hmx : ∃ m, w.cell? ⟨9, 0, none⟩ = some (.int .i64 m)) (hln : n ≤ cap) (hcap : cap ≤ maxLen) (hB : StrsAt w ao n) :
    Calls Tryz.prog 5 #[.slice ao n cap, .bool caret] w fun e w' => e = .returned (.bool true) ∧ Below w.heap.size w w' := by
  by_cases h12 : n ≤ 12
  · by_cases h0 : 0 < n
    · obtain ⟨Z, hZ⟩ := hB.of
      exact listsLaw_in ao n cap Z caret w sent hS hmx hln hcap hZ h12 h0
    · obtain rfl : n = 0 := by omega
      clear hB
      go_enter Tryz.func5, Tryz.ntmps5
      go_wp2_with fail
      refine (first13_any _ sent hS hmx).mono ?_
      rintro e w1 ⟨rfl, hb1⟩
      go_wp2_with fail
      go_ret
      exact ⟨rfl, hb1⟩
  · have h13 : 12 < n := by omega
    clear hB h12
    go_enter Tryz.func5, Tryz.ntmps5
    go_wp2_with fail
    refine (first13_any _ sent hS hmx).mono ?_
    rintro e w1 ⟨rfl, hb1⟩
    go_wp2_with fail
    go_ret
    exact ⟨rfl, hb1⟩

end Go.Proofs.YtepebnblbheegaaGreatDoor
