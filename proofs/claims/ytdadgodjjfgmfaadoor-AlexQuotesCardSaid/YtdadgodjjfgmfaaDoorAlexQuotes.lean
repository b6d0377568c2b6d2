/- AlexQuotes. -/
import Derived.Test.YtdadgodjjfgmfaaDoorAlexPlaces
namespace Go.Proofs.YtdadgodjjfgmfaaDoor
open Go Go.RowKit

section
variable (s : ByteArray) (k : Nat) (h : k < s.size)
include h
theorem take_snoc : s.data.toList.take (k + 1) = s.data.toList.take k ++ [bat s k] := by
  have h1 : k < s.data.toList.length := by rw [size_eq]; exact h
  have e : s.data.toList[k] = bat s k := by rw [← getElem_bat s k h]; simp; rfl
  rw [List.take_succ_eq_append_getElem h1, e]
theorem sgl_succ : sglA (s.data.toList.take (k + 1)) = sglA (s.data.toList.take k) ++ (if (bat s k).toNat = 39 then [39, 92, 39, 39] else [bat s k]) := by
  rw [take_snoc s k h, sglA_append, sglA]
  split <;> rfl
theorem dbl_succ : dblA (s.data.toList.take (k + 1)) = dblA (s.data.toList.take k) ++ (if [36, 34, 92].contains (bat s k).toNat then [92, bat s k] else [bat s k]) := by
  rw [take_snoc s k h, dblA_append, dblA]
  split <;> rfl
theorem bck_succ : bckA (s.data.toList.take (k + 1)) = bckA (s.data.toList.take k) ++ [92, bat s k] := by
  rw [take_snoc s k h, bckA_append]
  rfl
theorem extract_bat : s.extract k (k + 1) = bs [bat s k] := by
  rw [extract_bs]
  congr 1
  rw [List.drop_take, drop_bat s k h, show k + 1 - k = 1 from by omega]
  rfl
end
theorem deadText_succ (P : List APart) (m : Nat) (p : APart) (hp : P[m]? = some p) : deadText (P.take (m + 1)) = deadText (P.take m) ++ p.text := by
  obtain ⟨hm, rfl⟩ := List.getElem?_eq_some_iff.1 hp
  rw [List.take_succ_eq_append_getElem hm, deadText_append]
  simp [deadText]
theorem deadText_le (P : List APart) (m : Nat) : (deadText (P.take m)).length ≤ (deadText P).length := by
  have h := congrArg (fun l => (deadText l).length) (List.take_append_drop m P)
  simp only [deadText_append, List.length_append] at h
  omega
theorem alex5 : lexA [32, 120] 3 0 = .ok [⟨13, 1, [⟨1, 1, 0, false, [120]⟩]⟩, ⟨0, 2, []⟩] := by kernel_rfl

set_option maxHeartbeats 4000000 in
set_option maxRecDepth 100000 in
theorem alexQuotes_long (s : ByteArray) (w : World) (sent : Nat → Addr) (hS : Sents w sent) (h : 300 < s.size) :
    Calls Tryd.prog 9 #[.string s] w fun e w' => e = .returned (.bool true) ∧ Below w.heap.size w w' := by
  go_enter Tryd.func9, Tryd.ntmps9
  go_wp2_with fail
  refine (first10_any w sent hS).mono ?_
  rintro e w1 ⟨rfl, hb1⟩
  go_wp2_with fail
  go_ret
  exact ⟨rfl, hb1⟩

/-- What a text that has been quoted is read as. -/
def QuotedAs (s : ByteArray) (i : Nat) (T : ByteArray) : Prop :=
  (¬ (s.size = 0 ∧ i = 2) ∧ ∃ P k b, lexA (T ++ ⟨#[32, 120]⟩).data.toList ((T ++ ⟨#[32, 120]⟩).size + 1) 0 = .ok [⟨13, 0, P⟩, ⟨13, k, [b]⟩, ⟨0, k + 1, []⟩] ∧ AllDead P ∧ deadText P = s.data.toList) ∨ (s.size = 0 ∧ i = 2 ∧ T = ⟨#[]⟩)

theorem quoted_of (s : ByteArray) (i : Nat) (l L : List UInt8) (hn : ¬ (s.size = 0 ∧ i = 2)) (hL : l ++ [32, 120] = L) (h : ∃ P k b, lexA L (L.length + 1) 0 = .ok [⟨13, 0, P⟩, ⟨13, k, [b]⟩, ⟨0, k + 1, []⟩] ∧ AllDead P ∧ deadText P = s.data.toList) : QuotedAs s i (bs l) := by
  obtain ⟨P, k, b, h1, h2, h3⟩ := h
  refine .inl ⟨hn, P, k, b, ?_, h2, h3⟩
  rw [show (⟨#[32, 120]⟩ : ByteArray) = bs [32, 120] from rfl, bsAppA, hL, bs_list, bs_size]
  exact h1

set_option maxHeartbeats 8000000 in
set_option maxRecDepth 100000 in
theorem alexQuotes_in (s : ByteArray) (w : World) (sent : Nat → Addr) (hS : Sents w sent) (h : s.size ≤ 300) :
    Calls Tryd.prog 9 #[.string s] w fun e w' => e = .returned (.bool true) ∧ Below w.heap.size w w' := by
  go_enter Tryd.func9, Tryd.ntmps9
  go_wp2_with fail
  refine (first10_any w sent hS).mono ?_
  rintro e w1 ⟨rfl, hb1⟩
  have hS1 := hS.below hb1
  clear hS
  go_wp2_with fail
  go_loopg [4, 5, 6, 7] (s.size) (fun m x4 x5 x6 y wr => ∃ k : Nat, m = s.size - k ∧ k ≤ s.size ∧ x4 = .string (bs (sglA (s.data.toList.take k))) ∧ x5 = .string (bs (dblA (s.data.toList.take k))) ∧ x6 = .string (bs (bckA (s.data.toList.take k))) ∧ y = .int .i64 k ∧ wr = w1)
  case atStart => exact ⟨0, rfl, Nat.zero_le _, rfl, rfl, rfl, rfl, rfl⟩
  case round =>
    obtain ⟨k, rfl, hk, rfl, rfl, rfl, rfl, rfl⟩ := hrel
    have hz4 : (bs (sglA (s.data.toList.take k))).size ≤ 1200 := by
      rw [bs_size]
      have := sglA_length (s.data.toList.take k)
      rw [List.length_take, size_eq] at this
      omega
    have hz5 : (bs (dblA (s.data.toList.take k))).size ≤ 1200 := by
      rw [bs_size]
      have := dblA_length (s.data.toList.take k)
      rw [List.length_take, size_eq] at this
      omega
    have hz6 : (bs (bckA (s.data.toList.take k))).size ≤ 1200 := by
      rw [bs_size]
      have := bckA_length (s.data.toList.take k)
      rw [List.length_take, size_eq] at this
      omega
    by_cases hlt : k < s.size
    · have hd4 := sgl_succ s k hlt
      have hd5 := dbl_succ s k hlt
      have hd6 := bck_succ s k hlt
      have hex := extract_bat s k hlt
      obtain ⟨B1, hB1⟩ : ∃ B1, bs (bckA (s.data.toList.take k)) ++ ⟨#[92]⟩ = B1 := ⟨_, rfl⟩
      obtain ⟨D1, hD1⟩ : ∃ D1, bs (dblA (s.data.toList.take k)) ++ ⟨#[92]⟩ = D1 := ⟨_, rfl⟩
      have hzB : B1.size ≤ 1201 := by
        rw [← hB1, show (⟨#[92]⟩ : ByteArray) = bs [92] from rfl, bsAppA, bs_size]
        rw [bs_size] at hz6
        simp only [List.length_append, List.length_cons, List.length_nil]
        omega
      have hzD : D1.size ≤ 1201 := by
        rw [← hD1, show (⟨#[92]⟩ : ByteArray) = bs [92] from rfl, bsAppA, bs_size]
        rw [bs_size] at hz5
        simp only [List.length_append, List.length_cons, List.length_nil]
        omega
      have E6 : Hid (B1 ++ bs [bat s k] = bs (bckA (s.data.toList.take (k + 1)))) := Lib.hid (by
        rw [← hB1, show (⟨#[92]⟩ : ByteArray) = bs [92] from rfl, bsAppA, bsAppA, hd6, List.append_assoc]
        rfl)
      have E5a : Hid ([36, 34, 92].contains (bat s k).toNat = true → D1 ++ bs [bat s k] = bs (dblA (s.data.toList.take (k + 1)))) := Lib.hid fun hc => by
        rw [← hD1, show (⟨#[92]⟩ : ByteArray) = bs [92] from rfl, bsAppA, bsAppA, hd5, if_pos hc, List.append_assoc]
        rfl
      have E5b : Hid ([36, 34, 92].contains (bat s k).toNat = false → bs (dblA (s.data.toList.take k)) ++ bs [bat s k] = bs (dblA (s.data.toList.take (k + 1)))) := Lib.hid fun hc => by
        rw [bsAppA, hd5, if_neg (by rw [hc]; decide)]
      have E4a : Hid ((bat s k).toNat = 39 → bs (sglA (s.data.toList.take k)) ++ ⟨#[39, 92, 39, 39]⟩ = bs (sglA (s.data.toList.take (k + 1)))) := Lib.hid fun hc => by
        rw [show (⟨#[39, 92, 39, 39]⟩ : ByteArray) = bs [39, 92, 39, 39] from rfl, bsAppA, hd4, if_pos hc]
      have E4b : Hid (¬ (bat s k).toNat = 39 → bs (sglA (s.data.toList.take k)) ++ bs [bat s k] = bs (sglA (s.data.toList.take (k + 1)))) := Lib.hid fun hc => by
        rw [bsAppA, hd4, if_neg hc]
      clear hd4 hd5 hd6
      have hcs : (bs [bat s k]).size = 1 := rfl
      have hcl : ∀ v : UInt8, (bat s k).toNat = v.toNat → (bs [bat s k]).toList = [v] := fun v e => by
        rw [Lib.toList_data, bs_list, UInt8.toNat_inj.1 e]
      have hcn : ∀ v : UInt8, ¬ (bat s k).toNat = v.toNat → ¬ (bs [bat s k]).toList = [v] := fun v e e2 => by
        rw [Lib.toList_data, bs_list] at e2
        injection e2 with e2
        exact e (by rw [e2])
      generalize bs (bckA (s.data.toList.take k)) = B0 at *
      generalize bs (dblA (s.data.toList.take k)) = D0 at *
      generalize bs (sglA (s.data.toList.take k)) = S0 at *
      generalize bs [bat s k] = cb at *
      have R6 := Lib.hid (congrArg Value.string E6.out)
      by_cases h39 : (bat s k).toNat = 39
      · have e := hcl 39 h39
        have R4 := Lib.hid (congrArg Value.string (E4a.out h39))
        have R5 := Lib.hid (congrArg Value.string (E5b.out (by rw [h39]; decide)))
        clear hcl hcn h39 E4a E4b E5a E5b E6
        go_wp2_with fail
        go_roundg (s.size - (k + 1))
        case measure => omega
        case rel => exact ⟨k + 1, rfl, by omega, R4.out, R5.out, R6.out, by go_num, rfl⟩
      · have R4 := Lib.hid (congrArg Value.string (E4b.out h39))
        by_cases h36 : (bat s k).toNat = 36
        · have e := hcl 36 h36
          have R5 := Lib.hid (congrArg Value.string (E5a.out (by rw [h36]; decide)))
          clear hcl hcn h36 h39 E4a E4b E5a E5b E6
          go_wp2_with fail
          go_roundg (s.size - (k + 1))
          case measure => omega
          case rel => exact ⟨k + 1, rfl, by omega, R4.out, R5.out, R6.out, by go_num, rfl⟩
        · by_cases h34 : (bat s k).toNat = 34
          · have e := hcl 34 h34
            have R5 := Lib.hid (congrArg Value.string (E5a.out (by rw [h34]; decide)))
            clear hcl hcn h36 h39 h34 E4a E4b E5a E5b E6
            go_wp2_with fail
            go_roundg (s.size - (k + 1))
            case measure => omega
            case rel => exact ⟨k + 1, rfl, by omega, R4.out, R5.out, R6.out, by go_num, rfl⟩
          · by_cases h92 : (bat s k).toNat = 92
            · have e := hcl 92 h92
              have R5 := Lib.hid (congrArg Value.string (E5a.out (by rw [h92]; decide)))
              clear hcl hcn h36 h39 h34 h92 E4a E4b E5a E5b E6
              go_wp2_with fail
              go_roundg (s.size - (k + 1))
              case measure => omega
              case rel => exact ⟨k + 1, rfl, by omega, R4.out, R5.out, R6.out, by go_num, rfl⟩
            · have n1 := hcn 39 h39
              have n2 := hcn 36 h36
              have n3 := hcn 34 h34
              have n4 := hcn 92 h92
              have m1 : (cb.toList == [39]) = false := by simpa using n1
              have m2 : (cb.toList == [36]) = false := by simpa using n2
              have m3 : (cb.toList == [34]) = false := by simpa using n3
              have m4 : (cb.toList == [92]) = false := by simpa using n4
              have R5 := Lib.hid (congrArg Value.string (E5b.out (by simp [h36, h34, h92])))
              clear hcl hcn h36 h39 h34 h92 E4a E4b E5a E5b E6
              go_wp2_with fail
              go_roundg (s.size - (k + 1))
              case measure => omega
              case rel => exact ⟨k + 1, rfl, by omega, R4.out, R5.out, R6.out, by go_num, rfl⟩
    · rw [List.take_of_length_le (by rw [size_eq]; omega)] at hz4 hz5 hz6 ⊢
      obtain ⟨Q0, hQ0⟩ : ∃ Q, (⟨#[39]⟩ : ByteArray) ++ bs (sglA s.data.toList) = Q := ⟨_, rfl⟩
      obtain ⟨T0, hT0⟩ : ∃ Q, Q0 ++ ⟨#[39]⟩ = Q := ⟨_, rfl⟩
      obtain ⟨Q1, hQ1⟩ : ∃ Q, (⟨#[34]⟩ : ByteArray) ++ bs (dblA s.data.toList) = Q := ⟨_, rfl⟩
      obtain ⟨T1, hT1⟩ : ∃ Q, Q1 ++ ⟨#[34]⟩ = Q := ⟨_, rfl⟩
      have z0 : Q0.size ≤ 1201 := by
        rw [← hQ0, show (⟨#[39]⟩ : ByteArray) = bs [39] from rfl, bsAppA, bs_size]
        rw [bs_size] at hz4
        simp only [List.length_append, List.length_cons, List.length_nil]
        omega
      have z1 : Q1.size ≤ 1201 := by
        rw [← hQ1, show (⟨#[34]⟩ : ByteArray) = bs [34] from rfl, bsAppA, bs_size]
        rw [bs_size] at hz5
        simp only [List.length_append, List.length_cons, List.length_nil]
        omega
      have q0 : T0 = bs (39 :: (sglA s.data.toList ++ [39])) := by
        rw [← hT0, ← hQ0, show (⟨#[39]⟩ : ByteArray) = bs [39] from rfl, bsAppA, bsAppA]
        simp
      have q1 : T1 = bs (34 :: (dblA s.data.toList ++ [34])) := by
        rw [← hT1, ← hQ1, show (⟨#[34]⟩ : ByteArray) = bs [34] from rfl, bsAppA, bsAppA]
        simp
      have y0 : T0.size ≤ 1300 := by
        rw [q0, bs_size]
        rw [bs_size] at hz4
        simp only [List.length_append, List.length_cons, List.length_nil]
        omega
      have y1 : T1.size ≤ 1300 := by
        rw [q1, bs_size]
        rw [bs_size] at hz5
        simp only [List.length_append, List.length_cons, List.length_nil]
        omega
      have A0 : Hid (QuotedAs s 0 T0) := Lib.hid (by
        rw [q0]
        exact quoted_of s 0 _ _ (by omega) (by simp) (lexA_single s.data.toList))
      have A1 : Hid (QuotedAs s 1 T1) := Lib.hid (by
        rw [q1]
        exact quoted_of s 1 _ _ (by omega) (by simp) (lexA_double s.data.toList))
      have A2 : Hid (QuotedAs s 2 (bs (bckA s.data.toList))) := Lib.hid (by
        have hsz := size_eq s
        cases hl : s.data.toList with
        | nil =>
          rw [hl] at hsz
          exact .inr ⟨hsz.symm, rfl, rfl⟩
        | cons c l =>
          rw [hl] at hsz
          have hn : ¬ (s.size = 0 ∧ 2 = 2) := fun e => by simp only [List.length_cons] at hsz; omega
          refine quoted_of s 2 _ _ hn rfl ?_
          rw [hl]
          exact lexA_back c l)
      clear q0 q1
      generalize bs (bckA s.data.toList) = T2 at *
      generalize bs (dblA s.data.toList) = D at *
      generalize bs (sglA s.data.toList) = S at *
      go_wp2_with fail
      obtain ⟨tb, htb⟩ : ∃ tb, tb = wr.heap.size := ⟨_, rfl⟩
      rw [← htb]
      go_loopg [10] 3 (fun n x w5 => ∃ i : Nat, n = 3 - i ∧ i ≤ 3 ∧ x = .int .i64 i ∧ Sents w5 sent ∧ Below w.heap.size w w5 ∧ Blk w5 tb [.string T0, .string T1, .string T2])
      case atStart => exact ⟨0, rfl, by omega, rfl, hS1.below ((Below.refl _ _).alloc (Nat.le_refl _) _), hb1.alloc hb1.size _, Blk.newAt _ _ htb⟩
      case round =>
        clear hS1 hb1 htb
        obtain ⟨i, rfl, hi, rfl, hS, hB, hT⟩ := hrel
        by_cases hi3 : i < 3
        · obtain ⟨T, hTc, hTs, HT⟩ : ∃ T, wr.cell? ⟨tb, i, none⟩ = some (.string T) ∧ T.size ≤ 1300 ∧ QuotedAs s i T := by
            have hc : i = 0 ∨ i = 1 ∨ i = 2 := by omega
            rcases hc with rfl | rfl | rfl
            · exact ⟨T0, hT.cell 0 rfl, y0, A0.out⟩
            · exact ⟨T1, hT.cell 1 rfl, y1, A1.out⟩
            · exact ⟨T2, hT.cell 2 rfl, by omega, A2.out⟩
          obtain ⟨T', hT'⟩ : ∃ T', T ++ ⟨#[32, 120]⟩ = T' := ⟨_, rfl⟩
          have hTz : T'.size ≤ 1302 := by
            rw [← hT', show T = bs T.data.toList from (bs_of T).symm, show (⟨#[32, 120]⟩ : ByteArray) = bs [32, 120] from rfl, bsAppA, bs_size]
            simp only [List.length_append, List.length_cons, List.length_nil, size_eq]
            omega
          unfold QuotedAs at HT
          rw [hT'] at HT
          clear A0 A1 A2 hQ0 hQ1 hT0 hT1 z0 z1
          rcases HT with ⟨hnot, P, kk, b, hlex, hdead, htext⟩ | ⟨hs0, hi2, hTe⟩
          · have HD := Lib.hid hdead
            have HX := Lib.hid htext
            clear hdead htext
            go_wp2_with fail
            refine (aLex_row T' wr (by omega) sent hS.env _ hlex (Nat.zero_lt_succ _)).mono ?_
            rintro e w2 ⟨g, cap, rfl, hp1, hp2, hg, hR, hb2⟩
            obtain ⟨t0, -, v2, t2, hV⟩ := hR 0 _ rfl
            obtain ⟨ao, cp, rfl, hc1, hc2, hc3⟩ := hV
            have HC := Lib.hid hc3
            replace t0 : w2.cell? ⟨g, 0, none⟩ = some (.int .i64 13) := t0
            replace t2 : w2.cell? ⟨g, 2, none⟩ = some (.slice ao P.length cp) := t2
            have hS2 := hS.below hb2
            have hB2 := bNext hB hb2
            have hT2 := hT.below hb2
            dsimp only at HC hc1
            clear hlex hR hb2 hS hB hT hTc hc3
            obtain ⟨M, hM⟩ : ∃ M, P.length = M := ⟨_, rfl⟩
            rw [hM] at t2 hc1
            have hMb : M ≤ 9223372036854775807 := by unfold maxLen at hc2; omega
            have HM := Lib.hid hM
            clear hM
            go_upto_region 23 with fail
            go_cut [87] (fun s87 w3 => s87 = .bool false ∧ w3 = w2)
            case first =>
              by_cases hs0 : s.size = 0
              · have e0 : s = ⟨#[]⟩ := empty_of_size s hs0
                have e1 : s.toList = [] := by rw [e0, Lib.toList_data]
                have e2 : s.toList.isEmpty = true := by rw [e1]; rfl
                have e3 : ((i : Int) == 2) = false := by rw [beq_eq_false_iff_ne]; omega
                clear e0 hs0 hnot
                go_wp2_with fail
                go_meet
                case rel => exact ⟨by first | rfl | simp, rfl⟩
              · obtain ⟨e1, e2⟩ := ne_empty s (by omega)
                go_wp2_with fail
                go_meet
                case rel => exact ⟨by first | rfl | simp, rfl⟩
            case rest =>
              obtain ⟨rfl, rfl⟩ := hcut
              clear hnot
              go_wp2_with fail
              go_loopg [13, 14] M (fun n x y w5 => ∃ m : Nat, n = M - m ∧ m ≤ M ∧ x = .string (bs (deadText (P.take m))) ∧ y = .int .i64 m ∧ w5 = wc)
              case atStart => exact ⟨0, rfl, Nat.zero_le _, rfl, rfl, rfl⟩
              case round =>
                obtain ⟨m, rfl, hm, rfl, rfl, rfl⟩ := hrel
                by_cases hlm : m < M
                · obtain ⟨gp, rfl, hgp, hX⟩ := HC.out (by rw [HM.out]; omega)
                  obtain ⟨p, hp⟩ : ∃ p, P[m]? = some p := ⟨_, List.getElem?_eq_getElem (by have := HM.out; omega)⟩
                  obtain ⟨x0, -, -, -, x4⟩ := hX.facts m p hp
                  rw [show p.kind = 2 from HD.out p (List.mem_of_getElem? hp)] at x0
                  have hsucc := deadText_succ P m p hp
                  have hl1 := deadText_le P (m + 1)
                  rw [hsucc, HX.out, List.length_append, size_eq] at hl1
                  have hz1 : (bs (deadText (P.take m))).size ≤ 300 := by rw [bs_size]; omega
                  have hz2 : (bs p.text).size ≤ 300 := by rw [bs_size]; omega
                  have E := Lib.hid (congrArg Value.string (show bs (deadText (P.take m)) ++ bs p.text = bs (deadText (P.take (m + 1))) by rw [hsucc, bsAppA]))
                  clear hsucc hl1 hX hp HC
                  generalize bs (deadText (P.take m)) = dt at *
                  generalize bs p.text = pt at *
                  go_wp2_with fail
                  go_roundg (M - (m + 1))
                  case measure => omega
                  case rel => exact ⟨m + 1, rfl, by omega, E.out, by go_num, rfl⟩
                · have E : bs (deadText (P.take m)) = s := by
                    rw [List.take_of_length_le (by have := HM.out; omega), HX.out, bs_of]
                  rw [E]
                  go_wp2_with fail
                  go_roundg (3 - (i + 1))
                  case measure => omega
                  case rel => exact ⟨i + 1, rfl, by omega, by go_num, hS2, hB2, hT2⟩
          · have hT2 : T' = ⟨#[32, 120]⟩ := by
              rw [← hT', hTe, show (⟨#[32, 120]⟩ : ByteArray) = bs [32, 120] from rfl, show (⟨#[]⟩ : ByteArray) = bs [] from rfl, bsAppA]
              rfl
            have e0 : s = ⟨#[]⟩ := empty_of_size s hs0
            have e1 : s.toList = [] := by rw [e0, Lib.toList_data]
            have e2 : s.toList.isEmpty = true := by rw [e1]; rfl
            rw [hT2] at hT'
            subst hi2
            clear e0 hT2 hTz hs0
            go_wp2_with fail
            refine (aLex_row ⟨#[32, 120]⟩ wr (by decide) sent hS.env _ alex5 (by decide)).mono ?_
            rintro e w2 ⟨g, cap, rfl, hp1, hp2, hg, hR, hb2⟩
            have hS2 := hS.below hb2
            have hB2 := bNext hB hb2
            have hT2 := hT.below hb2
            clear hR hb2 hS hB hT hTc
            go_wp2_with fail
            go_roundg (3 - (2 + 1))
            case measure => omega
            case rel => exact ⟨2 + 1, rfl, by omega, by go_num, hS2, hB2, hT2⟩
        · go_wp2_with fail
          go_ret
          exact ⟨rfl, hB⟩

/-- patoislaw10.AlexQuotes. -/
theorem alexQuotes_any (s : ByteArray) (w : World) (sent : Nat → Addr) (hS : Sents w sent) :
    Calls Tryd.prog 9 #[.string s] w fun e w' => e = .returned (.bool true) ∧ Below w.heap.size w w' := by
  by_cases h : 300 < s.size
  · exact alexQuotes_long s w sent hS h
  · exact alexQuotes_in s w sent hS (by omega)

end Go.Proofs.YtdadgodjjfgmfaaDoor
