/- TextPlaces. -/
import Derived.Test.YtdadgodjjfgmfaaDoorFirst1
namespace Go.Proofs.YtdadgodjjfgmfaaDoor
open Go Go.RowKit

set_option maxRecDepth 100000 in
theorem textPlaces_long (s : ByteArray) (w : World) (h : 2000 < s.size) :
    Calls Tryd.prog 6 #[.string s] w fun e w' => e = .returned (.bool true) ∧ Below w.heap.size w w' := by
  go_enter Tryd.func6, Tryd.ntmps6
  go_wp2_with (go_at_call 20; refine (first1_any _).mono ?_; rintro e w1 ⟨rfl, hb1⟩)
  go_ret
  exact ⟨rfl, hb1⟩

set_option maxRecDepth 100000 in
theorem textPlaces_in (s : ByteArray) (w : World) (hs : s.size ≤ 2000) :
    Calls Tryd.prog 6 #[.string s] w fun e w' => e = .returned (.bool true) ∧ Below w.heap.size w w' := by
  go_enter Tryd.func6, Tryd.ntmps6
  go_wp2_with (go_at_call 20; refine (first1_any _).mono ?_; rintro e w1 ⟨rfl, hb1⟩)
  refine (tNew_ok _ _ (by omega)).mono ?_
  rintro e w2 ⟨rfl, hS2, hb2⟩
  have hc2 := hS2.cell 0 rfl
  have hb := bNext hb1 hb2
  clear hb1 hb2 hS2
  generalize w1.heap.size = q at *
  go_wp2_with fail
  go_loopg [6, 7, 8] (s.size + 1) (fun m c d e wr => ∃ k li co : Nat, m = s.size + 1 - k ∧ k ≤ s.size + 1 ∧ c = .int .i64 li ∧ d = .int .i64 co ∧ e = .int .i64 k ∧ Hid ((k = 0 → li = 1 ∧ co = 0) ∧ ∀ j, k = j + 1 → li = lineN (s.data.toList.take j) ∧ co = colN (s.data.toList.take j)) ∧ wr.cell? ⟨q, 0, none⟩ = some (.string s) ∧ Below w.heap.size w wr)
  case atStart => exact ⟨0, 1, 0, rfl, by omega, rfl, rfl, rfl, Lib.hid ⟨fun _ => ⟨rfl, rfl⟩, fun j h => by omega⟩, hc2, hb⟩
  case round =>
    clear hc2 hb
    obtain ⟨k, li, co, rfl, hk, rfl, rfl, rfl, hl, hc, hb⟩ := hrel
    by_cases hlt : k ≤ s.size
    · cases k with
      | zero =>
        obtain ⟨rfl, rfl⟩ := hl.out.1 rfl
        have hp := sPlace_in ⟨q, 0, none⟩ s 0
        rw [show lineN (s.data.toList.take 0) = 1 from rfl, show colN (s.data.toList.take 0) = 1 from rfl] at hp
        go_wp2_with fail
        refine (hp wr (by omega) (by omega) hc).mono ?_
        rintro e w3 ⟨rfl, hb3⟩
        have hc3 := bSome hb3 hc
        go_wp2_with fail
        go_roundg (s.size + 1 - 1)
        case measure => omega
        case rel => exact ⟨1, 1, 1, rfl, by omega, rfl, rfl, rfl, Lib.hid ⟨fun h => by omega, fun j h => (show j = 0 by omega) ▸ ⟨rfl, rfl⟩⟩, hc3, bNext hb hb3⟩
      | succ j =>
        obtain ⟨h1, h2⟩ := hl.out.2 j rfl
        have hd : s.data.toList.take (j + 1) = s.data.toList.take j ++ [s[j]] := by
          have h1 : j < s.data.toList.length := by rw [size_eq]; omega
          rw [List.take_succ_eq_append_getElem h1]
          simp
          rfl
        have hli := lineN_le (s.data.toList.take j)
        have hco := colN_le (s.data.toList.take j)
        rw [List.length_take, size_eq] at hli hco
        have hp := sPlace_in ⟨q, 0, none⟩ s (j + 1)
        by_cases h10 : s[j] = 10
        · have h10' : ((s[j].toNat : Int) == 10) = true := by rw [h10]; rfl
          have HN := Lib.hid (show lineN (s.data.toList.take (j + 1)) = li + 1 ∧ colN (s.data.toList.take (j + 1)) = 1 by rw [hd, h10, lineN_nl, colN_nl, h1]; exact ⟨rfl, rfl⟩)
          rw [HN.out.1, HN.out.2] at hp
          clear hd h10 hl
          go_wp2_with fail
          refine (hp wr (by omega) (by omega) hc).mono ?_
          rintro e w3 ⟨rfl, hb3⟩
          have hc3 := bSome hb3 hc
          go_wp2_with fail
          go_roundg (s.size + 1 - (j + 2))
          case measure => omega
          case rel => exact ⟨j + 2, li + 1, 1, rfl, by omega, by go_num, rfl, by go_num, Lib.hid ⟨fun h => by omega, fun j' h => (show j' = j + 1 by omega) ▸ ⟨HN.out.1.symm, HN.out.2.symm⟩⟩, hc3, bNext hb hb3⟩
        · have h10' : ((s[j].toNat : Int) == 10) = false := by
            rw [beq_eq_false_iff_ne]
            intro h
            exact h10 (UInt8.toNat_inj.1 (by simpa using Int.ofNat.inj h))
          have HN := Lib.hid (show lineN (s.data.toList.take (j + 1)) = li ∧ colN (s.data.toList.take (j + 1)) = co + 1 by rw [hd, lineN_other _ _ h10, colN_other _ _ h10, h1, h2]; exact ⟨rfl, rfl⟩)
          rw [HN.out.1, HN.out.2] at hp
          clear hd h10 hl
          go_wp2_with fail
          refine (hp wr (by omega) (by omega) hc).mono ?_
          rintro e w3 ⟨rfl, hb3⟩
          have hc3 := bSome hb3 hc
          go_wp2_with fail
          go_roundg (s.size + 1 - (j + 2))
          case measure => omega
          case rel => exact ⟨j + 2, li, co + 1, rfl, by omega, by go_num, by go_num, by go_num, Lib.hid ⟨fun h => by omega, fun j' h => (show j' = j + 1 by omega) ▸ ⟨HN.out.1.symm, HN.out.2.symm⟩⟩, hc3, bNext hb hb3⟩
    · obtain ⟨rfl, -⟩ := hl.out.2 s.size (by omega)
      rw [List.take_of_length_le (by rw [size_eq]; exact Nat.le_refl _)]
      have hli := lineN_le s.data.toList
      rw [size_eq] at hli
      have HL := sLines_any ⟨q, 0, none⟩ s
      generalize lineN s.data.toList = li at *
      clear hl
      go_wp2_with fail
      refine (sPlace_high _ s _ _ (by omega) (by omega) hc).mono ?_
      rintro e w3 ⟨rfl, hb3⟩
      have hc3 := bSome hb3 hc
      go_wp2_with fail
      refine (sPlace_low _ s _ _ (by omega) (by decide) hc3).mono ?_
      rintro e w4 ⟨rfl, hb4⟩
      have hc4 := bSome hb4 hc3
      go_wp2_with fail
      refine (HL _ (by omega) hc4).mono ?_
      rintro e w5 ⟨rfl, hb5⟩
      go_wp2_with fail
      go_ret
      exact ⟨rfl, bNext (bNext (bNext hb hb3) hb4) hb5⟩

/-- patoislaw1.TextPlaces. -/
theorem textPlaces_any (s : ByteArray) (w : World) :
    Calls Tryd.prog 6 #[.string s] w fun e w' => e = .returned (.bool true) ∧ Below w.heap.size w w' := by
  by_cases h : 2000 < s.size
  · exact textPlaces_long s w h
  · exact textPlaces_in s w (by omega)

end Go.Proofs.YtdadgodjjfgmfaaDoor
