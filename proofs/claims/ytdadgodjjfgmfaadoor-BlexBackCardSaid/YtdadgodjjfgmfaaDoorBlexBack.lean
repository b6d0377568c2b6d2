/- BlexBack. -/
import Derived.Test.YtdadgodjjfgmfaaDoorPrint
namespace Go.Proofs.YtdadgodjjfgmfaaDoor
open Go Go.RowKit

set_option maxHeartbeats 4000000 in
set_option maxRecDepth 100000 in
theorem blexBack_long (s : ByteArray) (w : World) (sent : Nat → Addr) (hS : Sents w sent) (h : 1500 < s.size) :
    Calls Tryd.prog 13 #[.string s] w fun e w' => e = .returned (.bool true) ∧ Below w.heap.size w w' := by
  go_enter Tryd.func13, Tryd.ntmps13
  go_wp2_with fail
  refine (first12_any w sent hS).mono ?_
  rintro e w1 ⟨rfl, hb1⟩
  go_wp2_with fail
  go_ret
  exact ⟨rfl, hb1⟩

set_option maxHeartbeats 4000000 in
set_option maxRecDepth 100000 in
theorem blexBack_bad (s : ByteArray) (w : World) (sent : Nat → Addr) (hS : Sents w sent) (h : s.size ≤ 1500) (c q : Nat) (hT : lexB (s.size + 1) true s.data.toList 0 = .error (c, q)) :
    Calls Tryd.prog 13 #[.string s] w fun e w' => e = .returned (.bool true) ∧ Below w.heap.size w w' := by
  go_enter Tryd.func13, Tryd.ntmps13
  go_wp2_with fail
  refine (first12_any w sent hS).mono ?_
  rintro e w1 ⟨rfl, hb1⟩
  have hS1 := hS.below hb1
  clear hS
  go_wp2_with fail
  refine (xLex_bad s w1 (by omega) sent hS1.env _ _ hT).mono ?_
  rintro e w2 ⟨b, rfl, hE, hb2⟩
  go_wp2_with fail
  go_ret
  exact ⟨rfl, bNext hb1 hb2⟩

set_option maxHeartbeats 4000000 in
set_option maxRecDepth 100000 in
theorem blexBack_ok (s : ByteArray) (w : World) (sent : Nat → Addr) (hS : Sents w sent) (h : s.size ≤ 1500) (mx : Int) (hmx : w.cell? ⟨4, 0, none⟩ = some (.int .i64 mx))
    (ts us : List BTok) (hT : lexB (s.size + 1) true s.data.toList 0 = .ok ts) (hlt0 : 0 < ts.length) (hlt1 : ts.length ≤ 10000) (hp : (printT ts).length ≤ 1500)
    (hU : lexB ((printT ts).length + 1) true (printT ts) 0 = .ok us) (hl : us.length = ts.length) (hsame : Hid (∀ (i : Nat) (t u : BTok), ts[i]? = some t → us[i]? = some u → SameB t u))
    (hfine : Hid (∀ t ∈ ts, t.kind ≤ 23 ∧ (t.kind = 23 → t.num ≤ 9) ∧ t.text.length ≤ 10000)) (hlen : Hid (∀ k, (printT (ts.take k)).length ≤ 10000)) :
    Calls Tryd.prog 13 #[.string s] w fun e w' => e = .returned (.bool true) ∧ Below w.heap.size w w' := by
  go_enter Tryd.func13, Tryd.ntmps13
  go_wp2_with fail
  refine (first12_any w sent hS).mono ?_
  rintro e w1 ⟨rfl, hb1⟩
  have hS1 := hS.below hb1
  have hm1 := bSome hb1 hmx
  clear hS hmx
  go_wp2_with fail
  refine (xLex_ok s w1 (by omega) sent hS1.env _ hT).mono ?_
  rintro e w2 ⟨v, rfl, hT2, hb2⟩
  obtain ⟨g, cap, rfl, hp1, hp2, hg1, hg2, hc⟩ := row_cell hT2 hlt0
  have hR := tok_row hc
  have hS2 := hS1.below hb2
  have hm2 := bSome hb2 hm1
  have hB2 := bNext hb1 hb2
  obtain ⟨N, hN⟩ : ∃ N, ts.length = N := ⟨_, rfl⟩
  clear hS1 hT2 hb1 hb2 hc hm1
  have HPr := Lib.hid (xPrint_any g ts.length cap hp1 hp2 ts rfl w2 mx hR hm2 hg2 hfine hlen)
  rw [hN] at hlt0 hlt1 hp1 hl HPr ⊢
  go_wp2_with fail
  refine HPr.out.mono ?_
  rintro e w3 ⟨rfl, hb3⟩
  have hS3 := hS2.below hb3
  have hR3 := Lib.hid (hR.below hb3)
  have hB3 := bNext hB2 hb3
  clear hS2 hB2 hb3 hR hm2 HPr
  go_wp2_with fail
  refine (xLex_ok (bs (printT ts)) w3 (by rw [bs_size]; omega) sent hS3.env us (by rw [bs_size, bs_list]; exact hU)).mono ?_
  rintro e w4 ⟨v, rfl, hT4, hb4⟩
  obtain ⟨g2, cap2, rfl, hq1, hq2, hg3, hg4, hc⟩ := row_cell hT4 (by omega)
  have hR4 := Lib.hid (tok_row hc)
  have hR5 := Lib.hid (hR3.out.below hb4)
  have hB4 := bNext hB3 hb4
  rw [hl] at hq1 ⊢
  have HN := Lib.hid hN
  have HL := Lib.hid hl
  clear hS3 hT4 hb4 hc hB3 hR3 hN hl hT hU
  go_wp2_with fail
  go_loopg [8] (N) (fun m c wr => ∃ k : Nat, m = N - k ∧ k ≤ N ∧ c = .int .i64 k ∧ Hid (TokRow wr g ts) ∧ Hid (TokRow wr g2 us) ∧ Below w.heap.size w wr)
  case atStart => exact ⟨0, rfl, Nat.zero_le _, rfl, hR5, hR4, hB4⟩
  case round =>
    clear hR5 hR4 hB4
    obtain ⟨k, rfl, hk, rfl, hR1, hR2, hb⟩ := hrel
    by_cases hlt : k < N
    · obtain ⟨a, ha⟩ : ∃ a, ts[k]? = some a := ⟨_, List.getElem?_eq_getElem (by have := HN.out; omega)⟩
      obtain ⟨b, hbb⟩ : ∃ b, us[k]? = some b := ⟨_, List.getElem?_eq_getElem (by have := HL.out; omega)⟩
      obtain ⟨a0, -, a2, a3, a4⟩ := hR1.out.facts k a ha
      obtain ⟨b0, -, b2, b3, b4⟩ := hR2.out.facts k b hbb
      obtain ⟨e1, e2, e3, e4⟩ := hsame.out k a b ha hbb
      rw [← e1] at b0
      rw [← e2] at b2
      rw [← e3] at b3
      clear e1 e2 e3 ha hbb
      by_cases hk0 : a.kind = 0
      · rw [hk0] at a0 b0
        clear e4 hk0
        go_wp2_with fail
        go_quiet (fail)
        go_wp2_with fail
        go_roundg (N - (k + 1))
        case measure => omega
        case rel => exact ⟨k + 1, rfl, by omega, by go_num, Lib.hid hR1.out, Lib.hid hR2.out, bDrewN hb _⟩
      · rw [← e4 hk0] at b4
        have hk1 : ((a.kind : Int) != 0) = true := by rw [bne_iff_ne]; omega
        clear e4 hk0
        go_wp2_with fail
        go_quiet (fail)
        go_wp2_with fail
        go_roundg (N - (k + 1))
        case measure => omega
        case rel => exact ⟨k + 1, rfl, by omega, by go_num, Lib.hid hR1.out, Lib.hid hR2.out, bDrewN hb _⟩
    · go_wp2_with fail
      go_ret
      exact ⟨rfl, hb⟩

theorem printT_le (ts : List BTok) (k : Nat) : (printT (ts.take k)).length ≤ (printT ts).length := by
  have h : printT ts = printT (ts.take k ++ ts.drop k) := by rw [List.take_append_drop]
  rw [h]
  cases hk : ts.take k with
  | nil => exact Nat.zero_le _
  | cons t a =>
    rw [List.cons_append, printT, printT, printR_append]
    simp only [List.length_append]
    omega

/-- patoislaw12.BlexBack. -/
theorem blexBack_any (s : ByteArray) (w : World) (sent : Nat → Addr) (hS : Sents w sent) (mx : Int) (hmx : w.cell? ⟨4, 0, none⟩ = some (.int .i64 mx)) :
    Calls Tryd.prog 13 #[.string s] w fun e w' => e = .returned (.bool true) ∧ Below w.heap.size w w' := by
  by_cases h : 1500 < s.size
  · exact blexBack_long s w sent hS h
  · have hd : s.data.toList.drop 0 = s.data.toList := List.drop_zero
    cases hT : lexB (s.size + 1) true s.data.toList 0 with
    | error e => exact blexBack_bad s w sent hS (by omega) e.1 e.2 hT
    | ok ts =>
      obtain ⟨h1, us, h2, h3⟩ := lexB_print s.data.toList ts (by rw [size_eq]; exact hT)
      rw [size_eq] at h1
      have hn := lexB_count s.data.toList (s.size + 1) true 0 ts (by omega) (by rw [hd]; exact hT)
      rw [size_eq] at hn
      obtain ⟨t, vs, rfl, _⟩ := lexB_chain s.data.toList (s.size + 1) true 0 ts (by omega) (by rw [size_eq]; omega) (by rw [hd]; exact hT)
      refine blexBack_ok s w sent hS (by omega) mx hmx (t :: vs) us hT (by simp) (by omega) (by omega) h2 h3.get.1.symm (Lib.hid h3.get.2) (Lib.hid fun u hu => ?_) (Lib.hid fun k => ?_)
      · have := lexB_fine _ _ _ _ _ hT u hu
        rw [size_eq] at this
        exact ⟨this.1, this.2.1, by omega⟩
      · have := printT_le (t :: vs) k
        omega

end Go.Proofs.YtdadgodjjfgmfaaDoor
