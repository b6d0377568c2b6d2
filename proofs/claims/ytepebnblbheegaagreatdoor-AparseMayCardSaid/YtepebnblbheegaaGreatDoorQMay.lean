/- AparseMay. -/
import Derived.Test.YtepebnblbheegaaGreatDoorQTopG
import Derived.Test.YtepebnblbheegaaGreatDoorZF
namespace Go.Proofs.YtepebnblbheegaaGreatDoor
set_option maxHeartbeats 4000000
set_option maxRecDepth 100000
open Go Go.RowKit
theorem parseA_ok {L : List UInt8} {l : Prog} (hL : L.length ≤ 8192) (h : parseA L = .ok l) : checkP l = none ∧ NFix l ∧ ∀ x ∈ l, okA x.kind = true := by
 have hm := parseA_may L hL
 rw [h] at hm
 obtain ⟨r, -, h2⟩ := parseA_src L hL
 cases r with
 | error q => obtain ⟨c, p⟩ := q; dsimp only at h2; rw [h] at h2; cases h2
 | ok m =>
  obtain ⟨h3, -, h5, -⟩ := h2
  rw [h] at h3
  unfold checkedA at h3
  split at h3
  ·cases h3
   exact ⟨hm.1, h5, hm.2⟩
  ·cases h3
theorem parseA_codes {L : List UInt8} {c : Nat} {p : Option Nat} (hL : L.length ≤ 8192) (h : parseA L = .error (c, p)) : (101 ≤ c ∧ c ≤ 117) ∧ (p = none → c = 111) := by
 have hm := parseA_may L hL
 rw [h] at hm
 obtain ⟨h1, h2⟩ := hm
 refine ⟨by omega, fun e => ?_⟩
 subst e
 rcases h2 with h2 | ⟨q, h2, _⟩
 ·exact h2.1
 ·cases h2
theorem okA_two (x : PNode) (h : okA x.kind = true) : ((([36, 37] : List Nat).map fun (k : Nat) => (k : Int)).take ([36, 37] : List Nat).length).contains x.kind = false := by
 unfold okA at h
 simp only [List.length_cons, List.length_nil, List.map_cons, List.map_nil] at *
 rw [← Bool.not_eq_true]
 intro h2
 rw [List.contains_iff_mem] at h2
 simp at h2 h
 omega
theorem mayA_any (s : ByteArray) (w : World) (sent : Nat → Addr) (hS : Sents w sent) (hmx : ∃ m, w.cell? ⟨9, 0, none⟩ = some (.int .i64 m)) (het : w.cell? ⟨18, 0, none⟩ = some (.iface 162 (.agg #[.pointer (some ⟨19, 25, none⟩)]))) :
  Calls Tryz.prog 13 #[.string s] w fun e w' => e = .returned (.bool true) ∧ Below w.heap.size w w' := by
 obtain ⟨n, hn⟩ : ∃ n, s.size = n := ⟨_, rfl⟩
 have HNN := Lib.hid hn
 by_cases h9 : 9000 < n
 ·have h9' : 9000 < s.size := by omega
  clear hn
  go_enter Tryz.func13, Tryz.ntmps13
  go_wp2_with fail
  refine (first11_any _ sent hS hmx het).mono ?_
  rintro e w1 ⟨rfl, hb1⟩
  go_wp2_with fail
  go_ret
  exact ⟨rfl, hb1⟩
 ·have h9' : ¬ 9000 < s.size := by omega
  have h9i : decide ((9000 : Int) < (s.size : Int)) = false := by rw [decide_eq_false_iff_not]; omega
  by_cases h8 : 8192 < n
  ·have h8' : 8192 < s.size := by omega
   have HL := Lib.hid (fun (w9 : World) (hE : Env w9 sent ∧ w9.cell? ⟨18, 0, none⟩ = some (.iface 162 (.agg #[.pointer (some ⟨19, 25, none⟩)]))) => qParse_long s w9 h8' sent hE.1 hE.2)
   clear hn
   go_enter Tryz.func13, Tryz.ntmps13
   go_wp2_with fail
   refine (first11_any _ sent hS hmx het).mono ?_
   rintro e w1 ⟨rfl, hb1⟩
   have hS1 := hS.below hb1
   clear hmx
   go_wp2_with fail
   refine (HL.out _ ⟨hS1.env, bSome hb1 het⟩).mono ?_
   rintro e w2 ⟨hb2, rfl⟩
   have hS2 := hS1.below hb2
   have hB2 := bNext hb1 hb2
   clear hS1 hb1 hb2 HL
   go_wp2_with fail
   refine (seeFault_sent _ sent hS2 101 (by omega) (by omega)).mono ?_
   unfold faultV
   rintro e w3 ⟨rfl, hb3⟩
   have hB3 := bNext hB2 hb3
   clear hS2 hB2 hb3
   go_wp2_with fail
   go_ret
   exact ⟨rfl, hB3.alloc hB3.size _⟩
  ·have h8' : s.size ≤ 8192 := by omega
   have HP := Lib.hid (fun (w9 : World) (hS9 : Sents w9 sent) (hm9 : ∃ m, w9.cell? ⟨9, 0, none⟩ = some (.int .i64 m)) (ht9 : w9.cell? ⟨18, 0, none⟩ = some (.iface 162 (.agg #[.pointer (some ⟨19, 25, none⟩)]))) => qParse_short s w9 h8' sent hS9 hm9 ht9)
   have hmay := parseA_may s.data.toList (by rw [size_eq]; omega)
   have HOK := Lib.hid (fun l h => parseA_ok (L := s.data.toList) (l := l) (by rw [size_eq]; omega) h)
   have HCD := Lib.hid (fun c p h => parseA_codes (L := s.data.toList) (c := c) (p := p) (by rw [size_eq]; omega) h)
   rw [size_eq] at hmay
   cases hq : parseA s.data.toList with
   | ok l =>
    rw [hq] at HP
    obtain ⟨hck, hF, hk⟩ := HOK.out l hq
    obtain ⟨l1, l2, _⟩ := checkP_none hck
    have HC := Lib.hid (fun (w9 : World) (v9 : Value) (b9 : Nat) (hN : NSl w9 b9 v9 l) (hE9 : Env w9 sent) => cCheck_any l hF sent b9 w9 v9 hN l1 hE9 (by rw [hck]; intro h; cases h))
    rw [hck] at HC
    have HH := Lib.hid (fun (w9 : World) (v9 : Value) (b9 kb : Nat) (hN : NSl w9 b9 v9 l) (hB : Blk w9 kb (([36, 37] : List Nat).map fun (k : Nat) => Value.int .i64 (k : Int))) => cHas_no l b9 kb 2 [36, 37] v9 w9 hN (by omega) (by decide) hB (fun x hx => okA_two x (hk x hx)))
    clear hmay hq hk hF hck HOK HCD hn
    go_enter Tryz.func13, Tryz.ntmps13
    go_wp2_with fail
    refine (first11_any _ sent hS hmx het).mono ?_
    rintro e w1 ⟨rfl, hb1⟩
    have hS1 := hS.below hb1
    have hm1 := hmx.elim fun m hm => (⟨m, bSome hb1 hm⟩ : ∃ m, w1.cell? ⟨9, 0, none⟩ = some (.int .i64 m))
    clear hmx
    go_wp2_with fail
    refine (HP.out _ hS1 hm1 (bSome hb1 het)).mono ?_
    rintro e w2 ⟨hb2, v, b9, rfl, hN⟩
    have hE2 := (hS1.below hb2).env
    have hB2 := bNext hb1 hb2
    have HN := Lib.hid hN
    obtain ⟨g, cap, rfl, -⟩ := hN
    clear hS1 hm1 hb1 hb2 HP
    go_wp2_with fail
    refine (HC.out _ _ b9 HN.out hE2).mono ?_
    rintro e w3 ⟨hb3, rfl⟩
    have hB3 := bNext hB2 hb3
    have HN3 := Lib.hid (HN.out.below hb3)
    clear hE2 hB2 hb3 HC HN
    go_wp2_with fail
    refine (HH.out _ _ b9 _ (HN3.out.below ((Below.refl _ w3).alloc (Nat.le_refl _) _)) (Blk.new w3 [Value.int .i64 36, Value.int .i64 37] 3)).mono ?_
    rintro e w4 ⟨rfl, hb4⟩
    have hB4 := bNext hB3 (bNext ((Below.refl _ w3).alloc (Nat.le_refl _) _) hb4)
    clear hb4 HH HN3 hB3
    go_wp2_with fail
    go_ret
    exact ⟨rfl, hB4⟩
   | error e0 =>
    obtain ⟨c, p⟩ := e0
    rw [hq] at HP hmay
    replace hmay := hmay.2
    obtain ⟨hc, hpn⟩ := HCD.out c p hq
    clear HOK HCD hq hn
    go_enter Tryz.func13, Tryz.ntmps13
    go_wp2_with fail
    refine (first11_any _ sent hS hmx het).mono ?_
    rintro e w1 ⟨rfl, hb1⟩
    have hS1 := hS.below hb1
    have hm1 := hmx.elim fun m hm => (⟨m, bSome hb1 hm⟩ : ∃ m, w1.cell? ⟨9, 0, none⟩ = some (.int .i64 m))
    clear hmx
    go_wp2_with fail
    refine (HP.out _ hS1 hm1 (bSome hb1 het)).mono ?_
    clear HP
    cases p with
    | none =>
     obtain rfl : c = 111 := hpn rfl
     rintro e w2 ⟨hb2, rfl⟩
     have hS2 := hS1.below hb2
     have hB2 := bNext hb1 hb2
     clear hS1 hm1 hb1 hb2 hmay hpn hc
     go_wp2_with fail
     refine (seeFault_sent _ sent hS2 111 (by omega) (by omega)).mono ?_
     unfold faultV
     rintro e w3 ⟨rfl, hb3⟩
     have hB3 := bNext hB2 hb3
     clear hS2 hB2 hb3
     go_wp2_with fail
     go_ret
     exact ⟨rfl, hB3.alloc hB3.size _⟩
    | some q =>
     have hqs : q ≤ n := by
      have := HNN.out
      rcases hmay with ⟨_, h⟩ | ⟨q', h, h2⟩
      ·cases h
      ·cases h
       omega
     have hqs2 : decide ((q : Int) ≤ (s.size : Int)) = true := by rw [decide_eq_true_eq]; have := HNN.out; omega
     have hqs3 : decide (q ≤ s.size) = true := by rw [decide_eq_true_eq]; have := HNN.out; omega
     rintro e w2 ⟨hb2, eb, rfl, hE2⟩
     have hS2 := hS1.below hb2
     have hB2 := bNext hb1 hb2
     clear hS1 hm1 hb1 hb2 hmay hpn
     go_wp2_with fail
     refine (seeFault_at w2 sent hS2 c hc.1 hc.2 q eb hE2).mono ?_
     unfold faultV
     rintro e w3 ⟨g, rfl, hg, hg2, hb3⟩
     have hB3 := bNext hB2 hb3
     have hgz : g < w3.heap.size := block_lt_of_cell hg
     clear hb3 hE2 hS2 hB2
     by_cases c1 : c = 101
     ·subst c1
      go_wp2_with fail
      go_ret
      exact ⟨rfl, hB3.alloc hB3.size _⟩
     by_cases c2 : c = 111
     ·subst c2
      go_wp2_with fail
      go_ret
      exact ⟨rfl, hB3.alloc hB3.size _⟩
     have e1 : ((c : Int) == 101) = false := by rw [beq_eq_false_iff_ne]; omega
     have e2 : ((c : Int) == 111) = false := by rw [beq_eq_false_iff_ne]; omega
     go_wp2_with fail
     go_ret
     exact ⟨rfl, hB3.alloc hB3.size _⟩
end Go.Proofs.YtepebnblbheegaaGreatDoor
