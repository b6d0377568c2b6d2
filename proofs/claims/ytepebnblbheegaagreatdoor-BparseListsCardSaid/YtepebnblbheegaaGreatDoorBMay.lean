/- BparseMay. -/
import Derived.Test.YtepebnblbheegaaGreatDoorSpellsG
import Derived.Test.YtepebnblbheegaaGreatDoorBSame

namespace Go.Proofs.YtepebnblbheegaaGreatDoor
open Go Go.RowKit

theorem parseB_ok {L : List UInt8} {l : Prog} (hL : L.length ≤ 8192) (h : parseB L = .ok l) : checkP l = none ∧ NFix l ∧ ∀ x ∈ l, okB x.kind = true := by
  have hm := parseB_may L hL
  rw [h] at hm
  refine ⟨hm.1, ?_, hm.2⟩
  obtain ⟨h1, h2, _⟩ := checkP_none hm.1
  unfold parseB at h
  cases hl : lexB (L.length + 1) true L 0 with
  | error e => obtain ⟨c, p⟩ := e; rw [hl] at h; cases h
  | ok ts =>
    have hT := lexB_t L hL ts hl
    rw [hl] at h
    dsimp only at h
    cases hx : pList ts (12 * ts.length + 11) 0 0 with
    | none => rw [hx] at h; cases h
    | some r =>
      rw [hx] at h
      cases r with
      | error e => obtain ⟨c, p⟩ := e; cases h
      | ok y =>
        obtain ⟨m, i⟩ := y
        obtain ⟨D, hD⟩ := (wAll hT.w (12 * ts.length + 11)).list 0 0 m i hx
        dsimp only at h
        split at h
        · cases h
        · cases hc : checkP m with
          | none =>
            rw [hc] at h
            cases h
            exact nfix_of hD (by omega) (by omega)
          | some q => rw [hc] at h; cases h
theorem parseB_codes {L : List UInt8} {c : Nat} {p : Option Nat} (hL : L.length ≤ 8192) (h : parseB L = .error (c, p)) : (101 ≤ c ∧ c ≤ 117) ∧ (p = none → c = 111) := by
  have hm := parseB_may L hL
  rw [h] at hm
  have hp : p = none → c = 111 := fun e => by
    subst e
    rcases hm with h | ⟨q, h, _⟩
    · exact h.1
    · cases h
  refine ⟨?_, hp⟩
  unfold parseB at h
  cases hl : lexB (L.length + 1) true L 0 with
  | error e =>
    obtain ⟨c', p'⟩ := e
    rw [hl] at h
    cases h
    have := lexB_err L (L.length + 1) true 0 c p' (Nat.zero_le _) (by rw [List.drop_zero]; exact hl)
    omega
  | ok ts =>
    have hT := lexB_t L hL ts hl
    have hn := (nnAll hT.good (12 * ts.length + 11)).list 0 0 hT.good.pos (by omega)
    rw [hl] at h
    dsimp only at h
    cases hx : pList ts (12 * ts.length + 11) 0 0 with
    | none => exact absurd hx hn
    | some r =>
      rw [hx] at h
      cases r with
      | error e =>
        obtain ⟨c', p'⟩ := e
        cases h
        have := ((postAll hT.good (12 * ts.length + 11)).list 0 0 hT.good.pos).2 _ _ hx
        omega
      | ok y =>
        obtain ⟨m, i⟩ := y
        have hwf := (wAll hT.w (12 * ts.length + 11)).list 0 0 m i hx
        dsimp only at h
        split at h
        · cases h; omega
        · rcases check_wf hwf with hc | hc | ⟨q, hc⟩
          · rw [hc] at h; cases h
          · rw [hc] at h; cases h; omega
          · rw [hc] at h; cases h; omega

set_option maxRecDepth 100000 in
/-- patoissee.Fault of an error without a place. -/
theorem seeFault_sent (w : World) (sent : Nat → Addr) (hS : Sents w sent) (c : Nat) (h1 : 101 ≤ c) (h2 : c ≤ 117) :
    Calls Tryz.prog 22 #[.iface 303 (.pointer (some (sent c)))] w fun e w' => e = .returned (faultV c (.slice none 0 0)) ∧ Below w.heap.size w w' := by
  have hb0 := (Below.refl w.heap.size w).alloc (Nat.le_refl _) (Obj.cells #[Value.int IntKind.i64 0, Value.slice none 0 0] 30)
  have hS1 := hS.below hb0
  go_enter Tryz.func22, Tryz.ntmps22
  go_wp2_with fail
  refine (seefault_sent _ sent hS1 c h1 h2 9 (by omega) (by omega)).mono ?_
  rintro e w2 ⟨rfl, hb2⟩
  have B2 := (Blk.newAt (w := w) [Value.int IntKind.i64 0, Value.slice none 0 0] 30 rfl).below hb2
  have hB2 := bNext hb0 hb2
  have c0 := B2.cell 0 rfl
  have c1 := B2.cell 1 rfl
  have f0 := B2.free 0
  have f1 := B2.free 1
  have hK := (Kept.ofBelow hB2 : Kept Nowhere w w2)
  clear hb2 hS1 hb0
  unfold faultV
  go_wp2_with fail
  (try simp only [Exit.inBlock, Exit.then])
  refine bodyPost_ret (results_blk1 (p := 2) (g := w.heap.size) (cs := [.int .i64 c, .slice none 0 0]) rfl _ _ _ rfl ?_ Tryz.underlying30 rfl (by kernel_rfl)) rfl ⟨rfl, ?_⟩
  · apply Blk.as
    repeat (first | (with_reducible assumption) | ((with_reducible apply Blk.newAt); (focus (simp; done))) | (with_reducible apply Blk.set) | ((with_reducible apply Blk.other); (case hp => first | omega | (simp; omega) | simp)) | (with_reducible apply Blk.alloc) | (with_reducible apply Blk.drewN) | (with_reducible apply Blk.drew))
    rfl
  · apply Kept.toBelow
    repeat (first | (with_reducible assumption) | (with_reducible exact Kept.refl _ _) | ((with_reducible refine Kept.setCell ?_ ?_ _); rotate_left; (focus (first | exact fun _ => rfl | exact fun h => absurd h (by first | omega | (simp; omega) | simp)))) | (with_reducible refine Kept.alloc ?_ _) | (with_reducible refine Kept.drewN ?_ _) | (with_reducible refine Kept.drew ?_))

theorem okB_four (x : PNode) (h : okB x.kind = true) : ((([36, 37, 5, 7] : List Nat).map fun (k : Nat) => (k : Int)).take ([36, 37, 5, 7] : List Nat).length).contains x.kind = false := by
  unfold okB at h
  simp only [List.length_cons, List.length_nil, List.map_cons, List.map_nil] at *
  rw [← Bool.not_eq_true]
  intro h2
  rw [List.contains_iff_mem] at h2
  simp at h2 h
  omega

set_option maxRecDepth 100000 in
set_option maxHeartbeats 4000000 in
theorem mayB_any (s : ByteArray) (w : World) (sent : Nat → Addr) (hS : Sents w sent) (hmx : ∃ m, w.cell? ⟨9, 0, none⟩ = some (.int .i64 m)) :
    Calls Tryz.prog 8 #[.string s] w fun e w' => e = .returned (.bool true) ∧ Below w.heap.size w w' := by
  obtain ⟨n, hn⟩ : ∃ n, s.size = n := ⟨_, rfl⟩
  have HNN := Lib.hid hn
  by_cases h9 : 9000 < n
  · have h9' : 9000 < s.size := by omega
    clear hn
    go_enter Tryz.func8, Tryz.ntmps8
    go_wp2_with fail
    refine (first13_any _ sent hS hmx).mono ?_
    rintro e w1 ⟨rfl, hb1⟩
    go_wp2_with fail
    go_ret
    exact ⟨rfl, hb1⟩
  · have h9' : ¬ 9000 < s.size := by omega
    have h9i : decide ((9000 : Int) < (s.size : Int)) = false := by rw [decide_eq_false_iff_not]; omega
    by_cases h8 : 8192 < n
    · have h8' : 8192 < s.size := by omega
      have HL := Lib.hid (fun (w9 : World) (hE : Env w9 sent) => pParse_long s w9 h8' sent hE)
      clear hn
      go_enter Tryz.func8, Tryz.ntmps8
      go_wp2_with fail
      refine (first13_any _ sent hS hmx).mono ?_
      rintro e w1 ⟨rfl, hb1⟩
      have hS1 := hS.below hb1
      clear hS hmx
      go_wp2_with fail
      refine (HL.out _ hS1.env).mono ?_
      rintro e w2 ⟨hb2, rfl⟩
      have hS2 := hS1.below hb2
      have hB2 := bNext hb1 hb2
      clear hS1 hb1 hb2 HL
      go_wp2_with fail
      refine (seeFault_sent _ sent hS2 101 (by omega) (by omega)).mono ?_
      unfold faultV
      rintro e w3 ⟨rfl, hb3⟩
      have hB3 := bNext hB2 hb3
      clear hS2 hB2 hb3
      go_wp2_with fail
      go_ret
      exact ⟨rfl, hB3.alloc hB3.size _⟩
    · have h8' : s.size ≤ 8192 := by omega
      have HP := Lib.hid (fun (w9 : World) (hS9 : Sents w9 sent) (hm9 : ∃ m, w9.cell? ⟨9, 0, none⟩ = some (.int .i64 m)) => pParse_short s w9 h8' sent hS9 hm9)
      have hmay := parseB_may s.data.toList (by rw [size_eq]; omega)
      have HOK := Lib.hid (fun l h => parseB_ok (L := s.data.toList) (l := l) (by rw [size_eq]; omega) h)
      have HCD := Lib.hid (fun c p h => parseB_codes (L := s.data.toList) (c := c) (p := p) (by rw [size_eq]; omega) h)
      rw [size_eq] at hmay
      cases hq : parseB s.data.toList with
      | ok l =>
        rw [hq] at HP
        obtain ⟨hck, hF, hk⟩ := HOK.out l hq
        obtain ⟨l1, l2, _⟩ := checkP_none hck
        have HC := Lib.hid (fun (w9 : World) (v9 : Value) (b9 : Nat) (hN : NSl w9 b9 v9 l) (hE9 : Env w9 sent) => cCheck_any l hF sent b9 w9 v9 hN l1 hE9 (by rw [hck]; intro h; cases h))
        rw [hck] at HC
        have HH := Lib.hid (fun (w9 : World) (v9 : Value) (b9 kb : Nat) (hN : NSl w9 b9 v9 l) (hB : Blk w9 kb (([36, 37, 5, 7] : List Nat).map fun (k : Nat) => Value.int .i64 (k : Int))) => cHas_no l b9 kb 4 [36, 37, 5, 7] v9 w9 hN (by omega) (by decide) hB (fun x hx => okB_four x (hk x hx)))
        clear hmay hq hk hF hck HOK HCD hn
        go_enter Tryz.func8, Tryz.ntmps8
        go_wp2_with fail
        refine (first13_any _ sent hS hmx).mono ?_
        rintro e w1 ⟨rfl, hb1⟩
        have hS1 := hS.below hb1
        have hm1 := hmx.elim fun m hm => (⟨m, bSome hb1 hm⟩ : ∃ m, w1.cell? ⟨9, 0, none⟩ = some (.int .i64 m))
        clear hS hmx
        go_wp2_with fail
        refine (HP.out _ hS1 hm1).mono ?_
        rintro e w2 ⟨hb2, v, b9, rfl, hN⟩
        have hE2 := (hS1.below hb2).env
        have hB2 := bNext hb1 hb2
        have HN := Lib.hid hN
        obtain ⟨g, cap, rfl, -⟩ := hN
        clear hS1 hm1 hb1 hb2 HP
        go_wp2_with fail
        refine (HC.out _ _ b9 HN.out hE2).mono ?_
        rintro e w3 ⟨hb3, rfl⟩
        have hB3 := bNext hB2 hb3
        have HN3 := Lib.hid (HN.out.below hb3)
        clear hE2 hB2 hb3 HC HN
        go_wp2_with fail
        refine (HH.out _ _ b9 _ (HN3.out.below ((Below.refl _ w3).alloc (Nat.le_refl _) _)) (Blk.new w3 [Value.int .i64 36, Value.int .i64 37, Value.int .i64 5, Value.int .i64 7] 3)).mono ?_
        rintro e w4 ⟨rfl, hb4⟩
        have hB4 := bNext hB3 (bNext ((Below.refl _ w3).alloc (Nat.le_refl _) _) hb4)
        clear hb4 HH HN3 hB3
        go_wp2_with fail
        go_ret
        exact ⟨rfl, hB4⟩
      | error e0 =>
        obtain ⟨c, p⟩ := e0
        rw [hq] at HP hmay
        obtain ⟨hc, hpn⟩ := HCD.out c p hq
        clear HOK HCD hq hn
        go_enter Tryz.func8, Tryz.ntmps8
        go_wp2_with fail
        refine (first13_any _ sent hS hmx).mono ?_
        rintro e w1 ⟨rfl, hb1⟩
        have hS1 := hS.below hb1
        have hm1 := hmx.elim fun m hm => (⟨m, bSome hb1 hm⟩ : ∃ m, w1.cell? ⟨9, 0, none⟩ = some (.int .i64 m))
        clear hS hmx
        go_wp2_with fail
        refine (HP.out _ hS1 hm1).mono ?_
        clear HP
        cases p with
        | none =>
          obtain rfl : c = 111 := hpn rfl
          rintro e w2 ⟨hb2, rfl⟩
          have hS2 := hS1.below hb2
          have hB2 := bNext hb1 hb2
          clear hS1 hm1 hb1 hb2 hmay hpn hc
          go_wp2_with fail
          refine (seeFault_sent _ sent hS2 111 (by omega) (by omega)).mono ?_
          unfold faultV
          rintro e w3 ⟨rfl, hb3⟩
          have hB3 := bNext hB2 hb3
          clear hS2 hB2 hb3
          go_wp2_with fail
          go_ret
          exact ⟨rfl, hB3.alloc hB3.size _⟩
        | some q =>
          have hqs : q ≤ n := by
            have := HNN.out
            rcases hmay with ⟨_, h⟩ | ⟨q', h, h2⟩
            · cases h
            · cases h
              omega
          have hqs2 : decide ((q : Int) ≤ (s.size : Int)) = true := by rw [decide_eq_true_eq]; have := HNN.out; omega
          have hqs3 : decide (q ≤ s.size) = true := by rw [decide_eq_true_eq]; have := HNN.out; omega
          rintro e w2 ⟨hb2, eb, rfl, hE2⟩
          have hS2 := hS1.below hb2
          have hB2 := bNext hb1 hb2
          clear hS1 hm1 hb1 hb2 hmay hpn
          go_wp2_with fail
          refine (seeFault_at w2 sent hS2 c hc.1 hc.2 q eb hE2).mono ?_
          unfold faultV
          rintro e w3 ⟨g, rfl, hg, hg2, hb3⟩
          have hB3 := bNext hB2 hb3
          have hgz : g < w3.heap.size := block_lt_of_cell hg
          clear hb3 hE2 hS2 hB2
          by_cases c1 : c = 101
          · subst c1
            go_wp2_with fail
            go_ret
            exact ⟨rfl, hB3.alloc hB3.size _⟩
          by_cases c2 : c = 111
          · subst c2
            go_wp2_with fail
            go_ret
            exact ⟨rfl, hB3.alloc hB3.size _⟩
          have e1 : ((c : Int) == 101) = false := by rw [beq_eq_false_iff_ne]; omega
          have e2 : ((c : Int) == 111) = false := by rw [beq_eq_false_iff_ne]; omega
          go_wp2_with fail
          go_ret
          exact ⟨rfl, hB3.alloc hB3.size _⟩

end Go.Proofs.YtepebnblbheegaaGreatDoor
