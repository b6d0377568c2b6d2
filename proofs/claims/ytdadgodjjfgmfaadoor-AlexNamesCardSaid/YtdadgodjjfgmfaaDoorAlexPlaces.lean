/- AlexPlaces. -/
import Derived.Test.YtdadgodjjfgmfaaDoorFirst10
import Derived.Test.YtdadgodjjfgmfaaDoorPureA4
namespace Go.Proofs.YtdadgodjjfgmfaaDoor
open Go Go.RowKit

theorem ChainA.last {n : Nat} : ∀ {us : List ATok} {t : ATok}, ChainA n t us → ∃ z, (t :: us)[us.length]? = some z ∧ z.kind = 0 ∧ z.place = n
  | [], t, h => ⟨t, rfl, h.2.1, h.2.2⟩
  | u :: us, t, h => by
    obtain ⟨z, h1, h2, h3⟩ := ChainA.last h.2.2
    exact ⟨z, by simpa using h1, h2, h3⟩
theorem ChainA.all {n : Nat} : ∀ {us : List ATok} {t : ATok}, ChainA n t us → ∀ x ∈ t :: us, TokOkA n x
  | [], t, h, x, hx => by
    rw [List.mem_singleton] at hx
    exact hx ▸ h.1
  | u :: us, t, h, x, hx => by
    rcases List.mem_cons.1 hx with rfl | hx
    · exact h.1
    · exact ChainA.all h.2.2 x hx
theorem ChainA.pair {n : Nat} : ∀ {us : List ATok} {t : ATok}, ChainA n t us → ∀ (i : Nat) (a b : ATok), (t :: us)[i]? = some a → (t :: us)[i + 1]? = some b → a.place < b.place
  | [], t, h, i, a, b, ha, hb => by simp at hb
  | u :: us, t, h, 0, a, b, ha, hb => by
    cases ha
    cases hb
    exact h.2.1
  | u :: us, t, h, i + 1, a, b, ha, hb => ChainA.pair h.2.2 i a b (by simpa using ha) (by simpa using hb)

/-- No more tokens than bytes, and the end. -/
theorem lexA_count (L : List UInt8) : ∀ (f k : Nat) (ts : List ATok), k ≤ L.length → lexA L f k = .ok ts → ts.length ≤ L.length - k + 1 := by
  intro f
  induction f with
  | zero => intro k ts _ h; cases h; simp
  | succ f ih =>
    intro k ts hk h
    rw [lexA] at h
    have hs := skipN_le false (L.drop k)
    have hfront := skip_front false (L.drop k)
    rw [List.length_drop] at hs
    rw [List.drop_drop] at hfront
    obtain ⟨j, hj⟩ : ∃ j, k + skipN false (L.drop k) = j := ⟨_, rfl⟩
    rw [hj] at h hfront
    cases ht : tokenA L j with
    | error e => rw [ht] at h; cases h
    | ok y =>
      obtain ⟨t, n⟩ := y
      rw [ht] at h
      obtain ⟨n1, n2, n3, n4, n5⟩ := tokenA_ok L j t n (by omega) hfront ht
      by_cases hk0 : t.kind = 0
      · simp only [hk0, if_true] at h
        cases h
        simp
      · simp only [hk0, if_false] at h
        have hn1 := n4 hk0
        cases hl : lexA L f n with
        | error e => rw [hl] at h; cases h
        | ok us =>
          rw [hl] at h
          cases h
          have := ih n us (by omega) hl
          simp only [List.length_cons]
          omega

set_option maxHeartbeats 4000000 in
set_option maxRecDepth 100000 in
theorem alexPlaces_long (s : ByteArray) (w : World) (sent : Nat → Addr) (hS : Sents w sent) (h : 1500 < s.size) :
    Calls Tryd.prog 8 #[.string s] w fun e w' => e = .returned (.bool true) ∧ Below w.heap.size w w' := by
  go_enter Tryd.func8, Tryd.ntmps8
  go_wp2_with fail
  refine (first10_any w sent hS).mono ?_
  rintro e w1 ⟨rfl, hb1⟩
  go_wp2_with fail
  go_ret
  exact ⟨rfl, hb1⟩

set_option maxRecDepth 100000 in
set_option maxHeartbeats 4000000 in
theorem alexPlaces_bad (s : ByteArray) (w : World) (sent : Nat → Addr) (hS : Sents w sent) (h : s.size ≤ 1500) (c q : Nat) (hT : lexA s.data.toList (s.size + 1) 0 = .error (c, q)) (hq : q < s.size) (h1 : 101 ≤ c) (h2 : c ≤ 117) :
    Calls Tryd.prog 8 #[.string s] w fun e w' => e = .returned (.bool true) ∧ Below w.heap.size w w' := by
  go_enter Tryd.func8, Tryd.ntmps8
  go_wp2_with fail
  refine (first10_any w sent hS).mono ?_
  rintro e w1 ⟨rfl, hb1⟩
  have hS1 := hS.below hb1
  clear hS
  go_wp2_with fail
  refine (aLex_bad s w1 (by omega) sent hS1.env _ _ hT).mono ?_
  rintro e w2 ⟨b, rfl, hE, hb2⟩
  have hS2 := hS1.below hb2
  have hB2 := bNext hb1 hb2
  clear hS1 hb1 hb2
  go_wp2_with fail
  refine (seeFault_at w2 sent hS2 c h1 h2 q b hE).mono ?_
  unfold faultV
  rintro e w3 ⟨k, rfl, hk, hk2, hb3⟩
  have hB3 := bNext hB2 hb3
  have l3 : k < w3.heap.size := block_lt_of_cell hk
  have n3 : ¬ k = w3.heap.size := by omega
  clear hS2 hE hB2 hb3
  go_wp2_with fail
  go_ret
  exact ⟨rfl, hB3.alloc hB3.size _⟩

set_option maxRecDepth 100000 in
set_option maxHeartbeats 8000000 in
theorem alexPlaces_ok (s : ByteArray) (w : World) (sent : Nat → Addr) (hS : Sents w sent) (h : s.size ≤ 1500) (ts : List ATok) (hT : lexA s.data.toList (s.size + 1) 0 = .ok ts) (hlen : 0 < ts.length) (hlen2 : ts.length ≤ 10000)
    (z : ATok) (hz : ts[ts.length - 1]? = some z) (hz0 : z.kind = 0) (hz1 : z.place = s.size)
    (hP : Hid (∀ i a b, ts[i]? = some a → ts[i + 1]? = some b → a.place < b.place)) (hA : Hid (∀ x ∈ ts, TokOkA s.size x)) :
    Calls Tryd.prog 8 #[.string s] w fun e w' => e = .returned (.bool true) ∧ Below w.heap.size w w' := by
  go_enter Tryd.func8, Tryd.ntmps8
  go_wp2_with fail
  refine (first10_any w sent hS).mono ?_
  rintro e w1 ⟨rfl, hb1⟩
  have hS1 := hS.below hb1
  clear hS
  go_wp2_with fail
  refine (aLex_row s w1 (by omega) sent hS1.env _ hT hlen).mono ?_
  rintro e w2 ⟨g, cap, rfl, hp1, hp2, hg2, hR, hb2⟩
  have hB2 := bNext hb1 hb2
  obtain ⟨z0, z1, -⟩ := hR _ z hz
  rw [hz0] at z0
  rw [hz1] at z1
  obtain ⟨N, hN⟩ : ∃ N, ts.length = N := ⟨_, rfl⟩
  rw [hN] at hlen hlen2 hp1 z0 z1 ⊢
  have hlen3 : (1 : Int) ≤ N := by omega
  have hN0 : ((N : Int) == 0) = false := by rw [beq_eq_false_iff_ne]; omega
  have HN := Lib.hid hN
  clear hS1 hb1 hb2 hz hT hN
  go_wp2_with fail
  go_loopg [7] N (fun m x wr => ∃ k : Nat, m = N - k ∧ k ≤ N ∧ x = .int .i64 k ∧ ATRow wr g ts ∧ Below w.heap.size w wr)
  case atStart => exact ⟨0, rfl, Nat.zero_le _, rfl, hR, hB2⟩
  case round =>
    clear z0 z1 hR hB2 hg2
    obtain ⟨k, rfl, hk, rfl, hR, hB⟩ := hrel
    by_cases hlt : k < N
    · obtain ⟨b, hb⟩ : ∃ b, ts[k]? = some b := ⟨_, List.getElem?_eq_getElem (by have := HN.out; omega)⟩
      obtain ⟨b0, b1, v2, b2, hV⟩ := hR k b hb
      obtain ⟨ao, cp, rfl, hc1, hc2, hc3⟩ := hV
      have HO := Lib.hid (hA.out b (List.mem_of_getElem? hb))
      have HC3 := Lib.hid hc3
      clear hc3
      obtain ⟨M, hM⟩ : ∃ M, b.parts.length = M := ⟨_, rfl⟩
      rw [hM] at b2 hc1
      have HM := Lib.hid hM
      have hkd : Hid (((b.kind : Int) == 13) = true ∧ decide (0 < M) = true ∨ ((b.kind : Int) == 13) = false ∧ decide (0 < M) = false) := Lib.hid (by
        have h1 := HO.out.1
        rw [hM] at h1
        rw [beq_iff_eq, beq_eq_false_iff_ne, decide_eq_true_eq, decide_eq_false_iff_not]
        omega)
      have hpl := Lib.hid fun (a : ATok) (ha : ts[k - 1]? = some a) (h0 : 0 < k) => hP.out (k - 1) a b ha (by rw [show k - 1 + 1 = k from by omega]; exact hb)
      have h0 := cell_regrown b0
      have h1 := cell_regrown b1
      have h2 := cell_regrown b2
      clear hM
      go_upto_region 13 with fail
      go_cut [123] (fun s123 w3 => s123 = .bool false ∧ Below wr.heap.size wr w3)
      case first =>
        by_cases hk0 : k = 0
        · subst hk0
          rcases hkd.out with ⟨d1, d2⟩ | ⟨d1, d2⟩
          · go_wp2_with fail
            refine wp_region_quiet_below (by kernel_rfl) (by kernel_rfl) ?_
            repeat (go_big_quiet_step (fail))
            refine wpQuiet_nil ?_
            intro w3 hw'
            have hb : Below wr.heap.size wr w3 := below_of_regrown hw'
            clear hw'
            go_wp2_with fail
            go_meet
            case rel => exact ⟨by first | rfl | simp, hb⟩
          · go_wp2_with fail
            refine wp_region_quiet_below (by kernel_rfl) (by kernel_rfl) ?_
            repeat (go_big_quiet_step (fail))
            refine wpQuiet_nil ?_
            intro w3 hw'
            have hb : Below wr.heap.size wr w3 := below_of_regrown hw'
            clear hw'
            go_wp2_with fail
            go_meet
            case rel => exact ⟨by first | rfl | simp, hb⟩
        · obtain ⟨a, ha⟩ : ∃ a, ts[k - 1]? = some a := ⟨_, List.getElem?_eq_getElem (by have := HN.out; omega)⟩
          obtain ⟨-, a1, -⟩ := hR _ a ha
          have hlt2 := hpl.out a ha (by omega)
          have h3 := cell_regrown a1
          have hk1 : 1 ≤ k := by omega
          have p0 : decide ((0 : Int) < k) = true := by rw [decide_eq_true_eq]; omega
          have p1 : decide ((b.place : Int) ≤ a.place) = false := by rw [decide_eq_false_iff_not]; omega
          have p2 : ((k : Int) - 1).toNat = k - 1 := by omega
          have p3 : decide (0 < k) = true := by rw [decide_eq_true_eq]; omega
          have p4 : decide (b.place ≤ a.place) = false := by rw [decide_eq_false_iff_not]; omega
          clear hk0 ha
          rcases hkd.out with ⟨d1, d2⟩ | ⟨d1, d2⟩
          · go_wp2_with fail
            refine wp_region_quiet_below (by kernel_rfl) (by kernel_rfl) ?_
            repeat (go_big_quiet_step (fail))
            refine wpQuiet_nil ?_
            intro w3 hw'
            have hb : Below wr.heap.size wr w3 := below_of_regrown hw'
            clear hw'
            go_wp2_with fail
            go_meet
            case rel => exact ⟨by first | rfl | simp, hb⟩
          · go_wp2_with fail
            refine wp_region_quiet_below (by kernel_rfl) (by kernel_rfl) ?_
            repeat (go_big_quiet_step (fail))
            refine wpQuiet_nil ?_
            intro w3 hw'
            have hb : Below wr.heap.size wr w3 := below_of_regrown hw'
            clear hw'
            go_wp2_with fail
            go_meet
            case rel => exact ⟨by first | rfl | simp, hb⟩
      case rest =>
        obtain ⟨rfl, hb3⟩ := hcut
        have hR3 := hR.below hb3
        have hB3 := bNext hB hb3
        have b0 := bSome hb3 b0
        have b1 := bSome hb3 b1
        have b2 := bSome hb3 b2
        have HC4 : Hid (0 < M → ∃ gp, ao = some ⟨gp, 0, none⟩ ∧ gp < wc.heap.size ∧ PRow wc gp b.parts) := Lib.hid fun h0 => by
          obtain ⟨gp, e1, e2, e3⟩ := HC3.out (by rw [HM.out]; exact h0)
          exact ⟨gp, e1, Nat.lt_of_lt_of_le e2 hb3.size, e3.below hb3⟩
        clear hR hB hb3 hb h0 h1 h2 HC3 hkd hpl
        go_wp2_with fail
        go_loopg [8] M (fun n x w5 => ∃ m : Nat, n = M - m ∧ m ≤ M ∧ x = .int .i64 m ∧ Below wc.heap.size wc w5)
        case atStart => exact ⟨0, rfl, Nat.zero_le _, rfl, Below.refl _ _⟩
        case round =>
          obtain ⟨m, rfl, hm, rfl, hb5⟩ := hrel
          have c0 := bSome hb5 b0
          have c1 := bSome hb5 b1
          have c2 := bSome hb5 b2
          by_cases hlm : m < M
          · obtain ⟨gp, rfl, hgp, hX⟩ := HC4.out (by omega)
            obtain ⟨p, hp⟩ : ∃ p, b.parts[m]? = some p := ⟨_, List.getElem?_eq_getElem (by have := HM.out; omega)⟩
            obtain ⟨x0, x1, x2, x3, x4⟩ := (hX.below hb5).facts m p hp
            have hpn := HO.out.2.2.2 p (List.mem_of_getElem? hp)
            have q1 : decide (s.size ≤ p.place) = false := by rw [decide_eq_false_iff_not]; omega
            go_upto_region 19 with fail
            refine wp_world (fun w6 => Below wc.heap.size wc w6 ∧ w6.cell? ⟨wr.heap.size, 1, none⟩ = some (.int .i64 p.place)) ⟨hb5.alloc hb5.size _, (Blk.new wr _ _).cell 1 rfl⟩ ?_
            intro w6 ⟨hb6, y1⟩
            have hX6 := hX.below hb6
            generalize wr.heap.size = pb at *
            have k1 := bSome hb6 b1
            have k2 := bSome hb6 b2
            have h1 := cell_regrown k1
            have h2 := cell_regrown k2
            have h3 := cell_regrown y1
            clear c0 c1 c2 x0 x1 x2 x3 x4 b0 b1 b2 hb5
            by_cases hm0 : m = 0
            · have hpp := HO.out.2.1 p (by rw [← hm0]; exact hp)
              have q2 : ((p.place : Int) != b.place) = false := by rw [bne_eq_false_iff_eq]; omega
              subst hm0
              clear hp
              refine wp_region_quiet_below (by kernel_rfl) (by kernel_rfl) ?_
              repeat (go_big_quiet_step (fail))
              refine wpQuiet_nil ?_
              intro w7 hw'
              have hb : Below w6.heap.size w6 w7 := below_of_regrown hw'
              clear hw'
              go_wp2_with fail
              go_roundg (M - (0 + 1))
              case measure => omega
              case rel => exact ⟨0 + 1, rfl, by omega, by go_num, bNext hb6 hb⟩
            · obtain ⟨pm, hpm⟩ : ∃ pm, b.parts[m - 1]? = some pm := ⟨_, List.getElem?_eq_getElem (by have := HM.out; omega)⟩
              have hpp := HO.out.2.2.1 (m - 1) pm p hpm (by rw [show m - 1 + 1 = m from by omega]; exact hp)
              obtain ⟨-, z1, -, -, -⟩ := hX6.facts (m - 1) pm hpm
              have h4 := cell_regrown z1
              have q0 : ((m : Int) == 0) = false := by rw [beq_eq_false_iff_ne]; omega
              have q2 : decide (0 < m) = true := by rw [decide_eq_true_eq]; omega
              have q3 : decide ((0 : Int) < m) = true := by rw [decide_eq_true_eq]; omega
              have q4 : decide (p.place ≤ pm.place) = false := by rw [decide_eq_false_iff_not]; omega
              have q5 : decide ((p.place : Int) ≤ pm.place) = false := by rw [decide_eq_false_iff_not]; omega
              have q6 : ((m : Int) - 1).toNat = m - 1 := by omega
              have hm1 : 1 ≤ m := by omega
              have hMb : M ≤ 9223372036854775807 := by unfold maxLen at hc2; omega
              have q7 : wrap64 ((m : Int) - 1) = (m : Int) - 1 := by unfold wrap64; omega
              clear hm0 hp hpm
              refine wp_region_quiet_below (by kernel_rfl) (by kernel_rfl) ?_
              repeat (go_big_quiet_step (fail))
              refine wpQuiet_nil ?_
              intro w7 hw'
              have hb : Below w6.heap.size w6 w7 := below_of_regrown hw'
              clear hw'
              go_wp2_with fail
              go_roundg (M - (m + 1))
              case measure => omega
              case rel => exact ⟨m + 1, rfl, by omega, by go_num, bNext hb6 hb⟩
          · have hmM : m = M := by omega
            subst hmM
            go_wp2_with fail
            go_roundg (N - (k + 1))
            case measure => omega
            case rel => exact ⟨k + 1, rfl, by omega, by go_num, hR3.below hb5, bNext hB3 hb5⟩
    · go_wp2_with fail
      go_ret
      exact ⟨rfl, hB⟩

/-- patoislaw10.AlexPlaces. -/
theorem alexPlaces_any (s : ByteArray) (w : World) (sent : Nat → Addr) (hS : Sents w sent) :
    Calls Tryd.prog 8 #[.string s] w fun e w' => e = .returned (.bool true) ∧ Below w.heap.size w w' := by
  by_cases h : 1500 < s.size
  · exact alexPlaces_long s w sent hS h
  · cases hT : lexA s.data.toList (s.size + 1) 0 with
    | error e =>
      obtain ⟨c, q⟩ := e
      have := lexA_err s.data.toList (s.size + 1) 0 c q hT
      rw [size_eq] at this
      exact alexPlaces_bad s w sent hS (by omega) c q hT this.1 (by omega) (by omega)
    | ok ts =>
      obtain ⟨t, us, rfl, h1, h2⟩ := lexA_chain s.data.toList (s.size + 1) 0 ts (by omega) (by rw [size_eq]; omega) hT
      obtain ⟨z, z1, z2, z3⟩ := h2.last
      rw [size_eq] at z3
      have hn := lexA_count s.data.toList (s.size + 1) 0 (t :: us) (by omega) hT
      rw [size_eq] at hn
      exact alexPlaces_ok s w sent hS (by omega) (t :: us) hT (by simp) (by omega) z (by simpa using z1) z2 z3 (Lib.hid h2.pair) (Lib.hid (by have := h2.all; rw [size_eq] at this; exact this))

end Go.Proofs.YtdadgodjjfgmfaaDoor
