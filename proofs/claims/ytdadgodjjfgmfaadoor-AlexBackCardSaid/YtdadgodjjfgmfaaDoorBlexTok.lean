/- Dialect B's reader: a token. -/
import Derived.Test.YtdadgodjjfgmfaaDoorBlexDead
namespace Go.Proofs.YtdadgodjjfgmfaaDoor
open Go Go.RowKit

/-- The errors of package api by their numbers, and the variables that hold them. -/
def errVars : List (Nat × Nat) := [(101, 0), (102, 5), (103, 2), (104, 6), (105, 7), (106, 3), (107, 1), (108, 8), (109, 9), (110, 10), (111, 11), (112, 12), (113, 13), (114, 14), (115, 15), (116, 16), (117, 17)]

/-- The variables hold pointers to errors of their own. -/
def Env (w : World) (sent : Nat → Addr) : Prop := ∀ c g, (c, g) ∈ errVars → w.cell? ⟨g, 0, none⟩ = some (.iface 151 (.pointer (some (sent c))))

theorem Env.below {w w' : World} {sent : Nat → Addr} (h : Env w sent) (hb : Below w.heap.size w w') : Env w' sent := fun c g hg => bSome hb (h c g hg)
theorem Env.lt {w : World} {sent : Nat → Addr} (h : Env w sent) {c g : Nat} (hg : (c, g) ∈ errVars) : g < w.heap.size := block_lt_of_cell (h c g hg)

/-- An error in a block: one of api's, with a place around it. -/
def ErrAt (w : World) (b : Nat) (sent : Nat → Addr) (code : Nat) (p : Int) : Prop := Blk w b [.int .i64 p, .iface 151 (.pointer (some (sent code)))]

theorem bestOp_step (l : List UInt8) (j : Nat) (b : List UInt8) (kd : Nat) (o : List UInt8) (ho : opsB[j]? = some o) :
    bestOp l (opsB.drop j) j b kd = if b.length < o.length ∧ Lib.hasPrefix l o = true then bestOp l (opsB.drop (j + 1)) (j + 1) o j else bestOp l (opsB.drop (j + 1)) (j + 1) b kd := by
  obtain ⟨h, rfl⟩ := List.getElem?_eq_some_iff.1 ho
  rw [List.drop_eq_getElem_cons h, bestOp]

theorem bestOp_end (l : List UInt8) (b : List UInt8) (kd : Nat) : bestOp l (opsB.drop 18) 18 b kd = (b, kd) := rfl

/-- What the loop of a word has come to. -/
theorem word_end (s : ByteArray) (i k : Nat) (hik : i ≤ k) (hk : k ≤ s.size) (hall : ((s.data.toList.drop i).take (k - i)).all (fun c => !endsB c) = true) (hend : k < s.size → endsB (bat s k) = true) :
    (s.data.toList.drop i).takeWhile (fun c => !endsB c) = subs s.data.toList i k := by
  have e : subs s.data.toList i k = (s.data.toList.drop i).take (k - i) := by
    unfold subs
    rw [show ((i : Nat) : Int).toNat = i from rfl, show ((k : Nat) : Int).toNat = k from rfl, List.drop_take]
  rw [e]
  apply takeWhile_of _ _ _ hall
  intro c m hcm
  rw [List.drop_drop, show i + (k - i) = k from by omega] at hcm
  by_cases hlt : k < s.size
  · rw [drop_bat s k hlt] at hcm
    injection hcm with h1 _
    rw [← h1, hend hlt]
    rfl
  · rw [List.drop_eq_nil_of_le (by rw [size_eq]; omega)] at hcm
    cases hcm

theorem word_step (s : ByteArray) (i k : Nat) (hik : i ≤ k) (hk : k < s.size) (hall : ((s.data.toList.drop i).take (k - i)).all (fun c => !endsB c) = true) (hg : endsB (bat s k) = false) : ((s.data.toList.drop i).take (k + 1 - i)).all (fun c => !endsB c) = true := by
  rw [show k + 1 - i = (k - i) + 1 from by omega]
  have h1 : k - i < (s.data.toList.drop i).length := by rw [List.length_drop, size_eq]; omega
  rw [List.take_succ_eq_append_getElem h1, List.all_append, hall, Bool.true_and, List.all_cons, List.all_nil, Bool.and_true]
  have h2 : k < s.data.size := hk
  have e : (s.data.toList.drop i)[k - i] = bat s k := by
    simp [bat, List.getD, Array.getElem?_eq_getElem h2, show i + (k - i) = k from by omega]
  rw [e, hg]
  rfl

theorem subs_length (s : ByteArray) (i k : Nat) (hik : i ≤ k) (hk : k ≤ s.size) : (subs s.data.toList i k).length = k - i := by
  unfold subs
  rw [show ((i : Nat) : Int).toNat = i from rfl, show ((k : Nat) : Int).toNat = k from rfl, List.length_drop, List.length_take, size_eq]
  omega

/-- A token's beginning, by its first byte. -/
theorem tokenB_cons (s : ByteArray) (i p : Nat) (h : i < s.size) (b : List UInt8) (kd : Nat) (hb : bestOp (s.data.toList.drop i) opsB 0 [] 0 = (b, kd)) :
    tokenB (s.data.toList.drop i) p =
      if b ≠ [] then .ok (⟨kd, p, 0, [], false⟩, b.length)
      else if (bat s i).toNat = 38 ∨ (bat s i).toNat = 96 then .error (107, p)
      else if (bat s i).toNat = 39 then match deadB (s.data.toList.drop (i + 1)) with
        | some (x, n) => .ok (⟨19, p, 0, x, false⟩, n + 1)
        | none => .error (103, p)
      else if (bat s i).toNat = 36 then match dollarB (s.data.toList.drop (i + 1)) with
        | some (k, n, x, z) => .ok (⟨k, p, n, x, false⟩, z + 1)
        | none => .error (106, p)
      else .ok (⟨18, p, 0, (s.data.toList.drop i).takeWhile (fun c => !endsB c), false⟩, ((s.data.toList.drop i).takeWhile (fun c => !endsB c)).length) := by
  have hd := drop_bat s i h
  rw [hd] at hb ⊢
  simp only [tokenB, hb]
  rfl

theorem tokenB_nil (s : ByteArray) (i p : Nat) (h : s.size ≤ i) : tokenB (s.data.toList.drop i) p = .ok (⟨0, p, 0, [], false⟩, 0) := by
  rw [List.drop_eq_nil_of_le (by rw [size_eq]; omega)]; rfl

theorem deadAt_some {l : List UInt8} {i n : Nat} {x : List UInt8} (h : deadAt l (i + 1) [] = some (x, n)) : ∃ m, deadB (l.drop (i + 1)) = some (x, m) ∧ n = i + (m + 1) := by
  unfold deadAt at h
  cases hd : deadB (l.drop (i + 1)) with
  | none => rw [hd] at h; cases h
  | some y =>
    rw [hd] at h
    simp only [Option.map_some, List.nil_append, Option.some.injEq, Prod.mk.injEq] at h
    refine ⟨y.2, ?_, by omega⟩
    rw [← h.1]
theorem deadAt_none {l : List UInt8} {i : Nat} (h : deadAt l (i + 1) [] = none) : deadB (l.drop (i + 1)) = none := by
  unfold deadAt at h
  cases hd : deadB (l.drop (i + 1)) with
  | none => rfl
  | some y => rw [hd] at h; cases h

theorem dollar_num (s : ByteArray) (i : Nat) (h : i + 1 < s.size) (h1 : 49 ≤ (bat s (i + 1)).toNat) (h2 : (bat s (i + 1)).toNat ≤ 57) : dollarB (s.data.toList.drop (i + 1)) = some (23, (bat s (i + 1)).toNat - 48, [], 1) := by
  rw [drop_bat s (i + 1) h]
  unfold dollarB
  rw [List.headD_cons]
  exact if_pos ⟨h1, h2⟩

theorem dollar_name (s : ByteArray) (i c0 kind pre : Nat) (hc0 : (i + 1 < s.size ∧ c0 = (bat s (i + 1)).toNat) ∨ (s.size ≤ i + 1 ∧ c0 = 0)) (hn : ¬ (49 ≤ c0 ∧ c0 ≤ 57))
    (hkind : kind = if c0 = 35 then 21 else if c0 = 34 then 22 else 20) (hpre : pre = if c0 = 35 ∨ c0 = 34 then 1 else 0) (x : List UInt8) (hx : x = starName (s.data.toList.drop (i + 1 + pre))) :
    dollarB (s.data.toList.drop (i + 1)) = if x = [42] ∨ nameB x = true then some (kind, 0, x, pre + x.length) else none := by
  have hd : ((s.data.toList.drop (i + 1)).headD 0).toNat = c0 := by
    rcases hc0 with ⟨h, rfl⟩ | ⟨h, rfl⟩
    · rw [drop_bat s (i + 1) h]; rfl
    · rw [List.drop_eq_nil_of_le (by rw [size_eq]; omega)]; rfl
  unfold dollarB
  rw [hd, if_neg hn, show dKind c0 = kind from hkind.symm, show dPre c0 = pre from hpre.symm, List.drop_drop, hx]

set_option maxHeartbeats 4000000 in
set_option maxRecDepth 100000 in
theorem xToken_any (r q : Nat) (s : ByteArray) (i : Nat) (w : World) (hs : s.size ≤ 1000000) (hi : i ≤ s.size) (hR : Rdr w r q s i) (sent : Nat → Addr) (hE : Env w sent) (hgr : ∀ c g, (c, g) ∈ errVars → g ≠ r)
    (R : Ending → World → Prop) (T : Except (Nat × Nat) (BTok × Nat)) (hT : Hid (tokenB (s.data.toList.drop i) i = T))
    (hgood : Hid (∀ t n w', T = .ok (t, n) → Rdr w' r q s (i + n) → Kept (At r) w w' → R (.returned (.tuple #[.agg t.cells.toArray, .nilIface])) w'))
    (hbad : Hid (∀ c p b w', T = .error (c, p) → ErrAt w' b sent c p → Kept (At r) w w' → R (.returned (.tuple #[.agg #[.int .i64 0, .int .i64 0, .int .i64 0, .string ⟨#[]⟩, .bool false], .iface 102 (.pointer (some ⟨b, 0, none⟩))])) w')) :
    Calls Tryd.prog 46 #[.pointer (some ⟨r, 0, none⟩)] w R := by
  have hr := hR.here.lt
  have hq := hR.src.lt
  go_enter Tryd.func46, Tryd.ntmps46
  have c1 := hR.c1
  go_upto_region 2 with fail
  refine wp_world (fun w1 => Rdr w1 r q s i ∧ Blk w1 w.heap.size [.int .i64 0, .int .i64 0, .int .i64 0, .string ⟨#[]⟩, .bool false] ∧
      Blk w1 (w.heap.size + 1) [.int .i64 0, .int .i64 i, .int .i64 0, .string ⟨#[]⟩, .bool false] ∧ Kept (At r) w w1)
    ⟨(hR.alloc _).alloc _, (Blk.newAt _ _ (by simp)).alloc _, Blk.newAt _ _ (by simp), ((Kept.refl (At r) w).alloc _).alloc _⟩ ?_
  intro w1 ⟨hR1, hB1, hB2, hK1⟩
  clear c1
  have g0 := cell_regrown hR1.c0
  have g1 := cell_regrown hR1.c1
  have g2 := cell_regrown hR1.cs
  by_cases hlt : i < s.size
  · refine wp_region_quiet_below (by kernel_rfl) (by kernel_rfl) ?_
    repeat (go_big_quiet_step ((go_at_call 27; exact Calls.regrown_of (bByte_in s i _ hs hlt))))
    refine wpQuiet_nil ?_
    intro w2 hw'
    have hb : Below w1.heap.size w1 w2 := below_of_regrown hw'
    clear hw'
    have hR2 := hR1.below hb
    have hB12 := hB1.below hb
    have hB22 := hB2.below hb
    have hK2 := hK1.andBelow hb
    clear hR1 hB1 hB2 hK1 hb g0 g1 g2
    go_wp2_with (go_at_call 60; refine (xOps_any _).mono ?_; rintro e w3 ⟨rfl, hO, hb3⟩)
    have hR3 := hR2.below hb3
    have hB13 := hB12.below hb3
    have hB23 := hB22.below hb3
    have hK3 := hK2.andBelow hb3
    have hO1 : w.heap.size + 1 < w2.heap.size := hB22.lt
    generalize hob : w2.heap.size = ob at *
    clear hR2 hB12 hB22 hK2 hb3 hob
    go_loopg [7, 35] 18 (fun n sb sj wr => ∃ (j : Nat) (b : List UInt8) (kd : Nat), n = 18 - j ∧ j ≤ 18 ∧ sb = .string (bs b) ∧ sj = .int .i64 j ∧ b.length ≤ 3 ∧ Rdr wr r q s i ∧ Blk wr w.heap.size [.int .i64 0, .int .i64 0, .int .i64 0, .string ⟨#[]⟩, .bool false] ∧
        Blk wr (w.heap.size + 1) [.int .i64 kd, .int .i64 i, .int .i64 0, .string ⟨#[]⟩, .bool false] ∧ Blk wr ob (opsB.map fun l => .string (bs l)) ∧ Kept (At r) w wr ∧ Hid (bestOp (s.data.toList.drop i) opsB 0 [] 0 = bestOp (s.data.toList.drop i) (opsB.drop j) j b kd) ∧ Hid (b = [] → kd = 0))
    case atStart => exact ⟨0, [], 0, rfl, by omega, rfl, rfl, by simp, hR3, hB13, hB23, hO, hK3, Lib.hid rfl, Lib.hid fun _ => rfl⟩
    case round =>
      obtain ⟨j, b, kd, rfl, hj, rfl, rfl, hbl, hR, hB1, hB2, hO, hK, hbest, hkd⟩ := hrel
      clear hR3 hB13 hB23 hK3
      by_cases hj18 : j < 18
      · obtain ⟨o, ho⟩ : ∃ o, opsB[j]? = some o := ⟨opsB[j]'(by exact hj18), List.getElem?_eq_getElem (by exact hj18)⟩
        have hoc : wr.cell? ⟨ob, j, none⟩ = some (.string (bs o)) := hO.cell j (by rw [List.getElem?_map, ho]; rfl)
        have hol : o.length ≤ 3 := by
          have h : ∀ o ∈ opsB, o.length ≤ 3 := by decide
          exact h o (List.mem_of_getElem? ho)
        have hst := Lib.hid (bestOp_step (s.data.toList.drop i) j b kd o ho)
        have hos := Lib.hid (bs_size o)
        have hbs := Lib.hid (bs_size b)
        clear ho
        have g0 := cell_regrown hR.c0
        have g1 := cell_regrown hR.c1
        have g2 := cell_regrown hR.cs
        by_cases hlen : b.length < o.length
        · have d1 : decide (((bs b).size : Int) < ((bs o).size : Int)) = true := by rw [hos.out, hbs.out, decide_eq_true_eq]; omega
          have d2 : decide ((bs b).size < (bs o).size) = true := by rw [hos.out, hbs.out, decide_eq_true_eq]; omega
          have HB := Lib.hid (bHas_in s (bs o) i)
          rw [bs_list] at HB
          cases hpf : Lib.hasPrefix (s.data.toList.drop i) o with
          | true =>
            rw [hpf] at HB
            have HN := Lib.hid (hbest.out.trans (hst.out.trans (if_pos ⟨hlen, hpf⟩)))
            have HL : Hid (o = [] → j = 0) := Lib.hid fun e => by rw [e] at hlen; simp at hlen
            clear hpf hst hbest hlen
            go_wp2_with fail
            refine wp_region_quiet_below (by kernel_rfl) (by kernel_rfl) ?_
            repeat (go_big_quiet_step ((go_at_call 28; exact Calls.regrown_of (HB.out _ hs (by omega)))))
            refine wpQuiet_nil ?_
            intro w4 hw'
            have hb : Below wr.heap.size wr w4 := below_of_regrown hw'
            clear hw'
            have hR4 := hR.below hb
            have hB14 := hB1.below hb
            have hB24 := hB2.below hb
            have hO4 := hO.below hb
            have hK4 := hK.andBelow hb
            clear hR hB1 hB2 hO hK hb g0 g1 g2 HB hoc
            have tc0 := hB24.cell 0 rfl
            have tf0 := hB24.free 0
            go_wp2_with fail
            go_roundg (18 - (j + 1))
            case measure => omega
            case rel =>
              refine ⟨j + 1, o, j, rfl, by omega, rfl, by go_num, hol, ?_, ?_, ?_, ?_, ?_, HN, HL⟩
              · repeat (first | (with_reducible assumption) | ((with_reducible refine Rdr.moveTo ?_ ?_); rotate_left; (focus go_num)) | (with_reducible exact RdrAny.of (by assumption)) | ((with_reducible refine RdrAny.other ?_ ?_ ?_ _); rotate_left; (focus (first | omega | (simp; omega) | simp)); (focus (first | omega | (simp; omega) | simp))) | (with_reducible refine RdrAny.move ?_ _) | (with_reducible refine RdrAny.alloc ?_ _) | ((with_reducible refine Rdr.other ?_ ?_ ?_ _); rotate_left; (focus (first | omega | (simp; omega) | simp)); (focus (first | omega | (simp; omega) | simp))) | (with_reducible refine Rdr.alloc ?_ _) | (with_reducible refine Rdr.drewN ?_ _) | (with_reducible refine Rdr.drew ?_))
              · apply Blk.as
                repeat (first | (with_reducible assumption) | ((with_reducible apply Blk.newAt); (focus (simp; done))) | (with_reducible apply Blk.set) | ((with_reducible apply Blk.other); (case hp => first | omega | (simp; omega) | simp)) | (with_reducible apply Blk.alloc) | (with_reducible apply Blk.drewN) | (with_reducible apply Blk.drew))
                rfl
              · apply Blk.as
                repeat (first | (with_reducible assumption) | ((with_reducible apply Blk.newAt); (focus (simp; done))) | (with_reducible apply Blk.set) | ((with_reducible apply Blk.other); (case hp => first | omega | (simp; omega) | simp)) | (with_reducible apply Blk.alloc) | (with_reducible apply Blk.drewN) | (with_reducible apply Blk.drew))
                rfl
              · apply Blk.as
                repeat (first | (with_reducible assumption) | ((with_reducible apply Blk.newAt); (focus (simp; done))) | (with_reducible apply Blk.set) | ((with_reducible apply Blk.other); (case hp => first | omega | (simp; omega) | simp)) | (with_reducible apply Blk.alloc) | (with_reducible apply Blk.drewN) | (with_reducible apply Blk.drew))
                rfl
              · repeat (first | (with_reducible assumption) | (with_reducible exact Kept.refl _ _) | ((with_reducible refine Kept.setCell ?_ ?_ _); rotate_left; (focus (first | exact fun _ => rfl | exact fun h => absurd h (by first | omega | (simp; omega) | simp)))) | (with_reducible refine Kept.alloc ?_ _) | (with_reducible refine Kept.drewN ?_ _) | (with_reducible refine Kept.drew ?_))
          | false =>
            rw [hpf] at HB
            have HN := Lib.hid (hbest.out.trans (hst.out.trans (if_neg (fun h => by rw [hpf] at h; exact absurd h.2 (by decide)))))
            clear hpf hst hbest hlen
            go_wp2_with fail
            refine wp_region_quiet_below (by kernel_rfl) (by kernel_rfl) ?_
            repeat (go_big_quiet_step ((go_at_call 28; exact Calls.regrown_of (HB.out _ hs (by omega)))))
            refine wpQuiet_nil ?_
            intro w4 hw'
            have hb : Below wr.heap.size wr w4 := below_of_regrown hw'
            clear hw'
            have hR4 := hR.below hb
            have hB14 := hB1.below hb
            have hB24 := hB2.below hb
            have hO4 := hO.below hb
            have hK4 := hK.andBelow hb
            clear hR hB1 hB2 hO hK hb g0 g1 g2 HB hoc
            go_wp2_with fail
            go_roundg (18 - (j + 1))
            case measure => omega
            case rel => exact ⟨j + 1, b, kd, rfl, by omega, rfl, by go_num, hbl, hR4, hB14, hB24, hO4, hK4, HN, hkd⟩
        · have d1 : decide (((bs b).size : Int) < ((bs o).size : Int)) = false := by rw [hos.out, hbs.out, decide_eq_false_iff_not]; omega
          have d2 : decide ((bs b).size < (bs o).size) = false := by rw [hos.out, hbs.out, decide_eq_false_iff_not]; omega
          have HN := Lib.hid (hbest.out.trans (hst.out.trans (if_neg (fun h => hlen h.1))))
          clear hst hbest hlen
          go_wp2_with fail
          refine wp_region_quiet_below (by kernel_rfl) (by kernel_rfl) ?_
          repeat (go_big_quiet_step (fail))
          refine wpQuiet_nil ?_
          intro w4 hw'
          have hb : Below wr.heap.size wr w4 := below_of_regrown hw'
          clear hw'
          have hR4 := hR.below hb
          have hB14 := hB1.below hb
          have hB24 := hB2.below hb
          have hO4 := hO.below hb
          have hK4 := hK.andBelow hb
          clear hR hB1 hB2 hO hK hb g0 g1 g2 hoc
          go_wp2_with fail
          go_roundg (18 - (j + 1))
          case measure => omega
          case rel => exact ⟨j + 1, b, kd, rfl, by omega, rfl, by go_num, hbl, hR4, hB14, hB24, hO4, hK4, HN, hkd⟩
      · obtain rfl : j = 18 := by omega
        have HB := Lib.hid (hbest.out.trans (bestOp_end _ b kd))
        clear hbest hO hO1
        have HT0 := Lib.hid ((tokenB_cons s i i hlt b kd HB.out).symm.trans hT.out)
        by_cases hbe : b = []
        · have hk0 := hkd.out hbe
          subst hbe hk0
          have HT1 := Lib.hid ((if_neg (by simp)).symm.trans HT0.out)
          have e1 : (bs []).toList = [] := by rw [Lib.toList_data, bs_list]
          have e2 : (bs []).toList.isEmpty = true := by rw [e1]; rfl
          clear HT0 HB hkd hbl
          by_cases h38 : (bat s i).toNat = 38 ∨ (bat s i).toNat = 96
          · have HT := Lib.hid ((if_pos h38).symm.trans HT1.out)
            have hge := hK.cell (hE 107 1 (by decide)) (fun e => hgr 107 1 (by decide) e)
            have hne := hgr 107 1 (by decide)
            have l1 := hB1.lt
            have l2 := hB2.lt
            have l3 := hR.here.lt
            have l4 := block_lt_of_cell hge
            have l5 : 1 < w.heap.size := block_lt_of_cell (hE 107 1 (by decide))
            have n1 : ¬ w.heap.size = r := by omega
            have n2 : ¬ r = w.heap.size := by omega
            have n3 : ¬ w.heap.size = 1 := by omega
            have n4 : ¬ 1 = w.heap.size := by omega
            have c1 := hR.c1
            have HB38 := Lib.hid h38
            clear HT1
            have tc0 := hB1.cell 0 rfl
            have tc1 := hB1.cell 1 rfl
            have tc2 := hB1.cell 2 rfl
            have tc3 := hB1.cell 3 rfl
            have tc4 := hB1.cell 4 rfl
            have tf0 := hB1.free 0
            have tf1 := hB1.free 1
            have tf2 := hB1.free 2
            have tf3 := hB1.free 3
            have tf4 := hB1.free 4
            by_cases h38b : (bat s i).toNat = 38
            · have d1 : (((bat s i).toNat : Int) == 38) = true := by rw [beq_iff_eq]; omega
              clear h38 h38b
              go_wp2_with fail
              go_region_held3 (fun w' => w'.cell? ⟨r, 1, none⟩ = some (.int .i64 (i : Int)) ∧ w'.cell? ⟨1, 0, none⟩ = some (.iface 151 (.pointer (some (sent 107))))) (first | go_keep)
                (first
                  | (go_at_call 64; refine (xFault_any _ _ _ _).mono ?_; rintro e w5 ⟨rfl, rfl⟩))
              go_wp2_with fail
              (try simp only [Exit.inBlock, Exit.then])
              refine bodyPost_ret (results_blk (p := 2) (u := 3) (g := w.heap.size) (cs := [.int .i64 0, .int .i64 0, .int .i64 0, .string ⟨#[]⟩, .bool false]) rfl _ _ _ rfl ?_ Tryd.underlying29 rfl (by kernel_rfl)) rfl (hbad.out _ _ wr.heap.size _ HT.out.symm ?_ ?_)
              · apply Blk.as
                repeat (first | (with_reducible assumption) | ((with_reducible apply Blk.newAt); (focus (simp; done))) | (with_reducible apply Blk.set) | ((with_reducible apply Blk.other); (case hp => first | omega | (simp; omega) | simp)) | (with_reducible apply Blk.alloc) | (with_reducible apply Blk.drewN) | (with_reducible apply Blk.drew))
                rfl
              · unfold ErrAt
                apply Blk.as
                repeat (first | (with_reducible assumption) | ((with_reducible apply Blk.newAt); (focus (simp; done))) | (with_reducible apply Blk.set) | ((with_reducible apply Blk.other); (case hp => first | omega | (simp; omega) | simp)) | (with_reducible apply Blk.alloc) | (with_reducible apply Blk.drewN) | (with_reducible apply Blk.drew))
                rfl
              · repeat (first | (with_reducible assumption) | (with_reducible exact Kept.refl _ _) | ((with_reducible refine Kept.setCell ?_ ?_ _); rotate_left; (focus (first | exact fun _ => rfl | exact fun h => absurd h (by first | omega | (simp; omega) | simp)))) | (with_reducible refine Kept.alloc ?_ _) | (with_reducible refine Kept.drewN ?_ _) | (with_reducible refine Kept.drew ?_))
            · have d1 : (((bat s i).toNat : Int) == 38) = false := by rw [beq_eq_false_iff_ne]; omega
              have d2 : (((bat s i).toNat : Int) == 96) = true := by rw [beq_iff_eq]; omega
              clear h38 h38b
              go_wp2_with fail
              go_region_held3 (fun w' => w'.cell? ⟨r, 1, none⟩ = some (.int .i64 (i : Int)) ∧ w'.cell? ⟨1, 0, none⟩ = some (.iface 151 (.pointer (some (sent 107))))) (first | go_keep)
                (first
                  | (go_at_call 64; refine (xFault_any _ _ _ _).mono ?_; rintro e w5 ⟨rfl, rfl⟩))
              go_wp2_with fail
              (try simp only [Exit.inBlock, Exit.then])
              refine bodyPost_ret (results_blk (p := 2) (u := 3) (g := w.heap.size) (cs := [.int .i64 0, .int .i64 0, .int .i64 0, .string ⟨#[]⟩, .bool false]) rfl _ _ _ rfl ?_ Tryd.underlying29 rfl (by kernel_rfl)) rfl (hbad.out _ _ wr.heap.size _ HT.out.symm ?_ ?_)
              · apply Blk.as
                repeat (first | (with_reducible assumption) | ((with_reducible apply Blk.newAt); (focus (simp; done))) | (with_reducible apply Blk.set) | ((with_reducible apply Blk.other); (case hp => first | omega | (simp; omega) | simp)) | (with_reducible apply Blk.alloc) | (with_reducible apply Blk.drewN) | (with_reducible apply Blk.drew))
                rfl
              · unfold ErrAt
                apply Blk.as
                repeat (first | (with_reducible assumption) | ((with_reducible apply Blk.newAt); (focus (simp; done))) | (with_reducible apply Blk.set) | ((with_reducible apply Blk.other); (case hp => first | omega | (simp; omega) | simp)) | (with_reducible apply Blk.alloc) | (with_reducible apply Blk.drewN) | (with_reducible apply Blk.drew))
                rfl
              · repeat (first | (with_reducible assumption) | (with_reducible exact Kept.refl _ _) | ((with_reducible refine Kept.setCell ?_ ?_ _); rotate_left; (focus (first | exact fun _ => rfl | exact fun h => absurd h (by first | omega | (simp; omega) | simp)))) | (with_reducible refine Kept.alloc ?_ _) | (with_reducible refine Kept.drewN ?_ _) | (with_reducible refine Kept.drew ?_))
          · have HT2 := Lib.hid ((if_neg h38).symm.trans HT1.out)
            have d1 : (((bat s i).toNat : Int) == 38) = false := by rw [beq_eq_false_iff_ne]; omega
            have d2 : (((bat s i).toNat : Int) == 96) = false := by rw [beq_eq_false_iff_ne]; omega
            clear HT1 h38
            by_cases h39 : (bat s i).toNat = 39
            · have HT := Lib.hid ((if_pos h39).symm.trans HT2.out)
              have d3 : (((bat s i).toNat : Int) == 39) = true := by rw [beq_iff_eq]; omega
              clear HT2 h39
              have l1 := hB1.lt
              have l2 := hB2.lt
              have l3 := hR.here.lt
              have tc0 := hB1.cell 0 rfl
              have tc1 := hB1.cell 1 rfl
              have tc2 := hB1.cell 2 rfl
              have tc3 := hB1.cell 3 rfl
              have tc4 := hB1.cell 4 rfl
              have tf0 := hB1.free 0
              have tf1 := hB1.free 1
              have tf2 := hB1.free 2
              have tf3 := hB1.free 3
              have tf4 := hB1.free 4
              have uc0 := hB2.cell 0 rfl
              have uc1 := hB2.cell 1 rfl
              have uc2 := hB2.cell 2 rfl
              have uc3 := hB2.cell 3 rfl
              have uc4 := hB2.cell 4 rfl
              have uf0 := hB2.free 0
              have uf1 := hB2.free 1
              have uf2 := hB2.free 2
              have uf3 := hB2.free 3
              have uf4 := hB2.free 4
              go_wp2_with fail
              refine xDead_any r q s i i wr hs hlt hR _ _ (hK.cell (hE 103 2 (by decide)) (fun e => hgr 103 2 (by decide) e)) (hgr 103 2 (by decide)) _ _ (Lib.hid rfl) (Lib.hid fun x n w5 hx hR5 hK5 => ?_) (Lib.hid fun hx b5 w5 hE5 hK5 => ?_)
              · obtain ⟨m, hm, hn⟩ := deadAt_some hx
                have HG := Lib.hid (hgood.out ⟨19, i, 0, x, false⟩ (m + 1) · (by rw [← HT.out, hm]))
                have HN := Lib.hid hn
                clear hx hm hn
                have hB5 := hB1.kept hK5 (fun e => Nat.ne_of_gt hr e)
                have hK6 := hK.same hK5
                clear tc0 tc1 tc2 tc3 tc4 tf0 tf1 tf2 tf3 tf4 uc0 uc1 uc2 uc3 uc4 uf0 uf1 uf2 uf3 uf4
                have tc0 := hB5.cell 0 rfl
                have tc1 := hB5.cell 1 rfl
                have tc2 := hB5.cell 2 rfl
                have tc3 := hB5.cell 3 rfl
                have tc4 := hB5.cell 4 rfl
                have tf0 := hB5.free 0
                have tf1 := hB5.free 1
                have tf2 := hB5.free 2
                have tf3 := hB5.free 3
                have tf4 := hB5.free 4
                try simp only []
                go_wp2_with fail
                (try simp only [Exit.inBlock, Exit.then])
                refine bodyPost_ret (results_blk (p := 2) (u := 3) (g := w.heap.size) (cs := [.int .i64 19, .int .i64 i, .int .i64 0, .string (bs x), .bool false]) rfl _ _ _ rfl ?_ Tryd.underlying29 rfl (by kernel_rfl)) rfl (HG.out _ ?_ ?_)
                · apply Blk.as
                  repeat (first | (with_reducible assumption) | ((with_reducible apply Blk.newAt); (focus (simp; done))) | (with_reducible apply Blk.set) | ((with_reducible apply Blk.other); (case hp => first | omega | (simp; omega) | simp)) | (with_reducible apply Blk.alloc) | (with_reducible apply Blk.drewN) | (with_reducible apply Blk.drew))
                  rfl
                · rw [← HN.out]
                  repeat (first | (with_reducible assumption) | ((with_reducible refine Rdr.moveTo ?_ ?_); rotate_left; (focus go_num)) | (with_reducible exact RdrAny.of (by assumption)) | ((with_reducible refine RdrAny.other ?_ ?_ ?_ _); rotate_left; (focus (first | omega | (simp; omega) | simp)); (focus (first | omega | (simp; omega) | simp))) | (with_reducible refine RdrAny.move ?_ _) | (with_reducible refine RdrAny.alloc ?_ _) | ((with_reducible refine Rdr.other ?_ ?_ ?_ _); rotate_left; (focus (first | omega | (simp; omega) | simp)); (focus (first | omega | (simp; omega) | simp))) | (with_reducible refine Rdr.alloc ?_ _) | (with_reducible refine Rdr.drewN ?_ _) | (with_reducible refine Rdr.drew ?_))
                · repeat (first | (with_reducible assumption) | (with_reducible exact Kept.refl _ _) | ((with_reducible refine Kept.setCell ?_ ?_ _); rotate_left; (focus (first | exact fun _ => rfl | exact fun h => absurd h (by first | omega | (simp; omega) | simp)))) | (with_reducible refine Kept.alloc ?_ _) | (with_reducible refine Kept.drewN ?_ _) | (with_reducible refine Kept.drew ?_))
              · have hm := deadAt_none hx
                have HG := Lib.hid (hbad.out 103 i b5 · (by rw [← HT.out, hm]))
                clear hx hm
                have hB5 := hB1.kept hK5 (fun e => Nat.ne_of_gt hr e)
                have hK6 := hK.same hK5
                clear tc0 tc1 tc2 tc3 tc4 tf0 tf1 tf2 tf3 tf4 uc0 uc1 uc2 uc3 uc4 uf0 uf1 uf2 uf3 uf4
                have tc0 := hB5.cell 0 rfl
                have tc1 := hB5.cell 1 rfl
                have tc2 := hB5.cell 2 rfl
                have tc3 := hB5.cell 3 rfl
                have tc4 := hB5.cell 4 rfl
                have tf0 := hB5.free 0
                have tf1 := hB5.free 1
                have tf2 := hB5.free 2
                have tf3 := hB5.free 3
                have tf4 := hB5.free 4
                try simp only []
                go_wp2_with fail
                (try simp only [Exit.inBlock, Exit.then])
                have nb := Blk.apart hE5 hB5 (by simp)
                refine bodyPost_ret (results_blk (p := 2) (u := 3) (g := w.heap.size) (cs := [.int .i64 0, .int .i64 0, .int .i64 0, .string ⟨#[]⟩, .bool false]) rfl _ _ _ rfl ?_ Tryd.underlying29 rfl (by kernel_rfl)) rfl (HG.out _ ?_ ?_)
                · apply Blk.as
                  repeat (first | (with_reducible assumption) | ((with_reducible apply Blk.newAt); (focus (simp; done))) | (with_reducible apply Blk.set) | ((with_reducible apply Blk.other); (case hp => first | omega | (simp; omega) | simp)) | (with_reducible apply Blk.alloc) | (with_reducible apply Blk.drewN) | (with_reducible apply Blk.drew))
                  rfl
                · unfold ErrAt
                  apply Blk.as
                  repeat (first | (with_reducible assumption) | ((with_reducible apply Blk.newAt); (focus (simp; done))) | (with_reducible apply Blk.set) | ((with_reducible apply Blk.other); (case hp => first | omega | (simp; omega) | simp)) | (with_reducible apply Blk.alloc) | (with_reducible apply Blk.drewN) | (with_reducible apply Blk.drew))
                  rfl
                · repeat (first | (with_reducible assumption) | (with_reducible exact Kept.refl _ _) | ((with_reducible refine Kept.setCell ?_ ?_ _); rotate_left; (focus (first | exact fun _ => rfl | exact fun h => absurd h (by first | omega | (simp; omega) | simp)))) | (with_reducible refine Kept.alloc ?_ _) | (with_reducible refine Kept.drewN ?_ _) | (with_reducible refine Kept.drew ?_))
            · have HT3 := Lib.hid ((if_neg h39).symm.trans HT2.out)
              have d3 : (((bat s i).toNat : Int) == 39) = false := by rw [beq_eq_false_iff_ne]; omega
              clear HT2 h39
              by_cases h36 : (bat s i).toNat = 36
              · have HT := Lib.hid ((if_pos h36).symm.trans HT3.out)
                have d4 : (((bat s i).toNat : Int) == 36) = true := by rw [beq_iff_eq]; omega
                clear HT3 h36
                have l1 := hB1.lt
                have l2 := hB2.lt
                have l3 := hR.here.lt
                have tc0 := hB1.cell 0 rfl
                have tc1 := hB1.cell 1 rfl
                have tc2 := hB1.cell 2 rfl
                have tc3 := hB1.cell 3 rfl
                have tc4 := hB1.cell 4 rfl
                have tf0 := hB1.free 0
                have tf1 := hB1.free 1
                have tf2 := hB1.free 2
                have tf3 := hB1.free 3
                have tf4 := hB1.free 4
                have uc0 := hB2.cell 0 rfl
                have uc1 := hB2.cell 1 rfl
                have uc2 := hB2.cell 2 rfl
                have uc3 := hB2.cell 3 rfl
                have uc4 := hB2.cell 4 rfl
                have uf0 := hB2.free 0
                have uf1 := hB2.free 1
                have uf2 := hB2.free 2
                have uf3 := hB2.free 3
                have uf4 := hB2.free 4
                by_cases hnum : i + 1 < s.size ∧ 49 ≤ (bat s (i + 1)).toNat ∧ (bat s (i + 1)).toNat ≤ 57
                · obtain ⟨hn0, hn1, hn2⟩ := hnum
                  have HG := Lib.hid (hgood.out ⟨23, i, (bat s (i + 1)).toNat - 48, [], false⟩ 2 · (by rw [← HT.out, dollar_num s i hn0 hn1 hn2]))
                  go_wp2_with fail
                  refine (xDollar_num r q s i i wr hs hn0 hR hn1 hn2).mono ?_
                  rintro e w5 ⟨rfl, hR5, hK5⟩
                  clear hn1 hn2
                  have hB5 := hB1.kept hK5 (fun e => Nat.ne_of_gt hr e)
                  have hK6 := hK.same hK5
                  clear tc0 tc1 tc2 tc3 tc4 tf0 tf1 tf2 tf3 tf4 uc0 uc1 uc2 uc3 uc4 uf0 uf1 uf2 uf3 uf4
                  have tc0 := hB5.cell 0 rfl
                  have tc1 := hB5.cell 1 rfl
                  have tc2 := hB5.cell 2 rfl
                  have tc3 := hB5.cell 3 rfl
                  have tc4 := hB5.cell 4 rfl
                  have tf0 := hB5.free 0
                  have tf1 := hB5.free 1
                  have tf2 := hB5.free 2
                  have tf3 := hB5.free 3
                  have tf4 := hB5.free 4
                  try simp only []
                  go_wp2_with fail
                  (try simp only [Exit.inBlock, Exit.then])
                  refine bodyPost_ret (results_blk (p := 2) (u := 3) (g := w.heap.size) (cs := [.int .i64 23, .int .i64 i, .int .i64 (((bat s (i + 1)).toNat - 48 : Nat) : Int), .string ⟨#[]⟩, .bool false]) rfl _ _ _ rfl ?_ Tryd.underlying29 rfl (by kernel_rfl)) rfl (HG.out _ ?_ ?_)
                  · apply Blk.as
                    repeat (first | (with_reducible assumption) | ((with_reducible apply Blk.newAt); (focus (simp; done))) | (with_reducible apply Blk.set) | ((with_reducible apply Blk.other); (case hp => first | omega | (simp; omega) | simp)) | (with_reducible apply Blk.alloc) | (with_reducible apply Blk.drewN) | (with_reducible apply Blk.drew))
                    rfl
                  · repeat (first | (with_reducible assumption) | ((with_reducible refine Rdr.moveTo ?_ ?_); rotate_left; (focus go_num)) | (with_reducible exact RdrAny.of (by assumption)) | ((with_reducible refine RdrAny.other ?_ ?_ ?_ _); rotate_left; (focus (first | omega | (simp; omega) | simp)); (focus (first | omega | (simp; omega) | simp))) | (with_reducible refine RdrAny.move ?_ _) | (with_reducible refine RdrAny.alloc ?_ _) | ((with_reducible refine Rdr.other ?_ ?_ ?_ _); rotate_left; (focus (first | omega | (simp; omega) | simp)); (focus (first | omega | (simp; omega) | simp))) | (with_reducible refine Rdr.alloc ?_ _) | (with_reducible refine Rdr.drewN ?_ _) | (with_reducible refine Rdr.drew ?_))
                  · repeat (first | (with_reducible assumption) | (with_reducible exact Kept.refl _ _) | ((with_reducible refine Kept.setCell ?_ ?_ _); rotate_left; (focus (first | exact fun _ => rfl | exact fun h => absurd h (by first | omega | (simp; omega) | simp)))) | (with_reducible refine Kept.alloc ?_ _) | (with_reducible refine Kept.drewN ?_ _) | (with_reducible refine Kept.drew ?_))
                · obtain ⟨c0, hc0⟩ : ∃ c0, (i + 1 < s.size ∧ c0 = (bat s (i + 1)).toNat) ∨ (s.size ≤ i + 1 ∧ c0 = 0) := by
                    by_cases h : i + 1 < s.size
                    · exact ⟨_, .inl ⟨h, rfl⟩⟩
                    · exact ⟨_, .inr ⟨by omega, rfl⟩⟩
                  have hn : ¬ (49 ≤ c0 ∧ c0 ≤ 57) := by
                    rcases hc0 with ⟨h, rfl⟩ | ⟨h, rfl⟩
                    · exact fun e => hnum ⟨h, e⟩
                    · omega
                  have hpb : i + 1 + (if c0 = 35 ∨ c0 = 34 then 1 else 0) ≤ s.size := by
                    rcases hc0 with ⟨h, _⟩ | ⟨h, h0⟩
                    · split <;> omega
                    · rw [if_neg (by omega)]; omega
                  have hdn := dollar_name s i c0 _ _ hc0 hn rfl rfl _ rfl
                  clear hnum
                  have HDN := Lib.hid hdn
                  have HC0 := Lib.hid hc0
                  have HPB := Lib.hid hpb
                  clear hdn hc0 hpb
                  go_wp2_with fail
                  refine xDollar_name r q s i i _ _ c0 wr hs hlt hR _ _ (hK.cell (hE 106 3 (by decide)) (fun e => hgr 106 3 (by decide) e)) (hgr 106 3 (by decide)) HC0 hn (Lib.hid rfl) (Lib.hid rfl) _ (Lib.hid rfl) HPB _ (Lib.hid fun hx w5 hR5 hK5 => ?_) (Lib.hid fun hx b5 w5 hE5 hK5 => ?_)
                  · have HG := Lib.hid (hgood.out ⟨_, i, 0, _, false⟩ _ · (by rw [← HT.out, HDN.out, if_pos hx]))
                    clear hx HDN HC0 HPB hn
                    generalize (if c0 = 35 then 21 else if c0 = 34 then 22 else 20) = kind at *
                    generalize (if c0 = 35 ∨ c0 = 34 then 1 else 0) = pre at *
                    generalize starName (s.data.toList.drop (i + 1 + pre)) = x at *
                    have hB5 := hB1.kept hK5 (fun e => Nat.ne_of_gt hr e)
                    have hK6 := hK.same hK5
                    clear tc0 tc1 tc2 tc3 tc4 tf0 tf1 tf2 tf3 tf4 uc0 uc1 uc2 uc3 uc4 uf0 uf1 uf2 uf3 uf4
                    have tc0 := hB5.cell 0 rfl
                    have tc1 := hB5.cell 1 rfl
                    have tc2 := hB5.cell 2 rfl
                    have tc3 := hB5.cell 3 rfl
                    have tc4 := hB5.cell 4 rfl
                    have tf0 := hB5.free 0
                    have tf1 := hB5.free 1
                    have tf2 := hB5.free 2
                    have tf3 := hB5.free 3
                    have tf4 := hB5.free 4
                    try simp only []
                    go_wp2_with fail
                    (try simp only [Exit.inBlock, Exit.then])
                    refine bodyPost_ret (results_blk (p := 2) (u := 3) (g := w.heap.size) (cs := [.int .i64 kind, .int .i64 i, .int .i64 0, .string (bs x), .bool false]) rfl _ _ _ rfl ?_ Tryd.underlying29 rfl (by kernel_rfl)) rfl (HG.out _ ?_ ?_)
                    · apply Blk.as
                      repeat (first | (with_reducible assumption) | ((with_reducible apply Blk.newAt); (focus (simp; done))) | (with_reducible apply Blk.set) | ((with_reducible apply Blk.other); (case hp => first | omega | (simp; omega) | simp)) | (with_reducible apply Blk.alloc) | (with_reducible apply Blk.drewN) | (with_reducible apply Blk.drew))
                      rfl
                    · rw [show i + (pre + x.length + 1) = i + 1 + pre + x.length from by omega]
                      repeat (first | (with_reducible assumption) | ((with_reducible refine Rdr.moveTo ?_ ?_); rotate_left; (focus go_num)) | (with_reducible exact RdrAny.of (by assumption)) | ((with_reducible refine RdrAny.other ?_ ?_ ?_ _); rotate_left; (focus (first | omega | (simp; omega) | simp)); (focus (first | omega | (simp; omega) | simp))) | (with_reducible refine RdrAny.move ?_ _) | (with_reducible refine RdrAny.alloc ?_ _) | ((with_reducible refine Rdr.other ?_ ?_ ?_ _); rotate_left; (focus (first | omega | (simp; omega) | simp)); (focus (first | omega | (simp; omega) | simp))) | (with_reducible refine Rdr.alloc ?_ _) | (with_reducible refine Rdr.drewN ?_ _) | (with_reducible refine Rdr.drew ?_))
                    · repeat (first | (with_reducible assumption) | (with_reducible exact Kept.refl _ _) | ((with_reducible refine Kept.setCell ?_ ?_ _); rotate_left; (focus (first | exact fun _ => rfl | exact fun h => absurd h (by first | omega | (simp; omega) | simp)))) | (with_reducible refine Kept.alloc ?_ _) | (with_reducible refine Kept.drewN ?_ _) | (with_reducible refine Kept.drew ?_))
                  · have HG := Lib.hid (hbad.out 106 i b5 · (by rw [← HT.out, HDN.out, if_neg hx]))
                    clear hx HDN HC0 HPB hn
                    have hB5 := hB1.kept hK5 (fun e => Nat.ne_of_gt hr e)
                    have hK6 := hK.same hK5
                    clear tc0 tc1 tc2 tc3 tc4 tf0 tf1 tf2 tf3 tf4 uc0 uc1 uc2 uc3 uc4 uf0 uf1 uf2 uf3 uf4
                    have tc0 := hB5.cell 0 rfl
                    have tc1 := hB5.cell 1 rfl
                    have tc2 := hB5.cell 2 rfl
                    have tc3 := hB5.cell 3 rfl
                    have tc4 := hB5.cell 4 rfl
                    have tf0 := hB5.free 0
                    have tf1 := hB5.free 1
                    have tf2 := hB5.free 2
                    have tf3 := hB5.free 3
                    have tf4 := hB5.free 4
                    try simp only []
                    go_wp2_with fail
                    (try simp only [Exit.inBlock, Exit.then])
                    have nb := Blk.apart hE5 hB5 (by simp)
                    refine bodyPost_ret (results_blk (p := 2) (u := 3) (g := w.heap.size) (cs := [.int .i64 0, .int .i64 0, .int .i64 0, .string ⟨#[]⟩, .bool false]) rfl _ _ _ rfl ?_ Tryd.underlying29 rfl (by kernel_rfl)) rfl (HG.out _ ?_ ?_)
                    · apply Blk.as
                      repeat (first | (with_reducible assumption) | ((with_reducible apply Blk.newAt); (focus (simp; done))) | (with_reducible apply Blk.set) | ((with_reducible apply Blk.other); (case hp => first | omega | (simp; omega) | simp)) | (with_reducible apply Blk.alloc) | (with_reducible apply Blk.drewN) | (with_reducible apply Blk.drew))
                      rfl
                    · unfold ErrAt
                      apply Blk.as
                      repeat (first | (with_reducible assumption) | ((with_reducible apply Blk.newAt); (focus (simp; done))) | (with_reducible apply Blk.set) | ((with_reducible apply Blk.other); (case hp => first | omega | (simp; omega) | simp)) | (with_reducible apply Blk.alloc) | (with_reducible apply Blk.drewN) | (with_reducible apply Blk.drew))
                      rfl
                    · repeat (first | (with_reducible assumption) | (with_reducible exact Kept.refl _ _) | ((with_reducible refine Kept.setCell ?_ ?_ _); rotate_left; (focus (first | exact fun _ => rfl | exact fun h => absurd h (by first | omega | (simp; omega) | simp)))) | (with_reducible refine Kept.alloc ?_ _) | (with_reducible refine Kept.drewN ?_ _) | (with_reducible refine Kept.drew ?_))
              · have HT := Lib.hid ((if_neg h36).symm.trans HT3.out)
                have d4 : (((bat s i).toNat : Int) == 36) = false := by rw [beq_eq_false_iff_ne]; omega
                clear HT3 h36
                go_wp2_with fail
                go_loopg [5, 6] (s.size - i) (fun n c x wr => ∃ k : Nat, n = s.size - k ∧ i ≤ k ∧ k ≤ s.size ∧ Rdr wr r q s k ∧ Blk wr w.heap.size [.int .i64 0, .int .i64 0, .int .i64 0, .string ⟨#[]⟩, .bool false] ∧
                  Blk wr (w.heap.size + 1) [.int .i64 0, .int .i64 i, .int .i64 0, .string ⟨#[]⟩, .bool false] ∧ Kept (At r) w wr ∧ Hid (((s.data.toList.drop i).take (k - i)).all (fun c => !endsB c) = true) ∧
                  ((k < s.size ∧ c = .int .u8 (bat s k).toNat ∧ x = .bool true) ∨ (s.size ≤ k ∧ c = .int .u8 0 ∧ x = .bool false)))
                case atStart => exact ⟨i, rfl, Nat.le_refl _, hi, hR, hB1, hB2, hK, Lib.hid (by rw [Nat.sub_self]; rfl), .inl ⟨hlt, rfl, rfl⟩⟩
                case round =>
                  clear hR hB1 hB2 hK d1 d2 d3 d4
                  obtain ⟨k, rfl, hik, hk, hR, hB1, hB2, hK, hall, hcase⟩ := hrel
                  rcases hcase with ⟨hlt, rfl, rfl⟩ | ⟨hge, rfl, rfl⟩
                  · cases hen : endsB (bat s k) with
                    | false =>
                      have HEn := Lib.hid hen
                      have hn := Lib.hid (word_step s i k hik hlt hall.out hen)
                      clear hen
                      have c1 := hR.c1
                      have f1 := hR.f1
                      go_wp2_with (go_at_call 67; refine (xEnds_any _ _).mono ?_; rintro e w' ⟨rfl, rfl⟩; rw [HEn.out])
                      generalize hw2 : wr.setCell ⟨r, 1, none⟩ (.int .i64 (↑k + 1)) = w2
                      have l1 := hB1.lt
                      have hR2 := hR.move (k + 1)
                      have hB12 := hB1.other (p := ⟨r, 1, none⟩) (by simp; omega) (.int .i64 (↑k + 1))
                      have hB22 := hB2.other (p := ⟨r, 1, none⟩) (by simp; omega) (.int .i64 (↑k + 1))
                      have hK2 := hK.setCell (p := ⟨r, 1, none⟩) (fun _ => rfl) (.int .i64 (↑k + 1))
                      rw [show ((k + 1 : Nat) : Int) = (k : Int) + 1 from rfl] at hR2
                      rw [hw2] at hR2 hB12 hB22 hK2
                      clear hw2 hR hB1 hB2 hK c1 f1 l1
                      have g0 := cell_regrown hR2.c0
                      have g1 := cell_regrown hR2.c1
                      have g2 := cell_regrown hR2.cs
                      by_cases hlt2 : k + 1 < s.size
                      · refine wp_region_quiet_below (by kernel_rfl) (by kernel_rfl) ?_
                        repeat (go_big_quiet_step ((go_at_call 27; exact Calls.regrown_of (bByte_in s (k + 1) _ hs hlt2))))
                        refine wpQuiet_nil ?_
                        intro w3 hw'
                        have hb : Below w2.heap.size w2 w3 := below_of_regrown hw'
                        clear hw'
                        clear g0 g1 g2
                        go_wp2_with fail
                        go_roundg (s.size - (k + 1))
                        case measure => omega
                        case rel => exact ⟨k + 1, rfl, by omega, by omega, hR2.below hb, hB12.below hb, hB22.below hb, hK2.andBelow hb, hn, .inl ⟨hlt2, rfl, rfl⟩⟩
                      · refine wp_region_quiet_below (by kernel_rfl) (by kernel_rfl) ?_
                        repeat (go_big_quiet_step ((go_at_call 27; exact Calls.regrown_of (bByte_high s (k + 1) _ hs (by omega)))))
                        refine wpQuiet_nil ?_
                        intro w3 hw'
                        have hb : Below w2.heap.size w2 w3 := below_of_regrown hw'
                        clear hw'
                        clear g0 g1 g2
                        go_wp2_with fail
                        go_roundg (s.size - (k + 1))
                        case measure => omega
                        case rel => exact ⟨k + 1, rfl, by omega, by omega, hR2.below hb, hB12.below hb, hB22.below hb, hK2.andBelow hb, hn, .inr ⟨by omega, rfl, rfl⟩⟩
                    | true =>
                      have HEn := Lib.hid hen
                      have HX := Lib.hid (word_end s i k hik hk hall.out (fun _ => hen))
                      clear hen
                      go_wp2_with (go_at_call 67; refine (xEnds_any _ _).mono ?_; rintro e w' ⟨rfl, rfl⟩; rw [HEn.out])
                      have c0 := hR.c0
                      have c1 := hR.c1
                      have cs := hR.cs
                      have l1 := hB1.lt
                      have l2 := hB2.lt
                      have l3 := hR.here.lt
                      have l4 := hR.src.lt
                      have uc0 := hB2.cell 0 rfl
                      have uc1 := hB2.cell 1 rfl
                      have uc2 := hB2.cell 2 rfl
                      have uc3 := hB2.cell 3 rfl
                      have uc4 := hB2.cell 4 rfl
                      have uf0 := hB2.free 0
                      have uf1 := hB2.free 1
                      have uf2 := hB2.free 2
                      have uf3 := hB2.free 3
                      have uf4 := hB2.free 4
                      have n1 : ¬ r = w.heap.size + 1 := by omega
                      have n2 : ¬ q = w.heap.size + 1 := by omega
                      have n3 : ¬ w.heap.size + 1 = r := by omega
                      have n4 : ¬ w.heap.size + 1 = q := by omega
                      go_region_held3 (fun w' => w'.cell? ⟨r, 0, none⟩ = some (.pointer (some ⟨q, 0, none⟩)) ∧ w'.cell? ⟨r, 1, none⟩ = some (.int .i64 (k : Int)) ∧ w'.cell? ⟨q, 0, none⟩ = some (.string s) ∧ w'.cell? ⟨w.heap.size + 1, 1, none⟩ = some (.int .i64 (i : Int))) (first | (refine ⟨bSome hb5 ?_, bSome hb5 ?_, bSome hb5 ?_, bSome hb5 ?_⟩ <;> simp [*]) | (refine ⟨(World.cell?_setCell_other _ _ _ _ (by simp [*])).trans ?_, (World.cell?_setCell_other _ _ _ _ (by simp [*])).trans ?_, (World.cell?_setCell_other _ _ _ _ (by simp [*])).trans ?_, (World.cell?_setCell_other _ _ _ _ (by simp)).trans ?_⟩ <;> simp [*]) | go_keep)
                        (first
                          | (go_at_call 26; refine (bSlice_any s _ _ _ hs).mono ?_; rintro e w5 ⟨rfl, hb5⟩; have T0 := bSome hb5 (p := ⟨w.heap.size + 1, 0, none⟩) (v := .int .i64 0) (by simp [*]); have T0f := bFree hb5 (p := ⟨w.heap.size + 1, 0, none⟩) (v := .int .i64 0) (by simp [*]) (by simp [*]); have T3 := bSome hb5 (p := ⟨w.heap.size + 1, 3, none⟩) (v := .string ⟨#[]⟩) (by simp [*]); have T3f := bFree hb5 (p := ⟨w.heap.size + 1, 3, none⟩) (v := .string ⟨#[]⟩) (by simp [*]) (by simp [*])))
                      have HG := Lib.hid (hgood.out ⟨18, i, 0, subs s.data.toList i k, false⟩ (k - i) · (by rw [← HT.out, HX.out, subs_length s i k hik hk]))
                      have hR5 := hR.drew.below hb5
                      have hB15 := hB1.drew.below hb5
                      have hB25 := hB2.drew.below hb5
                      have hK5 := hK.drew.andBelow hb5
                      clear c0 c1 cs T0 T0f T3 T3f uc0 uc1 uc2 uc3 uc4 uf0 uf1 uf2 uf3 uf4 hR hB1 hB2 hK hall
                      have tc0 := hB15.cell 0 rfl
                      have tc1 := hB15.cell 1 rfl
                      have tc2 := hB15.cell 2 rfl
                      have tc3 := hB15.cell 3 rfl
                      have tc4 := hB15.cell 4 rfl
                      have tf0 := hB15.free 0
                      have tf1 := hB15.free 1
                      have tf2 := hB15.free 2
                      have tf3 := hB15.free 3
                      have tf4 := hB15.free 4
                      have uc0 := hB25.cell 0 rfl
                      have uc1 := hB25.cell 1 rfl
                      have uc2 := hB25.cell 2 rfl
                      have uc3 := hB25.cell 3 rfl
                      have uc4 := hB25.cell 4 rfl
                      have uf0 := hB25.free 0
                      have uf1 := hB25.free 1
                      have uf2 := hB25.free 2
                      have uf3 := hB25.free 3
                      have uf4 := hB25.free 4
                      go_wp2_with fail
                      (try simp only [Exit.inBlock, Exit.then])
                      refine bodyPost_ret (results_blk (p := 2) (u := 3) (g := w.heap.size) (cs := [.int .i64 18, .int .i64 i, .int .i64 0, .string (bs (subs s.data.toList i k)), .bool false]) rfl _ _ _ rfl ?_ Tryd.underlying29 rfl (by kernel_rfl)) rfl (HG.out _ ?_ ?_)
                      · apply Blk.as
                        repeat (first | (with_reducible assumption) | ((with_reducible apply Blk.newAt); (focus (simp; done))) | (with_reducible apply Blk.set) | ((with_reducible apply Blk.other); (case hp => first | omega | (simp; omega) | simp)) | (with_reducible apply Blk.alloc) | (with_reducible apply Blk.drewN) | (with_reducible apply Blk.drew))
                        rfl
                      · rw [show i + (k - i) = k from by omega]
                        repeat (first | (with_reducible assumption) | ((with_reducible refine Rdr.moveTo ?_ ?_); rotate_left; (focus go_num)) | (with_reducible exact RdrAny.of (by assumption)) | ((with_reducible refine RdrAny.other ?_ ?_ ?_ _); rotate_left; (focus (first | omega | (simp; omega) | simp)); (focus (first | omega | (simp; omega) | simp))) | (with_reducible refine RdrAny.move ?_ _) | (with_reducible refine RdrAny.alloc ?_ _) | ((with_reducible refine Rdr.other ?_ ?_ ?_ _); rotate_left; (focus (first | omega | (simp; omega) | simp)); (focus (first | omega | (simp; omega) | simp))) | (with_reducible refine Rdr.alloc ?_ _) | (with_reducible refine Rdr.drewN ?_ _) | (with_reducible refine Rdr.drew ?_))
                      · repeat (first | (with_reducible assumption) | (with_reducible exact Kept.refl _ _) | ((with_reducible refine Kept.setCell ?_ ?_ _); rotate_left; (focus (first | exact fun _ => rfl | exact fun h => absurd h (by first | omega | (simp; omega) | simp)))) | (with_reducible refine Kept.alloc ?_ _) | (with_reducible refine Kept.drewN ?_ _) | (with_reducible refine Kept.drew ?_))
                  · have HEn : Hid (endsB 0 = endsB 0) := Lib.hid rfl
                    have HX := Lib.hid (word_end s i k hik hk hall.out (fun h => absurd h (by omega)))
                    go_wp2_with (go_at_call 67; refine (xEnds_any _ _).mono ?_; rintro e w' ⟨rfl, rfl⟩; rw [HEn.out])
                    have c0 := hR.c0
                    have c1 := hR.c1
                    have cs := hR.cs
                    have l1 := hB1.lt
                    have l2 := hB2.lt
                    have l3 := hR.here.lt
                    have l4 := hR.src.lt
                    have uc0 := hB2.cell 0 rfl
                    have uc1 := hB2.cell 1 rfl
                    have uc2 := hB2.cell 2 rfl
                    have uc3 := hB2.cell 3 rfl
                    have uc4 := hB2.cell 4 rfl
                    have uf0 := hB2.free 0
                    have uf1 := hB2.free 1
                    have uf2 := hB2.free 2
                    have uf3 := hB2.free 3
                    have uf4 := hB2.free 4
                    have n1 : ¬ r = w.heap.size + 1 := by omega
                    have n2 : ¬ q = w.heap.size + 1 := by omega
                    have n3 : ¬ w.heap.size + 1 = r := by omega
                    have n4 : ¬ w.heap.size + 1 = q := by omega
                    go_region_held3 (fun w' => w'.cell? ⟨r, 0, none⟩ = some (.pointer (some ⟨q, 0, none⟩)) ∧ w'.cell? ⟨r, 1, none⟩ = some (.int .i64 (k : Int)) ∧ w'.cell? ⟨q, 0, none⟩ = some (.string s) ∧ w'.cell? ⟨w.heap.size + 1, 1, none⟩ = some (.int .i64 (i : Int))) (first | (refine ⟨bSome hb5 ?_, bSome hb5 ?_, bSome hb5 ?_, bSome hb5 ?_⟩ <;> simp [*]) | (refine ⟨(World.cell?_setCell_other _ _ _ _ (by simp [*])).trans ?_, (World.cell?_setCell_other _ _ _ _ (by simp [*])).trans ?_, (World.cell?_setCell_other _ _ _ _ (by simp [*])).trans ?_, (World.cell?_setCell_other _ _ _ _ (by simp)).trans ?_⟩ <;> simp [*]) | go_keep)
                      (first
                        | (go_at_call 26; refine (bSlice_any s _ _ _ hs).mono ?_; rintro e w5 ⟨rfl, hb5⟩; have T0 := bSome hb5 (p := ⟨w.heap.size + 1, 0, none⟩) (v := .int .i64 0) (by simp [*]); have T0f := bFree hb5 (p := ⟨w.heap.size + 1, 0, none⟩) (v := .int .i64 0) (by simp [*]) (by simp [*]); have T3 := bSome hb5 (p := ⟨w.heap.size + 1, 3, none⟩) (v := .string ⟨#[]⟩) (by simp [*]); have T3f := bFree hb5 (p := ⟨w.heap.size + 1, 3, none⟩) (v := .string ⟨#[]⟩) (by simp [*]) (by simp [*])))
                    have HG := Lib.hid (hgood.out ⟨18, i, 0, subs s.data.toList i k, false⟩ (k - i) · (by rw [← HT.out, HX.out, subs_length s i k hik hk]))
                    have hR5 := hR.drew.below hb5
                    have hB15 := hB1.drew.below hb5
                    have hB25 := hB2.drew.below hb5
                    have hK5 := hK.drew.andBelow hb5
                    clear c0 c1 cs T0 T0f T3 T3f uc0 uc1 uc2 uc3 uc4 uf0 uf1 uf2 uf3 uf4 hR hB1 hB2 hK hall
                    have tc0 := hB15.cell 0 rfl
                    have tc1 := hB15.cell 1 rfl
                    have tc2 := hB15.cell 2 rfl
                    have tc3 := hB15.cell 3 rfl
                    have tc4 := hB15.cell 4 rfl
                    have tf0 := hB15.free 0
                    have tf1 := hB15.free 1
                    have tf2 := hB15.free 2
                    have tf3 := hB15.free 3
                    have tf4 := hB15.free 4
                    have uc0 := hB25.cell 0 rfl
                    have uc1 := hB25.cell 1 rfl
                    have uc2 := hB25.cell 2 rfl
                    have uc3 := hB25.cell 3 rfl
                    have uc4 := hB25.cell 4 rfl
                    have uf0 := hB25.free 0
                    have uf1 := hB25.free 1
                    have uf2 := hB25.free 2
                    have uf3 := hB25.free 3
                    have uf4 := hB25.free 4
                    go_wp2_with fail
                    (try simp only [Exit.inBlock, Exit.then])
                    refine bodyPost_ret (results_blk (p := 2) (u := 3) (g := w.heap.size) (cs := [.int .i64 18, .int .i64 i, .int .i64 0, .string (bs (subs s.data.toList i k)), .bool false]) rfl _ _ _ rfl ?_ Tryd.underlying29 rfl (by kernel_rfl)) rfl (HG.out _ ?_ ?_)
                    · apply Blk.as
                      repeat (first | (with_reducible assumption) | ((with_reducible apply Blk.newAt); (focus (simp; done))) | (with_reducible apply Blk.set) | ((with_reducible apply Blk.other); (case hp => first | omega | (simp; omega) | simp)) | (with_reducible apply Blk.alloc) | (with_reducible apply Blk.drewN) | (with_reducible apply Blk.drew))
                      rfl
                    · rw [show i + (k - i) = k from by omega]
                      repeat (first | (with_reducible assumption) | ((with_reducible refine Rdr.moveTo ?_ ?_); rotate_left; (focus go_num)) | (with_reducible exact RdrAny.of (by assumption)) | ((with_reducible refine RdrAny.other ?_ ?_ ?_ _); rotate_left; (focus (first | omega | (simp; omega) | simp)); (focus (first | omega | (simp; omega) | simp))) | (with_reducible refine RdrAny.move ?_ _) | (with_reducible refine RdrAny.alloc ?_ _) | ((with_reducible refine Rdr.other ?_ ?_ ?_ _); rotate_left; (focus (first | omega | (simp; omega) | simp)); (focus (first | omega | (simp; omega) | simp))) | (with_reducible refine Rdr.alloc ?_ _) | (with_reducible refine Rdr.drewN ?_ _) | (with_reducible refine Rdr.drew ?_))
                    · repeat (first | (with_reducible assumption) | (with_reducible exact Kept.refl _ _) | ((with_reducible refine Kept.setCell ?_ ?_ _); rotate_left; (focus (first | exact fun _ => rfl | exact fun h => absurd h (by first | omega | (simp; omega) | simp)))) | (with_reducible refine Kept.alloc ?_ _) | (with_reducible refine Kept.drewN ?_ _) | (with_reducible refine Kept.drew ?_))
        · have HT := Lib.hid ((if_pos hbe).symm.trans HT0.out)
          have hbz : 0 < (bs b).size := by
            rw [bs_size]
            cases b with
            | nil => exact absurd rfl hbe
            | cons _ _ => simp
          obtain ⟨e1, e2⟩ := ne_empty _ hbz
          have hbs3 : (bs b).size ≤ 3 := by rw [bs_size]; exact hbl
          have HZ := Lib.hid (bs_size b)
          clear HT0 HB hkd hbl hbe hbz
          have c1 := hR.c1
          have f1 := hR.f1
          have n1 : ¬ r = w.heap.size := by omega
          have n2 : ¬ r = w.heap.size + 1 := by omega
          have tc0 := hB1.cell 0 rfl
          have tc1 := hB1.cell 1 rfl
          have tc2 := hB1.cell 2 rfl
          have tc3 := hB1.cell 3 rfl
          have tc4 := hB1.cell 4 rfl
          have tf0 := hB1.free 0
          have tf1 := hB1.free 1
          have tf2 := hB1.free 2
          have tf3 := hB1.free 3
          have tf4 := hB1.free 4
          have uc0 := hB2.cell 0 rfl
          have uc1 := hB2.cell 1 rfl
          have uc2 := hB2.cell 2 rfl
          have uc3 := hB2.cell 3 rfl
          have uc4 := hB2.cell 4 rfl
          have uf0 := hB2.free 0
          have uf1 := hB2.free 1
          have uf2 := hB2.free 2
          have uf3 := hB2.free 3
          have uf4 := hB2.free 4
          go_wp2_with fail
          (try simp only [Exit.inBlock, Exit.then])
          refine bodyPost_ret (results_blk (p := 2) (u := 3) (g := w.heap.size) (cs := [.int .i64 kd, .int .i64 i, .int .i64 0, .string ⟨#[]⟩, .bool false]) rfl _ _ _ rfl ?_ Tryd.underlying29 rfl (by kernel_rfl)) rfl (hgood.out _ _ _ HT.out.symm ?_ ?_)
          · apply Blk.as
            repeat (first | (with_reducible assumption) | ((with_reducible apply Blk.newAt); (focus (simp; done))) | (with_reducible apply Blk.set) | ((with_reducible apply Blk.other); (case hp => first | omega | (simp; omega) | simp)) | (with_reducible apply Blk.alloc) | (with_reducible apply Blk.drewN) | (with_reducible apply Blk.drew))
            rfl
          · rw [← HZ.out]
            repeat (first | (with_reducible assumption) | ((with_reducible refine Rdr.moveTo ?_ ?_); rotate_left; (focus go_num)) | (with_reducible exact RdrAny.of (by assumption)) | ((with_reducible refine RdrAny.other ?_ ?_ ?_ _); rotate_left; (focus (first | omega | (simp; omega) | simp)); (focus (first | omega | (simp; omega) | simp))) | (with_reducible refine RdrAny.move ?_ _) | (with_reducible refine RdrAny.alloc ?_ _) | ((with_reducible refine Rdr.other ?_ ?_ ?_ _); rotate_left; (focus (first | omega | (simp; omega) | simp)); (focus (first | omega | (simp; omega) | simp))) | (with_reducible refine Rdr.alloc ?_ _) | (with_reducible refine Rdr.drewN ?_ _) | (with_reducible refine Rdr.drew ?_))
          · repeat (first | (with_reducible assumption) | (with_reducible exact Kept.refl _ _) | ((with_reducible refine Kept.setCell ?_ ?_ _); rotate_left; (focus (first | exact fun _ => rfl | exact fun h => absurd h (by first | omega | (simp; omega) | simp)))) | (with_reducible refine Kept.alloc ?_ _) | (with_reducible refine Kept.drewN ?_ _) | (with_reducible refine Kept.drew ?_))
  · refine wp_region_quiet_below (by kernel_rfl) (by kernel_rfl) ?_
    repeat (go_big_quiet_step ((go_at_call 27; exact Calls.regrown_of (bByte_high s i _ hs (by omega)))))
    refine wpQuiet_nil ?_
    intro w2 hw'
    have hb : Below w1.heap.size w1 w2 := below_of_regrown hw'
    clear hw'
    have hR2 := hR1.below hb
    have hB12 := hB1.below hb
    have hB22 := hB2.below hb
    have hK2 := hK1.andBelow hb
    clear hR1 hB1 hB2 hK1 hb g0 g1 g2
    have HT := Lib.hid ((tokenB_nil s i i (by omega)).symm.trans hT.out)
    have tc0 := hB12.cell 0 rfl
    have tc1 := hB12.cell 1 rfl
    have tc2 := hB12.cell 2 rfl
    have tc3 := hB12.cell 3 rfl
    have tc4 := hB12.cell 4 rfl
    have tf0 := hB12.free 0
    have tf1 := hB12.free 1
    have tf2 := hB12.free 2
    have tf3 := hB12.free 3
    have tf4 := hB12.free 4
    have uc0 := hB22.cell 0 rfl
    have uc1 := hB22.cell 1 rfl
    have uc2 := hB22.cell 2 rfl
    have uc3 := hB22.cell 3 rfl
    have uc4 := hB22.cell 4 rfl
    have uf0 := hB22.free 0
    have uf1 := hB22.free 1
    have uf2 := hB22.free 2
    have uf3 := hB22.free 3
    have uf4 := hB22.free 4
    go_wp2_with fail
    (try simp only [Exit.inBlock, Exit.then])
    refine bodyPost_ret (results_blk (p := 2) (u := 3) (g := w.heap.size) (cs := [.int .i64 0, .int .i64 i, .int .i64 0, .string ⟨#[]⟩, .bool false]) rfl _ _ _ rfl ?_ Tryd.underlying29 rfl (by kernel_rfl)) rfl (hgood.out _ _ _ HT.out.symm ?_ ?_)
    · apply Blk.as
      repeat (first | (with_reducible assumption) | ((with_reducible apply Blk.newAt); (focus (simp; done))) | (with_reducible apply Blk.set) | ((with_reducible apply Blk.other); (case hp => first | omega | (simp; omega) | simp)) | (with_reducible apply Blk.alloc) | (with_reducible apply Blk.drewN) | (with_reducible apply Blk.drew))
      rfl
    · rw [Nat.add_zero]
      repeat (first | (with_reducible assumption) | ((with_reducible refine Rdr.moveTo ?_ ?_); rotate_left; (focus go_num)) | (with_reducible exact RdrAny.of (by assumption)) | ((with_reducible refine RdrAny.other ?_ ?_ ?_ _); rotate_left; (focus (first | omega | (simp; omega) | simp)); (focus (first | omega | (simp; omega) | simp))) | (with_reducible refine RdrAny.move ?_ _) | (with_reducible refine RdrAny.alloc ?_ _) | ((with_reducible refine Rdr.other ?_ ?_ ?_ _); rotate_left; (focus (first | omega | (simp; omega) | simp)); (focus (first | omega | (simp; omega) | simp))) | (with_reducible refine Rdr.alloc ?_ _) | (with_reducible refine Rdr.drewN ?_ _) | (with_reducible refine Rdr.drew ?_))
    · repeat (first | (with_reducible assumption) | (with_reducible exact Kept.refl _ _) | ((with_reducible refine Kept.setCell ?_ ?_ _); rotate_left; (focus (first | exact fun _ => rfl | exact fun h => absurd h (by first | omega | (simp; omega) | simp)))) | (with_reducible refine Kept.alloc ?_ _) | (with_reducible refine Kept.drewN ?_ _) | (with_reducible refine Kept.drew ?_))

end Go.Proofs.YtdadgodjjfgmfaaDoor
