/- Dialect B's reader: what begins with a dollar. -/
import Derived.Test.YtdadgodjjfgmfaaDoorBlex2
import Derived.Deep.RegionHeld3
import Derived.Deep.DeepCutAuto
namespace Go.Proofs.YtdadgodjjfgmfaaDoor
open Go Go.RowKit

theorem lib_drop (s : ByteArray) (k : Nat) : s.data.toList.drop k = if k < s.size then bat s k :: s.data.toList.drop (k + 1) else [] := by
  split
  · rename_i h; exact drop_bat s k h
  · rename_i h; exact List.drop_eq_nil_of_le (by rw [size_eq]; omega)

set_option maxHeartbeats 1000000 in
/-- A number. -/
theorem xDollar_num (r q : Nat) (s : ByteArray) (i p : Nat) (w : World) (hs : s.size ≤ 1000000) (hi : i + 1 < s.size) (hR : Rdr w r q s i) (h1 : 49 ≤ (bat s (i + 1)).toNat) (h2 : (bat s (i + 1)).toNat ≤ 57) :
    Calls Tryd.prog 66 #[.pointer (some ⟨r, 0, none⟩), .agg #[.int .i64 0, .int .i64 p, .int .i64 0, .string ⟨#[]⟩, .bool false]] w fun e w' => 
      e = .returned (.tuple #[.agg #[.int .i64 23, .int .i64 p, .int .i64 (((bat s (i + 1)).toNat - 48 : Nat) : Int), .string ⟨#[]⟩, .bool false], .nilIface]) ∧ Rdr w' r q s (i + 2) ∧ Kept (At r) w w' := by
  have hr := hR.here.lt
  have hq := hR.src.lt
  have c0 := hR.c0
  have c1 := hR.c1
  have cs := hR.cs
  have f1 := hR.f1
  have c3 := bat_lt s (i + 1)
  go_enter Tryd.func66, Tryd.ntmps66
  go_wp2_with fail
  refine wp_world (fun w1 => Rdr w1 r q s (i + 1) ∧ Blk w1 w.heap.size [.int .i64 20, .int .i64 p, .int .i64 0, .string ⟨#[]⟩, .bool false] ∧ Blk w1 (w.heap.size + 1) [.int .i64 0, .int .i64 0, .int .i64 0, .string ⟨#[]⟩, .bool false] ∧ Kept (At r) w w1) 
    ⟨((hR.move (i + 1)).alloc _).alloc _, (Blk.newAt _ _ (by simp)).alloc _, Blk.newAt _ _ (by simp), (((Kept.refl (At r) w).setCell (p := ⟨r, 1, none⟩) (fun _ => rfl) _).alloc _).alloc _⟩ ?_
  intro w1 ⟨hR1, hB3, hB4, hK1⟩
  clear c0 c1 cs f1
  have g0 := cell_regrown hR1.c0
  have g1 := cell_regrown hR1.c1
  have g2 := cell_regrown hR1.cs
  refine wp_region_quiet_below (by kernel_rfl) (by kernel_rfl) ?_
  repeat (go_big_quiet_step ((go_at_call 27; exact Calls.regrown_of (bByte_in s (i + 1) _ hs hi))))
  refine wpQuiet_nil ?_
  intro w2 hw'
  have hb : Below w1.heap.size w1 w2 := below_of_regrown hw'
  clear hw' g0 g1 g2
  have hR2 := hR1.below hb
  have hB32 := hB3.below hb
  have hB42 := hB4.below hb
  have hK2 := hK1.andBelow hb
  clear hR1 hB3 hB4 hK1 hb
  have c0 := hR2.c0
  have c1 := hR2.c1
  have f1 := hR2.f1
  have n1 : ¬ r = w.heap.size := by omega
  have tc0 := hB32.cell 0 rfl
  have tc1 := hB32.cell 1 rfl
  have tc2 := hB32.cell 2 rfl
  have tc3 := hB32.cell 3 rfl
  have tc4 := hB32.cell 4 rfl
  have tf0 := hB32.free 0
  have tf1 := hB32.free 1
  have tf2 := hB32.free 2
  have tf3 := hB32.free 3
  have tf4 := hB32.free 4
  have uc0 := hB42.cell 0 rfl
  have uc1 := hB42.cell 1 rfl
  have uc2 := hB42.cell 2 rfl
  have uc3 := hB42.cell 3 rfl
  have uc4 := hB42.cell 4 rfl
  have uf0 := hB42.free 0
  have uf1 := hB42.free 1
  have uf2 := hB42.free 2
  have uf3 := hB42.free 3
  have uf4 := hB42.free 4
  go_wp2_with fail
  (try simp only [Exit.inBlock, Exit.then])
  refine bodyPost_ret (results_blk (g := w.heap.size + 1) (cs := [.int .i64 23, .int .i64 p, .int .i64 ((bat s (i + 1)).toNat - 48), .string ⟨#[]⟩, .bool false]) rfl _ _ _ rfl ?hB Tryd.underlying29 rfl ?hi) rfl ⟨?he, ?hr, ?hk⟩
  case hB => 
    apply Blk.as
    repeat (first | (with_reducible assumption) | ((with_reducible apply Blk.newAt); (focus (simp; done))) | (with_reducible apply Blk.set) | ((with_reducible apply Blk.other); (case hp => first | omega | (simp; omega) | simp)) | (with_reducible apply Blk.alloc) | (with_reducible apply Blk.drewN) | (with_reducible apply Blk.drew))
    rfl
  case hi => kernel_rfl
  case he => simp; omega
  case hr => 
    repeat (first | (with_reducible assumption) | ((with_reducible refine Rdr.moveTo ?_ ?_); rotate_left; (focus go_num)) | (with_reducible exact RdrAny.of (by assumption)) | ((with_reducible refine RdrAny.other ?_ ?_ ?_ _); rotate_left; (focus (first | omega | (simp; omega) | simp)); (focus (first | omega | (simp; omega) | simp))) | (with_reducible refine RdrAny.move ?_ _) | (with_reducible refine RdrAny.alloc ?_ _) | ((with_reducible refine Rdr.other ?_ ?_ ?_ _); rotate_left; (focus (first | omega | (simp; omega) | simp)); (focus (first | omega | (simp; omega) | simp))) | (with_reducible refine Rdr.alloc ?_ _) | (with_reducible refine Rdr.drewN ?_ _) | (with_reducible refine Rdr.drew ?_))
  case hk => 
    repeat (first | (with_reducible assumption) | (with_reducible exact Kept.refl _ _) | ((with_reducible refine Kept.setCell ?_ ?_ _); rotate_left; (focus (first | exact fun _ => rfl | exact fun h => absurd h (by first | omega | (simp; omega) | simp)))) | (with_reducible refine Kept.alloc ?_ _) | (with_reducible refine Kept.drewN ?_ _) | (with_reducible refine Kept.drew ?_))

theorem runName_ne (l : List UInt8) : ¬ runName l = [42] := by
  cases l with
  | nil => simp [runName]
  | cons c l =>
    rw [show runName (c :: l) = if isBegin c then (c :: l).takeWhile isGo else [] from rfl]
    split
    · rename_i hb
      intro e
      have hg : isGo c = true := by rw [isGo, hb]; rfl
      rw [List.takeWhile_cons_of_pos hg] at e
      injection e with e1 _
      subst e1
      revert hb
      decide
    · intro e; cases e
set_option maxHeartbeats 2000000 in
set_option maxRecDepth 100000 in
theorem xDollar_name (r q : Nat) (s : ByteArray) (i p kind pre c0 : Nat) (w : World) (hs : s.size ≤ 1000000) (hi : i < s.size) (hR : Rdr w r q s i) (ev : Addr) (te : TypeId) (hev : w.cell? ⟨3, 0, none⟩ = some (.iface te (.pointer (some ev)))) (hgr : 3 ≠ r)
    (hc0 : Hid ((i + 1 < s.size ∧ c0 = (bat s (i + 1)).toNat) ∨ (s.size ≤ i + 1 ∧ c0 = 0))) (hnum : ¬ (49 ≤ c0 ∧ c0 ≤ 57))
    (hkind : Hid (kind = if c0 = 35 then 21 else if c0 = 34 then 22 else 20)) (hpre : Hid (pre = if c0 = 35 ∨ c0 = 34 then 1 else 0)) (x : List UInt8) (hx : Hid (x = starName (s.data.toList.drop (i + 1 + pre)))) (hpb : Hid (i + 1 + pre ≤ s.size)) (R : Ending → World → Prop)
    (hgood : Hid ((x = [42] ∨ nameB x = true) → ∀ w', Rdr w' r q s (i + 1 + pre + x.length) → Kept (At r) w w' → R (.returned (.tuple #[.agg #[.int .i64 kind, .int .i64 p, .int .i64 0, .string (bs x), .bool false], .nilIface])) w'))
    (hbad : Hid (¬ (x = [42] ∨ nameB x = true) → ∀ b w', Blk w' b [.int .i64 p, .iface te (.pointer (some ev))] → Kept (At r) w w' → R (.returned (.tuple #[.agg #[.int .i64 0, .int .i64 0, .int .i64 0, .string ⟨#[]⟩, .bool false], .iface 102 (.pointer (some ⟨b, 0, none⟩))])) w')) :
    Calls Tryd.prog 66 #[.pointer (some ⟨r, 0, none⟩), .agg #[.int .i64 0, .int .i64 p, .int .i64 0, .string ⟨#[]⟩, .bool false]] w R := by
  have hr := hR.here.lt
  have hq := hR.src.lt
  have hgl := block_lt_of_cell hev
  go_enter Tryd.func66, Tryd.ntmps66
  have c0 := hR.c0
  have c1 := hR.c1
  have cs := hR.cs
  have f1 := hR.f1
  go_wp2_with fail
  refine wp_world (fun w1 => Rdr w1 r q s (i + 1) ∧ Blk w1 w.heap.size [.int .i64 20, .int .i64 p, .int .i64 0, .string ⟨#[]⟩, .bool false] ∧ Blk w1 (w.heap.size + 1) [.int .i64 0, .int .i64 0, .int .i64 0, .string ⟨#[]⟩, .bool false] ∧ Kept (At r) w w1) 
    ⟨((hR.move (i + 1)).alloc _).alloc _, (Blk.newAt _ _ (by simp)).alloc _, Blk.newAt _ _ (by simp), (((Kept.refl (At r) w).setCell (p := ⟨r, 1, none⟩) (fun _ => rfl) _).alloc _).alloc _⟩ ?_
  intro w1 ⟨hR1, hB3, hB4, hK1⟩
  clear c0 c1 cs f1
  go_upto_block 0 with fail
  go_cut [6, 7] (fun s6 s7 w2 => s6 = .int .u8 c0 ∧ Rdr w2 r q s (i + 1) ∧ Blk w2 w.heap.size [.int .i64 20, .int .i64 p, .int .i64 0, .string ⟨#[]⟩, .bool false] ∧ Blk w2 (w.heap.size + 1) [.int .i64 0, .int .i64 0, .int .i64 0, .string ⟨#[]⟩, .bool false] ∧ Kept (At r) w w2)
  case first =>
    have g0 := cell_regrown hR1.c0
    have g1 := cell_regrown hR1.c1
    have g2 := cell_regrown hR1.cs
    rcases hc0.out with ⟨hlt, hce⟩ | ⟨hge, hce⟩
    · have HC := Lib.hid hce
      clear hce
      refine wp_region_quiet_below (by kernel_rfl) (by kernel_rfl) ?_
      repeat (go_big_quiet_step ((go_at_call 27; exact Calls.regrown_of (bByte_in s (i + 1) _ hs hlt))))
      refine wpQuiet_nil ?_
      intro w2 hw'
      have hb : Below w1.heap.size w1 w2 := below_of_regrown hw'
      clear hw'
      clear g0 g1 g2
      go_wp2_with fail
      go_meet
      case rel => exact ⟨by rw [HC.out], hR1.below hb, hB3.below hb, hB4.below hb, hK1.andBelow hb⟩
    · have HC := Lib.hid hce
      clear hce
      refine wp_region_quiet_below (by kernel_rfl) (by kernel_rfl) ?_
      repeat (go_big_quiet_step ((go_at_call 27; exact Calls.regrown_of (bByte_high s (i + 1) _ hs (by omega)))))
      refine wpQuiet_nil ?_
      intro w2 hw'
      have hb : Below w1.heap.size w1 w2 := below_of_regrown hw'
      clear hw'
      clear g0 g1 g2
      go_wp2_with fail
      go_meet
      case rel => exact ⟨by rw [HC.out]; rfl, hR1.below hb, hB3.below hb, hB4.below hb, hK1.andBelow hb⟩
  case rest =>
    obtain ⟨rfl, hR2, hB32, hB42, hK2⟩ := hcut
    clear hR1 hB3 hB4 hK1
    have c1 := hR2.c1
    have f1 := hR2.f1
    have n1 : ¬ r = w.heap.size := by omega
    have tc0 := hB32.cell 0 rfl
    have tc1 := hB32.cell 1 rfl
    have tc2 := hB32.cell 2 rfl
    have tc3 := hB32.cell 3 rfl
    have tc4 := hB32.cell 4 rfl
    have tf0 := hB32.free 0
    have tf1 := hB32.free 1
    have tf2 := hB32.free 2
    have tf3 := hB32.free 3
    have tf4 := hB32.free 4
    go_upto_block 0 with fail
    go_cut [] (fun w3 => Rdr w3 r q s (i + 1 + pre) ∧ Blk w3 w.heap.size [.int .i64 kind, .int .i64 p, .int .i64 0, .string ⟨#[]⟩, .bool false] ∧ Blk w3 (w.heap.size + 1) [.int .i64 0, .int .i64 0, .int .i64 0, .string ⟨#[]⟩, .bool false] ∧ Kept (At r) w w3)
    case first =>
      by_cases h35 : c0 = 35
      · have HK : Hid (kind = 21) := Lib.hid (by rw [hkind.out, if_pos h35])
        have HP : Hid (pre = 1) := Lib.hid (by rw [hpre.out, if_pos (Or.inl h35)])
        subst h35
        clear hc0 hnum hkind hpre
        go_wp2_with fail
        go_meet
        case rel =>
          rw [HK.out, HP.out]
          refine ⟨?_, ?_, ?_, ?_⟩
          · repeat (first | (with_reducible assumption) | ((with_reducible refine Rdr.moveTo ?_ ?_); rotate_left; (focus go_num)) | (with_reducible exact RdrAny.of (by assumption)) | ((with_reducible refine RdrAny.other ?_ ?_ ?_ _); rotate_left; (focus (first | omega | (simp; omega) | simp)); (focus (first | omega | (simp; omega) | simp))) | (with_reducible refine RdrAny.move ?_ _) | (with_reducible refine RdrAny.alloc ?_ _) | ((with_reducible refine Rdr.other ?_ ?_ ?_ _); rotate_left; (focus (first | omega | (simp; omega) | simp)); (focus (first | omega | (simp; omega) | simp))) | (with_reducible refine Rdr.alloc ?_ _) | (with_reducible refine Rdr.drewN ?_ _) | (with_reducible refine Rdr.drew ?_))
          · apply Blk.as
            repeat (first | (with_reducible assumption) | ((with_reducible apply Blk.newAt); (focus (simp; done))) | (with_reducible apply Blk.set) | ((with_reducible apply Blk.other); (case hp => first | omega | (simp; omega) | simp)) | (with_reducible apply Blk.alloc) | (with_reducible apply Blk.drewN) | (with_reducible apply Blk.drew))
            rfl
          · apply Blk.as
            repeat (first | (with_reducible assumption) | ((with_reducible apply Blk.newAt); (focus (simp; done))) | (with_reducible apply Blk.set) | ((with_reducible apply Blk.other); (case hp => first | omega | (simp; omega) | simp)) | (with_reducible apply Blk.alloc) | (with_reducible apply Blk.drewN) | (with_reducible apply Blk.drew))
            rfl
          · repeat (first | (with_reducible assumption) | (with_reducible exact Kept.refl _ _) | ((with_reducible refine Kept.setCell ?_ ?_ _); rotate_left; (focus (first | exact fun _ => rfl | exact fun h => absurd h (by first | omega | (simp; omega) | simp)))) | (with_reducible refine Kept.alloc ?_ _) | (with_reducible refine Kept.drewN ?_ _) | (with_reducible refine Kept.drew ?_))
      · by_cases h34 : c0 = 34
        · have HK : Hid (kind = 22) := Lib.hid (by rw [hkind.out, if_neg h35, if_pos h34])
          have HP : Hid (pre = 1) := Lib.hid (by rw [hpre.out, if_pos (Or.inr h34)])
          subst h34
          clear hc0 hnum hkind hpre h35
          go_wp2_with fail
          go_meet
          case rel =>
            rw [HK.out, HP.out]
            refine ⟨?_, ?_, ?_, ?_⟩
            · repeat (first | (with_reducible assumption) | ((with_reducible refine Rdr.moveTo ?_ ?_); rotate_left; (focus go_num)) | (with_reducible exact RdrAny.of (by assumption)) | ((with_reducible refine RdrAny.other ?_ ?_ ?_ _); rotate_left; (focus (first | omega | (simp; omega) | simp)); (focus (first | omega | (simp; omega) | simp))) | (with_reducible refine RdrAny.move ?_ _) | (with_reducible refine RdrAny.alloc ?_ _) | ((with_reducible refine Rdr.other ?_ ?_ ?_ _); rotate_left; (focus (first | omega | (simp; omega) | simp)); (focus (first | omega | (simp; omega) | simp))) | (with_reducible refine Rdr.alloc ?_ _) | (with_reducible refine Rdr.drewN ?_ _) | (with_reducible refine Rdr.drew ?_))
            · apply Blk.as
              repeat (first | (with_reducible assumption) | ((with_reducible apply Blk.newAt); (focus (simp; done))) | (with_reducible apply Blk.set) | ((with_reducible apply Blk.other); (case hp => first | omega | (simp; omega) | simp)) | (with_reducible apply Blk.alloc) | (with_reducible apply Blk.drewN) | (with_reducible apply Blk.drew))
              rfl
            · apply Blk.as
              repeat (first | (with_reducible assumption) | ((with_reducible apply Blk.newAt); (focus (simp; done))) | (with_reducible apply Blk.set) | ((with_reducible apply Blk.other); (case hp => first | omega | (simp; omega) | simp)) | (with_reducible apply Blk.alloc) | (with_reducible apply Blk.drewN) | (with_reducible apply Blk.drew))
              rfl
            · repeat (first | (with_reducible assumption) | (with_reducible exact Kept.refl _ _) | ((with_reducible refine Kept.setCell ?_ ?_ _); rotate_left; (focus (first | exact fun _ => rfl | exact fun h => absurd h (by first | omega | (simp; omega) | simp)))) | (with_reducible refine Kept.alloc ?_ _) | (with_reducible refine Kept.drewN ?_ _) | (with_reducible refine Kept.drew ?_))
        · have HK : Hid (kind = 20) := Lib.hid (by rw [hkind.out, if_neg h35, if_neg h34])
          have HP : Hid (pre = 0) := Lib.hid (by rw [hpre.out, if_neg (by omega)])
          have d1 : ((c0 : Int) == 35) = false := by rw [beq_eq_false_iff_ne]; omega
          have d2 : ((c0 : Int) == 34) = false := by rw [beq_eq_false_iff_ne]; omega
          clear hc0 hkind hpre h35 h34
          by_cases hlow : (49 : Int) ≤ c0
          · have hh : (57 : Int) < c0 := by omega
            clear hnum
            go_wp2_with fail
            go_meet
            case rel =>
              rw [HK.out, HP.out]
              exact ⟨hR2, hB32, hB42, hK2⟩
          · have hh : (c0 : Int) < 49 := by omega
            clear hnum hlow
            go_wp2_with fail
            go_meet
            case rel =>
              rw [HK.out, HP.out]
              exact ⟨hR2, hB32, hB42, hK2⟩
    case rest =>
      obtain ⟨hR3, hB33, hB43, hK3⟩ := hcut
      have hp1 : pre ≤ 1 := by rw [hpre.out]; split <;> omega
      clear hR2 hB32 hB42 hK2 c1 f1 hc0 hnum hkind hpre tc0 tc1 tc2 tc3 tc4 tf0 tf1 tf2 tf3 tf4
      have hw0 := hB33.lt
      go_upto_region 14 with fail
      go_cut [] (fun w4 => Rdr w4 r q s (i + 1 + pre) ∧ Blk w4 w.heap.size [.int .i64 kind, .int .i64 p, .int .i64 0, .string (bs (runName (s.data.toList.drop (i + 1 + pre)))), .bool false] ∧ Blk w4 (w.heap.size + 1) [.int .i64 0, .int .i64 0, .int .i64 0, .string ⟨#[]⟩, .bool false] ∧ Kept (At r) w w4)
      case first =>
        have c0 := hR3.c0
        have c1 := hR3.c1
        have cs := hR3.cs
        have t3 := hB33.cell 3 rfl
        have t3f := hB33.free 3
        go_region_held3 (fun w' => w'.cell? ⟨r, 0, none⟩ = some (.pointer (some ⟨q, 0, none⟩)) ∧ w'.cell? ⟨r, 1, none⟩ = some (.int .i64 ((i + 1 + pre : Nat) : Int)) ∧ w'.cell? ⟨q, 0, none⟩ = some (.string s)) (first | (refine ⟨bSome hb4 ?_, bSome hb4 ?_, bSome hb4 ?_⟩ <;> simp [*]) | (refine ⟨(World.cell?_setCell_other _ _ _ _ (by simp)).trans ?_, (World.cell?_setCell_other _ _ _ _ (by simp)).trans ?_, (World.cell?_setCell_other _ _ _ _ (by simp)).trans ?_⟩ <;> simp [*]) | go_keep)
          (first
            | (go_at_call 23; refine (sName_any ⟨q, 0, none⟩ s (i + 1 + pre) _ hs (by omega) ?_).mono ?_; (simp [*]); rintro e w4 ⟨rfl, hb4⟩; have T3 := bSome hb4 (p := ⟨w.heap.size, 3, none⟩) (v := .string ⟨#[]⟩) (by simp [*]); have T3f := bFree hb4 (p := ⟨w.heap.size, 3, none⟩) (v := .string ⟨#[]⟩) (by simp [*]) (by simp [*])))
        have hR4 := hR3.drew.below hb4
        have hB34 := hB33.drew.below hb4
        have hB44 := hB43.drew.below hb4
        have hK4 := hK3.drew.andBelow hb4
        go_wp2_with fail
        go_meet
        case rel =>
          refine ⟨?_, ?_, ?_, ?_⟩
          · repeat (first | (with_reducible assumption) | ((with_reducible refine Rdr.moveTo ?_ ?_); rotate_left; (focus go_num)) | (with_reducible exact RdrAny.of (by assumption)) | ((with_reducible refine RdrAny.other ?_ ?_ ?_ _); rotate_left; (focus (first | omega | (simp; omega) | simp)); (focus (first | omega | (simp; omega) | simp))) | (with_reducible refine RdrAny.move ?_ _) | (with_reducible refine RdrAny.alloc ?_ _) | ((with_reducible refine Rdr.other ?_ ?_ ?_ _); rotate_left; (focus (first | omega | (simp; omega) | simp)); (focus (first | omega | (simp; omega) | simp))) | (with_reducible refine Rdr.alloc ?_ _) | (with_reducible refine Rdr.drewN ?_ _) | (with_reducible refine Rdr.drew ?_))
          · apply Blk.as
            repeat (first | (with_reducible assumption) | ((with_reducible apply Blk.newAt); (focus (simp; done))) | (with_reducible apply Blk.set) | ((with_reducible apply Blk.other); (case hp => first | omega | (simp; omega) | simp)) | (with_reducible apply Blk.alloc) | (with_reducible apply Blk.drewN) | (with_reducible apply Blk.drew))
            rfl
          · apply Blk.as
            repeat (first | (with_reducible assumption) | ((with_reducible apply Blk.newAt); (focus (simp; done))) | (with_reducible apply Blk.set) | ((with_reducible apply Blk.other); (case hp => first | omega | (simp; omega) | simp)) | (with_reducible apply Blk.alloc) | (with_reducible apply Blk.drewN) | (with_reducible apply Blk.drew))
            rfl
          · repeat (first | (with_reducible assumption) | (with_reducible exact Kept.refl _ _) | ((with_reducible refine Kept.setCell ?_ ?_ _); rotate_left; (focus (first | exact fun _ => rfl | exact fun h => absurd h (by first | omega | (simp; omega) | simp)))) | (with_reducible refine Kept.alloc ?_ _) | (with_reducible refine Kept.drewN ?_ _) | (with_reducible refine Kept.drew ?_))
      case rest =>
        obtain ⟨hR4, hB34, hB44, hK4⟩ := hcut
        clear hR3 hB33 hB43 hK3
        go_upto_region 15 with fail
        have g0 := cell_regrown hR4.c0
        have g1 := cell_regrown hR4.c1
        have g2 := cell_regrown hR4.cs
        have hbd : i + 1 + pre ≤ s.size := hpb.out
        by_cases hst : Lib.hasPrefix (s.data.toList.drop (i + 1 + pre)) [42] = true
        · have hst' : Lib.hasPrefix (List.drop (i + 1 + pre) s.data.toList) (ByteArray.mk #[42]).data.toList = true := hst
          have HX : Hid (x = [42]) := Lib.hid (by rw [hx.out, starName, if_pos hst])
          have HB := Lib.hid (bHas_in s ⟨#[42]⟩ (i + 1 + pre))
          rw [hst'] at HB
          clear hst hst' hx hbad
          refine wp_region_quiet_below (by kernel_rfl) (by kernel_rfl) ?_
          repeat (go_big_quiet_step ((go_at_call 28; exact Calls.regrown_of (HB.out _ hs hbd))))
          refine wpQuiet_nil ?_
          intro w5 hw'
          have hb : Below wc.heap.size wc w5 := below_of_regrown hw'
          clear hw'
          clear g0 g1 g2 HB
          have hR5 := hR4.below hb
          have hB35 := hB34.below hb
          have hB45 := hB44.below hb
          have hK5 := hK4.andBelow hb
          clear hR4 hB34 hB44 hK4 hb
          have c1 := hR5.c1
          have f1 := hR5.f1
          have n1 : ¬ r = w.heap.size := by omega
          have tc0 := hB35.cell 0 rfl
          have tc1 := hB35.cell 1 rfl
          have tc2 := hB35.cell 2 rfl
          have tc3 := hB35.cell 3 rfl
          have tc4 := hB35.cell 4 rfl
          have tf0 := hB35.free 0
          have tf1 := hB35.free 1
          have tf2 := hB35.free 2
          have tf3 := hB35.free 3
          have tf4 := hB35.free 4
          have uc0 := hB45.cell 0 rfl
          have uc1 := hB45.cell 1 rfl
          have uc2 := hB45.cell 2 rfl
          have uc3 := hB45.cell 3 rfl
          have uc4 := hB45.cell 4 rfl
          have uf0 := hB45.free 0
          have uf1 := hB45.free 1
          have uf2 := hB45.free 2
          have uf3 := hB45.free 3
          have uf4 := hB45.free 4
          go_wp2_with fail
          go_region
          all_goals go_wp2_with fail
          (try simp only [Exit.inBlock, Exit.then])
          refine bodyPost_ret (results_blk (p := 4) (u := 5) (g := w.heap.size + 1) (cs := [.int .i64 kind, .int .i64 p, .int .i64 0, .string (bs x), .bool false]) rfl _ _ _ rfl ?_ Tryd.underlying29 rfl (by kernel_rfl)) rfl (hgood.out (.inl HX.out) _ ?_ ?_)
          · rw [HX.out]
            apply Blk.as
            repeat (first | (with_reducible assumption) | ((with_reducible apply Blk.newAt); (focus (simp; done))) | (with_reducible apply Blk.set) | ((with_reducible apply Blk.other); (case hp => first | omega | (simp; omega) | simp)) | (with_reducible apply Blk.alloc) | (with_reducible apply Blk.drewN) | (with_reducible apply Blk.drew))
            rfl
          · rw [HX.out]
            repeat (first | (with_reducible assumption) | ((with_reducible refine Rdr.moveTo ?_ ?_); rotate_left; (focus go_num)) | (with_reducible exact RdrAny.of (by assumption)) | ((with_reducible refine RdrAny.other ?_ ?_ ?_ _); rotate_left; (focus (first | omega | (simp; omega) | simp)); (focus (first | omega | (simp; omega) | simp))) | (with_reducible refine RdrAny.move ?_ _) | (with_reducible refine RdrAny.alloc ?_ _) | ((with_reducible refine Rdr.other ?_ ?_ ?_ _); rotate_left; (focus (first | omega | (simp; omega) | simp)); (focus (first | omega | (simp; omega) | simp))) | (with_reducible refine Rdr.alloc ?_ _) | (with_reducible refine Rdr.drewN ?_ _) | (with_reducible refine Rdr.drew ?_))
          · repeat (first | (with_reducible assumption) | (with_reducible exact Kept.refl _ _) | ((with_reducible refine Kept.setCell ?_ ?_ _); rotate_left; (focus (first | exact fun _ => rfl | exact fun h => absurd h (by first | omega | (simp; omega) | simp)))) | (with_reducible refine Kept.alloc ?_ _) | (with_reducible refine Kept.drewN ?_ _) | (with_reducible refine Kept.drew ?_))
        · have hst' : Lib.hasPrefix (List.drop (i + 1 + pre) s.data.toList) (ByteArray.mk #[42]).data.toList = false := by simpa using hst
          have HX : Hid (x = runName (s.data.toList.drop (i + 1 + pre))) := Lib.hid (by rw [hx.out, starName, if_neg hst])
          have HB := Lib.hid (bHas_in s ⟨#[42]⟩ (i + 1 + pre))
          rw [hst'] at HB
          have hst0 : Hid (Lib.hasPrefix (List.drop (i + 1 + pre) s.data.toList) [42] = false) := Lib.hid (by simpa using hst)
          clear hst hst' hx
          refine wp_region_quiet_below (by kernel_rfl) (by kernel_rfl) ?_
          repeat (go_big_quiet_step ((go_at_call 28; exact Calls.regrown_of (HB.out _ hs hbd))))
          refine wpQuiet_nil ?_
          intro w5 hw'
          have hb : Below wc.heap.size wc w5 := below_of_regrown hw'
          clear hw'
          clear g0 g1 g2 HB
          have hR5 := hR4.below hb
          have hB35 := hB34.below hb
          have hB45 := hB44.below hb
          have hK5 := hK4.andBelow hb
          clear hR4 hB34 hB44 hK4 hb
          have c1 := hR5.c1
          have f1 := hR5.f1
          have n1 : ¬ r = w.heap.size := by omega
          rw [← HX.out] at hB35
          have tc0 := hB35.cell 0 rfl
          have tc1 := hB35.cell 1 rfl
          have tc2 := hB35.cell 2 rfl
          have tc3 := hB35.cell 3 rfl
          have tc4 := hB35.cell 4 rfl
          have tf0 := hB35.free 0
          have tf1 := hB35.free 1
          have tf2 := hB35.free 2
          have tf3 := hB35.free 3
          have tf4 := hB35.free 4
          have uc0 := hB45.cell 0 rfl
          have uc1 := hB45.cell 1 rfl
          have uc2 := hB45.cell 2 rfl
          have uc3 := hB45.cell 3 rfl
          have uc4 := hB45.cell 4 rfl
          have uf0 := hB45.free 0
          have uf1 := hB45.free 1
          have uf2 := hB45.free 2
          have uf3 := hB45.free 3
          have uf4 := hB45.free 4
          have hne : ¬ x = [42] := fun e => runName_ne (s.data.toList.drop (i + 1 + pre)) (HX.out.symm.trans e)
          have hne2 : ¬ (bs x).toList = [42] := fun e => hne (by rw [← bs_list x, ← Lib.toList_data]; exact e)
          have hxl : x.length ≤ 1000000 := by
            have h1 := starName_le (s.data.toList.drop (i + 1 + pre))
            rw [starName, if_neg (by rw [hst0.out]; decide), ← HX.out, List.length_drop, size_eq] at h1
            omega
          have hxs := bs_size x
          by_cases hnm : nameB x = true
          · have hnx : Hid (nameB (bs x).data.toList = true) := Lib.hid (by rw [bs_list]; exact hnm)
            have HG := Lib.hid (hgood.out (.inr hnm))
            clear hne hbad hnm hgood
            go_wp2_with (go_at_call 22; refine (tName_any _ _ (by omega)).mono ?_; rintro e w' ⟨rfl, rfl⟩; rw [hnx.out])
            go_region
            all_goals go_wp2_with fail
            (try simp only [Exit.inBlock, Exit.then])
            refine bodyPost_ret (results_blk (p := 4) (u := 5) (g := w.heap.size + 1) (cs := [.int .i64 kind, .int .i64 p, .int .i64 0, .string (bs x), .bool false]) rfl _ _ _ rfl ?_ Tryd.underlying29 rfl (by kernel_rfl)) rfl (HG.out _ ?_ ?_)
            · apply Blk.as
              repeat (first | (with_reducible assumption) | ((with_reducible apply Blk.newAt); (focus (simp; done))) | (with_reducible apply Blk.set) | ((with_reducible apply Blk.other); (case hp => first | omega | (simp; omega) | simp)) | (with_reducible apply Blk.alloc) | (with_reducible apply Blk.drewN) | (with_reducible apply Blk.drew))
              rfl
            · repeat (first | (with_reducible assumption) | ((with_reducible refine Rdr.moveTo ?_ ?_); rotate_left; (focus go_num)) | (with_reducible exact RdrAny.of (by assumption)) | ((with_reducible refine RdrAny.other ?_ ?_ ?_ _); rotate_left; (focus (first | omega | (simp; omega) | simp)); (focus (first | omega | (simp; omega) | simp))) | (with_reducible refine RdrAny.move ?_ _) | (with_reducible refine RdrAny.alloc ?_ _) | ((with_reducible refine Rdr.other ?_ ?_ ?_ _); rotate_left; (focus (first | omega | (simp; omega) | simp)); (focus (first | omega | (simp; omega) | simp))) | (with_reducible refine Rdr.alloc ?_ _) | (with_reducible refine Rdr.drewN ?_ _) | (with_reducible refine Rdr.drew ?_))
            · repeat (first | (with_reducible assumption) | (with_reducible exact Kept.refl _ _) | ((with_reducible refine Kept.setCell ?_ ?_ _); rotate_left; (focus (first | exact fun _ => rfl | exact fun h => absurd h (by first | omega | (simp; omega) | simp)))) | (with_reducible refine Kept.alloc ?_ _) | (with_reducible refine Kept.drewN ?_ _) | (with_reducible refine Kept.drew ?_))
          · have hnx : Hid (nameB (bs x).data.toList = false) := Lib.hid (by rw [bs_list]; simpa using hnm)
            have HG := Lib.hid (hbad.out (fun h => h.elim hne hnm))
            clear hne hbad hnm hgood
            have hne3 : ((bs x).toList == [42]) = false := by simpa using hne2
            have hge := hK5.cell hev (fun e => hgr e)
            have l1 := hB45.lt
            have l2 := hB35.lt
            have l3 := hR5.here.lt
            go_wp2_with (first | (go_at_call 22; refine (tName_any _ _ (by omega)).mono ?_; rintro e w' ⟨rfl, rfl⟩; rw [hnx.out]) | (go_at_call 64; refine (xFault_any _ _ _ _).mono ?_; rintro e w6 ⟨rfl, rfl⟩))
            (try simp only [Exit.inBlock, Exit.then])
            refine bodyPost_ret (results_blk (p := 4) (u := 5) (g := w.heap.size + 1) (cs := [.int .i64 0, .int .i64 0, .int .i64 0, .string ⟨#[]⟩, .bool false]) rfl _ _ _ rfl ?_ Tryd.underlying29 rfl (by kernel_rfl)) rfl (HG.out w5.heap.size _ ?_ ?_)
            · apply Blk.as
              repeat (first | (with_reducible assumption) | ((with_reducible apply Blk.newAt); (focus (simp; done))) | (with_reducible apply Blk.set) | ((with_reducible apply Blk.other); (case hp => first | omega | (simp; omega) | simp)) | (with_reducible apply Blk.alloc) | (with_reducible apply Blk.drewN) | (with_reducible apply Blk.drew))
              rfl
            · apply Blk.as
              repeat (first | (with_reducible assumption) | ((with_reducible apply Blk.newAt); (focus (simp; done))) | (with_reducible apply Blk.set) | ((with_reducible apply Blk.other); (case hp => first | omega | (simp; omega) | simp)) | (with_reducible apply Blk.alloc) | (with_reducible apply Blk.drewN) | (with_reducible apply Blk.drew))
              rfl
            · repeat (first | (with_reducible assumption) | (with_reducible exact Kept.refl _ _) | ((with_reducible refine Kept.setCell ?_ ?_ _); rotate_left; (focus (first | exact fun _ => rfl | exact fun h => absurd h (by first | omega | (simp; omega) | simp)))) | (with_reducible refine Kept.alloc ?_ _) | (with_reducible refine Kept.drewN ?_ _) | (with_reducible refine Kept.drew ?_))

end Go.Proofs.YtdadgodjjfgmfaaDoor
