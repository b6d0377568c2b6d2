/- Dialect A's reader: a token. -/
import Derived.Test.YtdadgodjjfgmfaaDoorAlex6
namespace Go.Proofs.YtdadgodjjfgmfaaDoor
open Go Go.RowKit

/-- The reader, whatever parts it has. -/
structure TRd (w : World) (r q : Nat) (s : ByteArray) (i : Nat) (v : Value) (j : Bool) : Prop where
  here : Blk w r [.pointer (some ⟨q, 0, none⟩), .int .i64 i, v, .bool j]
  src : Blk w q [.string s]
  ne : r ≠ q
section
variable {w w' : World} {r q : Nat} {s : ByteArray} {i : Nat} {v : Value} {j : Bool}
theorem TRd.c0 (h : TRd w r q s i v j) : w.cell? ⟨r, 0, none⟩ = some (.pointer (some ⟨q, 0, none⟩)) := h.here.cell 0 rfl
theorem TRd.c1 (h : TRd w r q s i v j) : w.cell? ⟨r, 1, none⟩ = some (.int .i64 i) := h.here.cell 1 rfl
theorem TRd.cs (h : TRd w r q s i v j) : w.cell? ⟨q, 0, none⟩ = some (.string s) := h.src.cell 0 rfl
theorem TRd.f1 (h : TRd w r q s i v j) : w.frozen? ⟨r, 1, none⟩ = false := h.here.free 1
theorem TRd.below (h : TRd w r q s i v j) (hb : Below w.heap.size w w') : TRd w' r q s i v j := ⟨h.here.below hb, h.src.below hb, h.ne⟩
theorem TRd.move (h : TRd w r q s i v j) (k : Nat) : TRd (w.setCell ⟨r, 1, none⟩ (.int .i64 k)) r q s k v j := ⟨by have := h.here.set 1 (.int .i64 k); exact this, h.src.other h.ne _, h.ne⟩
theorem TRd.other (h : TRd w r q s i v j) {p : Addr} (h1 : p.block ≠ r) (h2 : p.block ≠ q) (u : Value) : TRd (w.setCell p u) r q s i v j := ⟨h.here.other h1 u, h.src.other h2 u, h.ne⟩
theorem TRd.alloc (h : TRd w r q s i v j) (o : Obj) : TRd (w.alloc o) r q s i v j := ⟨h.here.alloc o, h.src.alloc o, h.ne⟩
theorem TRd.drew (h : TRd w r q s i v j) : TRd w.drew r q s i v j := ⟨h.here, h.src, h.ne⟩
def TRdAny (w : World) (r q : Nat) (s : ByteArray) (v : Value) (j : Bool) : Prop := ∃ i, TRd w r q s i v j
theorem TRdAny.of (h : TRd w r q s i v j) : TRdAny w r q s v j := ⟨i, h⟩
theorem TRdAny.other (h : TRdAny w r q s v j) {p : Addr} (h1 : p.block ≠ r) (h2 : p.block ≠ q) (u : Value) : TRdAny (w.setCell p u) r q s v j := h.elim fun _ k => ⟨_, k.other h1 h2 u⟩
theorem TRd.moveTo {k : Nat} {u : Value} (h : TRdAny w r q s v j) (hu : u = .int .i64 (k : Nat)) : TRd (w.setCell ⟨r, 1, none⟩ u) r q s k v j := by
  rw [hu]
  exact h.elim fun _ h => h.move k
end
theorem PartsAt.mono {w : World} {B B' : Nat} {v : Value} {P : List APart} (h : PartsAt w B v P) (hB : B' ≤ B) : PartsAt w B' v P := by
  refine ⟨h.1, ?_⟩
  rcases h.2 with ⟨hv, h0⟩ | ⟨g, cap, cur, hv, hg, r⟩
  · exact .inl ⟨hv, h0⟩
  · exact .inr ⟨g, cap, cur, hv, Nat.le_trans hB hg, r⟩

theorem tMore (r q : Nat) (s : ByteArray) (i : Nat) (v : Value) (j : Bool) (w : World) (_hs : s.size ≤ 1000000) (_hi : i ≤ 1000000) (hR : TRd w r q s i v j) (b : Bool) (hb : Hid (decide (i < s.size) = b)) :
    Calls Tryd.prog 78 #[.pointer (some ⟨r, 0, none⟩)] w fun e w' => e = .returned (.bool b) ∧ Below w.heap.size w w' := by
  have g0 := cell_regrown hR.c0
  have g1 := cell_regrown hR.c1
  have g2 := cell_regrown hR.cs
  rw [← hb.out]
  clear hb
  go_enter Tryd.func78, Tryd.ntmps78
  go_wp2_with fail
  refine wp_region_quiet_below (by kernel_rfl) (by kernel_rfl) ?_
  repeat (go_big_quiet_step ((go_at_call 35; exact Calls.regrown_of (bLen_any s _))))
  refine wpQuiet_nil ?_
  intro w2 hw'
  have hb : Below w.heap.size w w2 := below_of_regrown hw'
  clear hw'
  go_wp2_with fail
  go_ret
  exact ⟨by first | rfl | simp, hb⟩
theorem tPeek (r q : Nat) (s : ByteArray) (i : Nat) (v : Value) (j : Bool) (w : World) (hs : s.size ≤ 1000000) (hi : i < s.size) (hR : TRd w r q s i v j) :
    Calls Tryd.prog 79 #[.pointer (some ⟨r, 0, none⟩), .int .i64 0] w fun e w' => e = .returned (.int .u8 (bat s i).toNat) ∧ Below w.heap.size w w' := by
  have g0 := cell_regrown hR.c0
  have g1 := cell_regrown hR.c1
  have g2 := cell_regrown hR.cs
  have hB := Lib.hid fun w1 => bByte_in s i w1 hs hi
  generalize (bat s i).toNat = bv at *
  go_enter Tryd.func79, Tryd.ntmps79
  go_wp2_with fail
  refine wp_region_quiet_below (by kernel_rfl) (by kernel_rfl) ?_
  repeat (go_big_quiet_step ((go_at_call 27; exact Calls.regrown_of (hB.out _))))
  refine wpQuiet_nil ?_
  intro w2 hw'
  have hb : Below w.heap.size w w2 := below_of_regrown hw'
  clear hw'
  go_wp2_with fail
  go_ret
  exact ⟨rfl, hb⟩

theorem token_eq (s : ByteArray) (i : Nat) : tokenA s.data.toList i =
    if s.data.toList.length ≤ i then .ok (⟨0, i, []⟩, i)
    else if (bestOp (s.data.toList.drop i) opsA 0 [] 0).1 ≠ [] then .ok (⟨(bestOp (s.data.toList.drop i) opsA 0 [] 0).2, i, []⟩, i + (bestOp (s.data.toList.drop i) opsA 0 [] 0).1.length)
    else if (bat s i).toNat = 38 then .error (107, i)
    else match wordA s.data.toList (s.data.toList.length + 1) i [] false with
      | .error e => .error e
      | .ok (k, P) => .ok (⟨13, i, P⟩, k) := by
  unfold tokenA
  rfl

theorem bestOpA_step (l : List UInt8) (j : Nat) (b : List UInt8) (kd : Nat) (o : List UInt8) (ho : opsA[j]? = some o) :
    bestOp l (opsA.drop j) j b kd = if b.length < o.length ∧ Lib.hasPrefix l o = true then bestOp l (opsA.drop (j + 1)) (j + 1) o j else bestOp l (opsA.drop (j + 1)) (j + 1) b kd := by
  obtain ⟨h, rfl⟩ := List.getElem?_eq_some_iff.1 ho
  rw [List.drop_eq_getElem_cons h, bestOp]
theorem bestOpA_end (l : List UInt8) (b : List UInt8) (kd : Nat) : bestOp l (opsA.drop 13) 13 b kd = (b, kd) := rfl

/-- What a token comes to. -/
def TokPost (w : World) (r q : Nat) (s : ByteArray) (sent : Nat → Addr) (X : Except (Nat × Nat) (ATok × Nat)) (e : Ending) (w' : World) : Prop :=
  match X with
  | .ok (t, n) => ∃ v' j' v2, e = .returned (.tuple #[.agg #[.int .i64 t.kind, .int .i64 t.place, v2], .nilIface]) ∧ PartsAt w' w.heap.size v2 t.parts ∧ TRd w' r q s n v' j' ∧ Kept (At r) w w'
  | .error (c, p) => ∃ b, e = .returned (.tuple #[.agg #[.int .i64 0, .int .i64 0, .slice none 0 0], .iface 102 (.pointer (some ⟨b, 0, none⟩))]) ∧ ErrAt w' b sent c p ∧ Kept (At r) w w'
theorem TokPost.ok {w w' : World} {r q : Nat} {s : ByteArray} {sent : Nat → Addr} {X : Except (Nat × Nat) (ATok × Nat)} {e : Ending} {kd pl n : Nat} {P : List APart} {j' : Bool} {v' v2 : Value} (hX : Hid (.ok (⟨kd, pl, P⟩, n) = X)) (he : e = .returned (.tuple #[.agg #[.int .i64 kd, .int .i64 pl, v2], .nilIface])) (hP : PartsAt w' w.heap.size v2 P) (hR : TRd w' r q s n v' j') (hK : Kept (At r) w w') : TokPost w r q s sent X e w' := by
  have := hX.out
  subst this
  exact ⟨v', j', v2, he, hP, hR, hK⟩
theorem TokPost.bad {w w' : World} {r q : Nat} {s : ByteArray} {sent : Nat → Addr} {X : Except (Nat × Nat) (ATok × Nat)} {e : Ending} {c p b : Nat} (hX : Hid (.error (c, p) = X)) (he : e = .returned (.tuple #[.agg #[.int .i64 0, .int .i64 0, .slice none 0 0], .iface 102 (.pointer (some ⟨b, 0, none⟩))])) (hE : ErrAt w' b sent c p) (hK : Kept (At r) w w') : TokPost w r q s sent X e w' := by
  have := hX.out
  subst this
  exact ⟨b, he, hE, hK⟩

set_option maxHeartbeats 8000000 in
set_option maxRecDepth 100000 in
theorem aToken_any (r q : Nat) (s : ByteArray) (i t : Nat) (v : Value) (j : Bool) (w : World) (hs : s.size ≤ 8192) (hi : i ≤ s.size) (hR : TRd w r q s i v j) (sent : Nat → Addr) (hE : Env w sent) (hG : ∀ c g, (c, g) ∈ errVars → g ≠ r)
    (ht : Hid (i + skipN false (s.data.toList.drop i) = t)) (X : Except (Nat × Nat) (ATok × Nat)) (hX : Hid (tokenA s.data.toList t = X)) :
    Calls Tryd.prog 55 #[.pointer (some ⟨r, 0, none⟩)] w (TokPost w r q s sent X) := by
  have hs' : s.size ≤ 1000000 := by omega
  have hr := hR.here.lt
  have hq := hR.src.lt
  go_enter Tryd.func55, Tryd.ntmps55
  go_upto_block 0 with fail
  refine wp_world (fun w1 => TRd w1 r q s i v j ∧ Blk w1 w.heap.size [.int .i64 0, .int .i64 0, .slice none 0 0] ∧ Kept (At r) w w1) ⟨hR.alloc _, Blk.new w _ _, (Kept.refl _ _).alloc _⟩ ?_
  intro w1 ⟨hR1, hB1, hK1⟩
  go_cut [] (fun w2 => t ≤ s.size ∧ TRd w2 r q s t v j ∧ Blk w2 w.heap.size [.int .i64 0, .int .i64 0, .slice none 0 0] ∧ Kept (At r) w w2)
  case first =>
    go_wp2_with fail
    go_loopg [] (s.size - i) (fun n wr => ∃ k : Nat, n = s.size - k ∧ k ≤ s.size ∧ TRd wr r q s k v j ∧ Blk wr w.heap.size [.int .i64 0, .int .i64 0, .slice none 0 0] ∧ Kept (At r) w wr ∧ Hid (k + skipN false (s.data.toList.drop k) = t))
    case atStart => exact ⟨i, rfl, hi, hR1, hB1, hK1, ht⟩
    case round =>
      clear hR1 hB1 hK1 hR hi ht
      obtain ⟨k, rfl, hk, hR, hB, hK, ht⟩ := hrel
      by_cases hlt : k < s.size
      · have HM := Lib.hid fun w5 h => tMore r q s k v j w5 hs' (by omega) h true (Lib.hid (by rw [decide_eq_true_eq]; exact hlt))
        have HP := Lib.hid fun w5 h => tPeek r q s k v j w5 hs' hlt h
        go_upto_block 2 with (first
          | (go_at_call 78; refine (HM.out _ hR).mono ?_; rintro e w3 ⟨rfl, hb3⟩; have hR3 := hR.below hb3)
          | (go_at_call 79; refine (HP.out _ hR3).mono ?_; rintro e w4 ⟨rfl, hb4⟩))
        have hR4 := hR3.below hb4
        have hB4 := (hB.below hb3).below hb4
        have hK4 := (hK.andBelow hb3).andBelow hb4
        clear hR hB hK hR3 hb3 hb4 HM HP
        have c1 := hR4.c1
        have f1 := hR4.f1
        have l1 := hB4.lt
        have n1 : ¬ r = w.heap.size := by omega
        by_cases hbl : (bat s k).toNat = 32 ∨ (bat s k).toNat = 9
        · have HN := Lib.hid ((skip_blank s k hlt hbl).symm.trans ht.out)
          have hB5 := hB4.other (p := ⟨r, 1, none⟩) (by simp; omega) (.int .i64 ((k + 1 : Nat) : Int))
          clear ht
          rcases hbl with hbl | hbl
          · have d1 : (((bat s k).toNat : Int) == 32) = true := by rw [beq_iff_eq]; omega
            clear hbl
            go_wp2_with fail
            go_roundg (s.size - (k + 1))
            case measure => omega
            case rel => exact ⟨k + 1, rfl, by omega, TRd.moveTo (.of hR4) (by go_num), hB5, hK4.setCell (p := ⟨r, 1, none⟩) (fun _ => rfl) _, HN⟩
          · have d1 : (((bat s k).toNat : Int) == 32) = false := by rw [beq_eq_false_iff_ne]; omega
            have d2 : (((bat s k).toNat : Int) == 9) = true := by rw [beq_iff_eq]; omega
            clear hbl
            go_wp2_with fail
            go_roundg (s.size - (k + 1))
            case measure => omega
            case rel => exact ⟨k + 1, rfl, by omega, TRd.moveTo (.of hR4) (by go_num), hB5, hK4.setCell (p := ⟨r, 1, none⟩) (fun _ => rfl) _, HN⟩
        · have d1 : (((bat s k).toNat : Int) == 32) = false := by rw [beq_eq_false_iff_ne]; omega
          have d2 : (((bat s k).toNat : Int) == 9) = false := by rw [beq_eq_false_iff_ne]; omega
          by_cases hsh : (bat s k).toNat = 35
          · have HN := Lib.hid ((skip_sharp s k hlt hsh).symm.trans ht.out)
            have d3 : (((bat s k).toNat : Int) == 35) = true := by rw [beq_iff_eq]; omega
            have hk35 := Lib.hid hsh
            clear hbl hsh ht
            go_wp2_with fail
            obtain ⟨wo, rfl⟩ : ∃ wo : World, wo = w4 := ⟨_, rfl⟩
            go_loopg [] (s.size - k) (fun n wr => ∃ m : Nat, n = s.size - m ∧ k ≤ m ∧ m ≤ s.size ∧ TRd wr r q s m v j ∧ Blk wr w.heap.size [.int .i64 0, .int .i64 0, .slice none 0 0] ∧ Kept (At r) w wr ∧ Hid ((m = k ∧ k + 1 + skipN true (s.data.toList.drop (k + 1)) = t) ∨ (k < m ∧ m + skipN true (s.data.toList.drop m) = t)))
            case atStart => exact ⟨k, rfl, Nat.le_refl _, hk, hR4, hB4, hK4, Lib.hid (.inl ⟨rfl, HN.out⟩)⟩
            case round =>
              clear HN hR4 hB4 hK4 c1 f1
              obtain ⟨m, rfl, hkm, hm, hR, hB, hK, ht⟩ := hrel
              by_cases hlm : m < s.size
              · have HM := Lib.hid fun w5 h => tMore r q s m v j w5 hs' (by omega) h true (Lib.hid (by rw [decide_eq_true_eq]; exact hlm))
                have HP := Lib.hid fun w5 h => tPeek r q s m v j w5 hs' hlm h
                by_cases h10 : (bat s m).toNat = 10
                · have HT : Hid (k < m ∧ m + skipN false (s.data.toList.drop m) = t) := Lib.hid (by
                    rcases ht.out with ⟨rfl, _⟩ | ⟨h1, h⟩
                    · exact absurd (hk35.out.symm.trans h10) (by decide)
                    · rw [skip_line s m hlm h10] at h; exact ⟨h1, h⟩)
                  have e1 : (((bat s m).toNat : Int) != 10) = false := by rw [bne_eq_false_iff_eq]; omega
                  clear h10 ht
                  go_wp2_with (first
                    | (go_at_call 78; refine (HM.out _ hR).mono ?_; rintro e w3 ⟨rfl, hb3⟩; have hR3 := hR.below hb3)
                    | (go_at_call 79; refine (HP.out _ hR3).mono ?_; rintro e w4 ⟨rfl, hb4⟩))
                  go_roundg (s.size - m)
                  case measure => have := HT.out.1; omega
                  case rel => exact ⟨m, rfl, hm, hR3.below hb4, (hB.below hb3).below hb4, (hK.andBelow hb3).andBelow hb4, Lib.hid HT.out.2⟩
                · have HT : Hid (m + 1 + skipN true (s.data.toList.drop (m + 1)) = t) := Lib.hid (by
                    rcases ht.out with ⟨rfl, h⟩ | ⟨_, h⟩
                    · exact h
                    · rw [skip_on s m hlm h10] at h; exact h)
                  have e1 : (((bat s m).toNat : Int) != 10) = true := by rw [bne_iff_ne]; omega
                  clear h10 ht
                  go_wp2_with (first
                    | (go_at_call 78; refine (HM.out _ hR).mono ?_; rintro e w3 ⟨rfl, hb3⟩; have hR3 := hR.below hb3)
                    | (go_at_call 79; refine (HP.out _ hR3).mono ?_; rintro e w4 ⟨rfl, hb4⟩; have hR5 := hR3.below hb4; have c1 := hR5.c1; have f1 := hR5.f1))
                  go_roundg (s.size - (m + 1))
                  case measure => omega
                  case rel => exact ⟨m + 1, rfl, by omega, by omega, TRd.moveTo (.of hR5) (by go_num), ((hB.below hb3).below hb4).other (p := ⟨r, 1, none⟩) (by simp; omega) _, ((hK.andBelow hb3).andBelow hb4).setCell (p := ⟨r, 1, none⟩) (fun _ => rfl) _, Lib.hid (.inr ⟨by omega, HT.out⟩)⟩
              · have HT : Hid (k < m ∧ m + skipN false (s.data.toList.drop m) = t) := Lib.hid (by
                  refine ⟨by omega, ?_⟩
                  rcases ht.out with ⟨rfl, h⟩ | ⟨_, h⟩
                  · omega
                  · rw [skip_at_end false s m (by omega)]; rw [skip_at_end true s m (by omega)] at h; exact h)
                have HM := Lib.hid fun w5 h => tMore r q s m v j w5 hs' (by omega) h false (Lib.hid (by rw [decide_eq_false_iff_not]; exact hlm))
                clear ht
                go_wp2_with (go_at_call 78; refine (HM.out _ hR).mono ?_; rintro e w3 ⟨rfl, hb3⟩)
                go_roundg (s.size - m)
                case measure => have := HT.out.1; omega
                case rel => exact ⟨m, rfl, hm, hR.below hb3, hB.below hb3, hK.andBelow hb3, Lib.hid HT.out.2⟩
          · have HN := Lib.hid ((skip_else s k hlt hbl hsh).symm.trans ht.out)
            have d3 : (((bat s k).toNat : Int) == 35) = false := by rw [beq_eq_false_iff_ne]; omega
            clear hbl hsh ht
            go_wp2_with fail
            go_meet
            case rel =>
              rw [← HN.out]
              exact ⟨hk, hR4, hB4, hK4⟩
      · have HN := Lib.hid ((skip_at_end false s k (by omega)).symm.trans ht.out)
        have HM := Lib.hid fun w5 h => tMore r q s k v j w5 hs' (by omega) h false (Lib.hid (by rw [decide_eq_false_iff_not]; exact hlt))
        clear ht
        go_wp2_with (go_at_call 78; refine (HM.out _ hR).mono ?_; rintro e w3 ⟨rfl, hb3⟩)
        go_meet
        case rel =>
          rw [← HN.out]
          exact ⟨hk, hR.below hb3, hB.below hb3, hK.andBelow hb3⟩
  case rest =>
    obtain ⟨hts, hR2, hB2, hK2⟩ := hcut
    clear hR1 hB1 hK1 hR hi ht
    have hTb : w.heap.size < wc.heap.size := hB2.lt
    have c1 := hR2.c1
    rw [token_eq, size_eq] at hX
    go_upto_region 9 with fail
    refine wp_world (fun w3 => TRd w3 r q s t v j ∧ Blk w3 w.heap.size [.int .i64 0, .int .i64 0, .slice none 0 0] ∧ Blk w3 wc.heap.size [.int .i64 0, .int .i64 t, .slice none 0 0] ∧ Kept (At r) w w3) ⟨hR2.alloc _, hB2.alloc _, Blk.new _ _ _, hK2.alloc _⟩ ?_
    intro w3 ⟨hR3, hB3, hT3, hK3⟩
    clear hR2 hB2 hK2 c1
    generalize wc.heap.size = tb at *
    by_cases hlt : t < s.size
    · have hX1 := Lib.hid ((if_neg (by omega)).symm.trans hX.out)
      have HM := Lib.hid fun w5 h => tMore r q s t v j w5 hs' (by omega) h true (Lib.hid (by rw [decide_eq_true_eq]; exact hlt))
      clear hX
      go_upto_block 5 with (first
        | (go_at_call 78; refine (HM.out _ hR3).mono ?_; rintro e w4 ⟨rfl, hb4⟩; have hR4 := hR3.below hb4)
        | (go_at_call 63; refine (aOps_any _).mono ?_; rintro e w5 ⟨rfl, hO5, hb5⟩))
      have hR5 := hR4.below hb5
      have hB5 := (hB3.below hb4).below hb5
      have hT5 := (hT3.below hb4).below hb5
      have hK5 := (hK3.andBelow hb4).andBelow hb5
      have hob : tb < w4.heap.size := (hT3.below hb4).lt
      generalize w4.heap.size = ob at *
      clear hR3 hR4 hB3 hT3 hK3 hb4 hb5 HM
      go_wp2_with fail
      go_loopg [6, 56] 13 (fun n sb sj wr => ∃ (m : Nat) (b : List UInt8) (kd : Nat), n = 13 - m ∧ m ≤ 13 ∧ sb = .string (bs b) ∧ sj = .int .i64 m ∧ b.length ≤ 3 ∧ TRd wr r q s t v j ∧ Blk wr w.heap.size [.int .i64 0, .int .i64 0, .slice none 0 0] ∧
          Blk wr tb [.int .i64 kd, .int .i64 t, .slice none 0 0] ∧ Blk wr ob (opsA.map fun l => .string (bs l)) ∧ Kept (At r) w wr ∧ Hid (bestOp (s.data.toList.drop t) opsA 0 [] 0 = bestOp (s.data.toList.drop t) (opsA.drop m) m b kd) ∧ Hid (b = [] → kd = 0))
      case atStart => exact ⟨0, [], 0, rfl, by omega, rfl, rfl, by simp, hR5, hB5, hT5, hO5, hK5, Lib.hid rfl, Lib.hid fun _ => rfl⟩
      case round =>
        obtain ⟨m, b, kd, rfl, hm, rfl, rfl, hbl, hR, hB1, hB2, hO, hK, hbest, hkd⟩ := hrel
        clear hR5 hB5 hT5 hK5
        have n1 : ¬ tb = r := by omega
        have n2 : ¬ tb = q := by omega
        have n3 : ¬ r = tb := by omega
        by_cases hm13 : m < 13
        · obtain ⟨o, ho⟩ : ∃ o, opsA[m]? = some o := ⟨opsA[m]'(by exact hm13), List.getElem?_eq_getElem (by exact hm13)⟩
          have hoc : wr.cell? ⟨ob, m, none⟩ = some (.string (bs o)) := hO.cell m (by rw [List.getElem?_map, ho]; rfl)
          have hol : o.length ≤ 3 := by
            have h : ∀ o ∈ opsA, o.length ≤ 3 := by decide
            exact h o (List.mem_of_getElem? ho)
          have hst := Lib.hid (bestOpA_step (s.data.toList.drop t) m b kd o ho)
          have hos := Lib.hid (bs_size o)
          have hbs := Lib.hid (bs_size b)
          clear ho
          have g0 := cell_regrown hR.c0
          have g1 := cell_regrown hR.c1
          have g2 := cell_regrown hR.cs
          by_cases hlen : b.length < o.length
          · have d1 : decide (((bs b).size : Int) < ((bs o).size : Int)) = true := by rw [hos.out, hbs.out, decide_eq_true_eq]; omega
            have d2 : decide ((bs b).size < (bs o).size) = true := by rw [hos.out, hbs.out, decide_eq_true_eq]; omega
            have HB := Lib.hid (bHas_in s (bs o) t)
            rw [bs_list] at HB
            cases hpf : Lib.hasPrefix (s.data.toList.drop t) o with
            | true =>
              rw [hpf] at HB
              have HN := Lib.hid (hbest.out.trans (hst.out.trans (if_pos ⟨hlen, hpf⟩)))
              have HL : Hid (o = [] → m = 0) := Lib.hid fun e => by rw [e] at hlen; simp at hlen
              clear hpf hst hbest hlen
              go_wp2_with fail
              refine wp_region_quiet_below (by kernel_rfl) (by kernel_rfl) ?_
              repeat (go_big_quiet_step ((go_at_call 28; exact Calls.regrown_of (HB.out _ hs' (by omega)))))
              refine wpQuiet_nil ?_
              intro w4 hw'
              have hb : Below wr.heap.size wr w4 := below_of_regrown hw'
              clear hw'
              have hR4 := hR.below hb
              have hB14 := hB1.below hb
              have hB24 := hB2.below hb
              have hO4 := hO.below hb
              have hK4 := hK.andBelow hb
              clear hR hB1 hB2 hO hK hb g0 g1 g2 HB hoc
              have tc0 := hB24.cell 0 rfl
              have tf0 := hB24.free 0
              go_wp2_with fail
              go_roundg (13 - (m + 1))
              case measure => omega
              case rel =>
                refine ⟨m + 1, o, m, rfl, by omega, rfl, by go_num, hol, ?_, ?_, ?_, ?_, ?_, HN, HL⟩
                · repeat (first | (with_reducible assumption) | ((with_reducible refine TRd.moveTo ?_ ?_); rotate_left; (focus go_num)) | (with_reducible exact TRdAny.of (by assumption)) | ((with_reducible refine TRdAny.other ?_ ?_ ?_ _); rotate_left; (focus (first | omega | (simp; omega) | simp)); (focus (first | omega | (simp; omega) | simp))) | ((with_reducible refine TRd.other ?_ ?_ ?_ _); rotate_left; (focus (first | omega | (simp; omega) | simp)); (focus (first | omega | (simp; omega) | simp))) | (with_reducible refine TRd.alloc ?_ _) | (with_reducible refine TRd.drew ?_))
                · apply Blk.as
                  repeat (first | (with_reducible assumption) | ((with_reducible apply Blk.newAt); (focus (simp; done))) | (with_reducible apply Blk.set) | ((with_reducible apply Blk.other); (case hp => first | omega | (simp; omega) | simp)) | (with_reducible apply Blk.alloc) | (with_reducible apply Blk.drewN) | (with_reducible apply Blk.drew))
                  rfl
                · apply Blk.as
                  repeat (first | (with_reducible assumption) | ((with_reducible apply Blk.newAt); (focus (simp; done))) | (with_reducible apply Blk.set) | ((with_reducible apply Blk.other); (case hp => first | omega | (simp; omega) | simp)) | (with_reducible apply Blk.alloc) | (with_reducible apply Blk.drewN) | (with_reducible apply Blk.drew))
                  rfl
                · apply Blk.as
                  repeat (first | (with_reducible assumption) | ((with_reducible apply Blk.newAt); (focus (simp; done))) | (with_reducible apply Blk.set) | ((with_reducible apply Blk.other); (case hp => first | omega | (simp; omega) | simp)) | (with_reducible apply Blk.alloc) | (with_reducible apply Blk.drewN) | (with_reducible apply Blk.drew))
                  rfl
                · repeat (first | (with_reducible assumption) | (with_reducible exact Kept.refl _ _) | ((with_reducible refine Kept.setCell ?_ ?_ _); rotate_left; (focus (first | exact fun _ => rfl | exact fun h => absurd h (by first | omega | (simp; omega) | simp)))) | (with_reducible refine Kept.alloc ?_ _) | (with_reducible refine Kept.drewN ?_ _) | (with_reducible refine Kept.drew ?_))
            | false =>
              rw [hpf] at HB
              have HN := Lib.hid (hbest.out.trans (hst.out.trans (if_neg (fun h => by rw [hpf] at h; exact absurd h.2 (by decide)))))
              clear hpf hst hbest hlen
              go_wp2_with fail
              refine wp_region_quiet_below (by kernel_rfl) (by kernel_rfl) ?_
              repeat (go_big_quiet_step ((go_at_call 28; exact Calls.regrown_of (HB.out _ hs' (by omega)))))
              refine wpQuiet_nil ?_
              intro w4 hw'
              have hb : Below wr.heap.size wr w4 := below_of_regrown hw'
              clear hw'
              have hR4 := hR.below hb
              have hB14 := hB1.below hb
              have hB24 := hB2.below hb
              have hO4 := hO.below hb
              have hK4 := hK.andBelow hb
              clear hR hB1 hB2 hO hK hb g0 g1 g2 HB hoc
              go_wp2_with fail
              go_roundg (13 - (m + 1))
              case measure => omega
              case rel => exact ⟨m + 1, b, kd, rfl, by omega, rfl, by go_num, hbl, hR4, hB14, hB24, hO4, hK4, HN, hkd⟩
          · have d1 : decide (((bs b).size : Int) < ((bs o).size : Int)) = false := by rw [hos.out, hbs.out, decide_eq_false_iff_not]; omega
            have d2 : decide ((bs b).size < (bs o).size) = false := by rw [hos.out, hbs.out, decide_eq_false_iff_not]; omega
            have HN := Lib.hid (hbest.out.trans (hst.out.trans (if_neg (fun h => hlen h.1))))
            clear hst hbest hlen
            go_wp2_with fail
            refine wp_region_quiet_below (by kernel_rfl) (by kernel_rfl) ?_
            repeat (go_big_quiet_step (fail))
            refine wpQuiet_nil ?_
            intro w4 hw'
            have hb : Below wr.heap.size wr w4 := below_of_regrown hw'
            clear hw'
            have hR4 := hR.below hb
            have hB14 := hB1.below hb
            have hB24 := hB2.below hb
            have hO4 := hO.below hb
            have hK4 := hK.andBelow hb
            clear hR hB1 hB2 hO hK hb g0 g1 g2 hoc
            go_wp2_with fail
            go_roundg (13 - (m + 1))
            case measure => omega
            case rel => exact ⟨m + 1, b, kd, rfl, by omega, rfl, by go_num, hbl, hR4, hB14, hB24, hO4, hK4, HN, hkd⟩
        · obtain rfl : m = 13 := by omega
          have HB := Lib.hid (hbest.out.trans (bestOpA_end _ b kd))
          have hX2 := hX1.out
          rw [HB.out] at hX2
          dsimp only at hX2
          have HX2 := Lib.hid hX2
          clear hbest hO hX1 hX2 HB
          have c1 := hR.c1
          have f1 := hR.f1
          have hl1 := hB1.lt
          have hl2 := hB2.lt
          have n4 : ¬ r = w.heap.size := by omega
          have n5 : ¬ w.heap.size = r := by omega
          have n6 : ¬ tb = w.heap.size := by omega
          have n7 : ¬ w.heap.size = tb := by omega
          have tc0 := hB1.cell 0 rfl
          have tc1 := hB1.cell 1 rfl
          have tc2 := hB1.cell 2 rfl
          have tf0 := hB1.free 0
          have tf1 := hB1.free 1
          have tf2 := hB1.free 2
          have uc0 := hB2.cell 0 rfl
          have uc1 := hB2.cell 1 rfl
          have uc2 := hB2.cell 2 rfl
          have uf0 := hB2.free 0
          have uf1 := hB2.free 1
          have uf2 := hB2.free 2
          by_cases hbe : b = []
          · have hX3 := Lib.hid ((if_neg (by simp [hbe])).symm.trans HX2.out)
            have hk0 := hkd.out hbe
            subst hbe hk0
            have e1 : (bs []).toList = [] := by rw [Lib.toList_data, bs_list]
            have e2 : (bs []).toList.isEmpty = true := by rw [e1]; rfl
            have HP := Lib.hid fun w5 h => tPeek r q s t v j w5 hs' hlt h
            clear HX2 hkd hbl
            by_cases h38 : (bat s t).toNat = 38
            · have HX := Lib.hid ((if_pos h38).symm.trans hX3.out)
              have d1 : (((bat s t).toNat : Int) == 38) = true := by rw [beq_iff_eq]; omega
              have hev := hK.cell (hE 107 1 (by decide)) (fun e => hG 107 1 (by decide) e)
              clear hX3 h38
              go_upto_region 22 with (go_at_call 79; refine (HP.out _ hR).mono ?_; rintro e w4 ⟨rfl, hb4⟩)
              have hB14 := hB1.below hb4
              have hK4 := hK.andBelow hb4
              have hev4 := bSome hb4 hev
              have c14 := bSome hb4 c1
              have l3 : r < w4.heap.size := Nat.lt_of_lt_of_le hR.here.lt hb4.size
              have l4 := block_lt_of_cell hev4
              have l5 : 1 < w.heap.size := block_lt_of_cell (hE 107 1 (by decide))
              have m3 : ¬ w.heap.size = 1 := by omega
              have m4 : ¬ 1 = w.heap.size := by omega
              have l6 := hB14.lt
              clear hR hB1 hB2 hK hb4 hev c1 f1 tc0 tc1 tc2 tf0 tf1 tf2 uc0 uc1 uc2 uf0 uf1 uf2 HP
              have tc0 := hB14.cell 0 rfl
              have tc1 := hB14.cell 1 rfl
              have tc2 := hB14.cell 2 rfl
              have tf0 := hB14.free 0
              have tf1 := hB14.free 1
              have tf2 := hB14.free 2
              go_region_held3 (fun w' => w'.cell? ⟨r, 1, none⟩ = some (.int .i64 (t : Int)) ∧ w'.cell? ⟨1, 0, none⟩ = some (.iface 151 (.pointer (some (sent 107))))) (first | go_keep)
                (first
                  | (go_at_call 80; refine (aFault_any _ _ _ _).mono ?_; rintro e w5 ⟨rfl, rfl⟩))
              go_wp2_with fail
              (try simp only [Exit.inBlock, Exit.then])
              refine bodyPost_ret (results_blk (p := 2) (u := 3) (g := w.heap.size) (cs := [.int .i64 0, .int .i64 0, .slice none 0 0]) rfl _ _ _ rfl ?_ Tryd.underlying59 rfl (by kernel_rfl)) rfl (TokPost.bad (b := w4.heap.size) HX rfl ?_ ?_)
              · apply Blk.as
                repeat (first | (with_reducible assumption) | ((with_reducible apply Blk.newAt); (focus (simp; done))) | (with_reducible apply Blk.set) | ((with_reducible apply Blk.other); (case hp => first | omega | (simp; omega) | simp)) | (with_reducible apply Blk.alloc) | (with_reducible apply Blk.drewN) | (with_reducible apply Blk.drew))
                rfl
              · unfold ErrAt
                apply Blk.as
                repeat (first | (with_reducible assumption) | ((with_reducible apply Blk.newAt); (focus (simp; done))) | (with_reducible apply Blk.set) | ((with_reducible apply Blk.other); (case hp => first | omega | (simp; omega) | simp)) | (with_reducible apply Blk.alloc) | (with_reducible apply Blk.drewN) | (with_reducible apply Blk.drew))
                rfl
              · repeat (first | (with_reducible assumption) | (with_reducible exact Kept.refl _ _) | ((with_reducible refine Kept.setCell ?_ ?_ _); rotate_left; (focus (first | exact fun _ => rfl | exact fun h => absurd h (by first | omega | (simp; omega) | simp)))) | (with_reducible refine Kept.alloc ?_ _) | (with_reducible refine Kept.drewN ?_ _) | (with_reducible refine Kept.drew ?_))
            · have hX4 := Lib.hid ((if_neg h38).symm.trans hX3.out)
              have d1 : (((bat s t).toNat : Int) == 38) = false := by rw [beq_eq_false_iff_ne]; omega
              clear hX3 h38
              go_upto_region 25 with (go_at_call 79; refine (HP.out _ hR).mono ?_; rintro e w4 ⟨rfl, hb4⟩; have uc0' := bSome hb4 uc0; have uf0' := bFree hb4 uc0 uf0)
              have hR4 := hR.below hb4
              have hB14 := hB1.below hb4
              have hB24 := hB2.below hb4
              have hK4 := hK.andBelow hb4
              clear uc0' uf0'
              refine wp_world (fun w5 => TRd w5 r q s t v j ∧ Blk w5 w.heap.size [.int .i64 0, .int .i64 0, .slice none 0 0] ∧ Blk w5 tb [.int .i64 13, .int .i64 t, .slice none 0 0] ∧ Kept (At r) w w5) ⟨?_, ?_, ?_, ?_⟩ ?_
              · repeat (first | (with_reducible assumption) | ((with_reducible refine TRd.moveTo ?_ ?_); rotate_left; (focus go_num)) | (with_reducible exact TRdAny.of (by assumption)) | ((with_reducible refine TRdAny.other ?_ ?_ ?_ _); rotate_left; (focus (first | omega | (simp; omega) | simp)); (focus (first | omega | (simp; omega) | simp))) | ((with_reducible refine TRd.other ?_ ?_ ?_ _); rotate_left; (focus (first | omega | (simp; omega) | simp)); (focus (first | omega | (simp; omega) | simp))) | (with_reducible refine TRd.alloc ?_ _) | (with_reducible refine TRd.drew ?_))
              · apply Blk.as
                repeat (first | (with_reducible assumption) | ((with_reducible apply Blk.newAt); (focus (simp; done))) | (with_reducible apply Blk.set) | ((with_reducible apply Blk.other); (case hp => first | omega | (simp; omega) | simp)) | (with_reducible apply Blk.alloc) | (with_reducible apply Blk.drewN) | (with_reducible apply Blk.drew))
                rfl
              · apply Blk.as
                repeat (first | (with_reducible assumption) | ((with_reducible apply Blk.newAt); (focus (simp; done))) | (with_reducible apply Blk.set) | ((with_reducible apply Blk.other); (case hp => first | omega | (simp; omega) | simp)) | (with_reducible apply Blk.alloc) | (with_reducible apply Blk.drewN) | (with_reducible apply Blk.drew))
                rfl
              · repeat (first | (with_reducible assumption) | (with_reducible exact Kept.refl _ _) | ((with_reducible refine Kept.setCell ?_ ?_ _); rotate_left; (focus (first | exact fun _ => rfl | exact fun h => absurd h (by first | omega | (simp; omega) | simp)))) | (with_reducible refine Kept.alloc ?_ _) | (with_reducible refine Kept.drewN ?_ _) | (with_reducible refine Kept.drew ?_))
              intro w5 ⟨hR5, hB5, hT5, hK5⟩
              clear hR hB1 hB2 hK hb4 hR4 hB14 hB24 hK4 c1 f1 tc0 tc1 tc2 tf0 tf1 tf2 uc0 uc1 uc2 uf0 uf1 uf2 HP
              have hE5 : Env w5 sent := fun c g hg => hK5.cell (hE c g hg) (fun e => hG c g hg e)
              have hT5l := hT5.lt
              have hB5l := hB5.lt
              cases hw : wordA s.data.toList (s.size + 1) t [] false with
              | error e =>
                obtain ⟨ec, ep⟩ := e
                rw [hw] at hX4
                have HX := Lib.hid hX4.out
                dsimp only at HX
                have HW := Lib.hid (aWord_any r q s t v j w5 hs hts hR5.here hR5.src hR5.ne sent hE5 hG (.error (ec, ep)) (Lib.hid (by rw [size_eq]; exact hw)))
                clear hX4 hw
                go_wp2_with (go_at_call 81; refine HW.out.mono ?_; rintro e w6 hst; obtain ⟨b, rfl, hE6, hK6⟩ := hst; have hB6 := hB5.kept hK6 (fun e => n5 e); have hT6 := hT5.kept hK6 (fun e => n1 e); have tc0 := hB6.cell 0 rfl; have tc1 := hB6.cell 1 rfl; have tc2 := hB6.cell 2 rfl; have tf0 := hB6.free 0; have tf1 := hB6.free 1; have tf2 := hB6.free 2; have uc2 := hT6.cell 2 rfl; have uf2 := hT6.free 2)
                have nb1 := Blk.apart hE6 hB6 (by simp)
                have nb2 := Blk.apart hE6 hT6 (by simp)
                have hK6' := hK5.same hK6
                unfold ErrAt at hE6
                (try simp only [Exit.inBlock, Exit.then])
                refine bodyPost_ret (results_blk (p := 2) (u := 3) (g := w.heap.size) (cs := [.int .i64 0, .int .i64 0, .slice none 0 0]) rfl _ _ _ rfl ?_ Tryd.underlying59 rfl (by kernel_rfl)) rfl (TokPost.bad (b := b) HX rfl ?_ ?_)
                · apply Blk.as
                  repeat (first | (with_reducible assumption) | ((with_reducible apply Blk.newAt); (focus (simp; done))) | (with_reducible apply Blk.set) | ((with_reducible apply Blk.other); (case hp => first | omega | (simp; omega) | simp)) | (with_reducible apply Blk.alloc) | (with_reducible apply Blk.drewN) | (with_reducible apply Blk.drew))
                  rfl
                · unfold ErrAt
                  apply Blk.as
                  repeat (first | (with_reducible assumption) | ((with_reducible apply Blk.newAt); (focus (simp; done))) | (with_reducible apply Blk.set) | ((with_reducible apply Blk.other); (case hp => first | omega | (simp; omega) | simp)) | (with_reducible apply Blk.alloc) | (with_reducible apply Blk.drewN) | (with_reducible apply Blk.drew))
                  rfl
                · repeat (first | (with_reducible assumption) | (with_reducible exact Kept.refl _ _) | ((with_reducible refine Kept.setCell ?_ ?_ _); rotate_left; (focus (first | exact fun _ => rfl | exact fun h => absurd h (by first | omega | (simp; omega) | simp)))) | (with_reducible refine Kept.alloc ?_ _) | (with_reducible refine Kept.drewN ?_ _) | (with_reducible refine Kept.drew ?_))
              | ok st =>
                obtain ⟨k, P⟩ := st
                rw [hw] at hX4
                have HX := Lib.hid hX4.out
                dsimp only at HX
                have HW := Lib.hid (aWord_any r q s t v j w5 hs hts hR5.here hR5.src hR5.ne sent hE5 hG (.ok (k, P)) (Lib.hid (by rw [size_eq]; exact hw)))
                clear hX4 hw
                go_wp2_with (go_at_call 81; refine HW.out.mono ?_; rintro e w6 hst; obtain ⟨v', j', rfl, hR6, hK6⟩ := hst; obtain ⟨ao, cap, rfl⟩ := hR6.row.form; have hB6 := hB5.kept hK6 (fun e => n5 e); have hT6 := hT5.kept hK6 (fun e => n1 e); have tc0 := hB6.cell 0 rfl; have tc1 := hB6.cell 1 rfl; have tc2 := hB6.cell 2 rfl; have tf0 := hB6.free 0; have tf1 := hB6.free 1; have tf2 := hB6.free 2; have uc0 := hT6.cell 0 rfl; have uc1 := hT6.cell 1 rfl; have uc2 := hT6.cell 2 rfl; have uf2 := hT6.free 2)
                have hH6 := hR6.here
                have hQ6 := hR6.src
                have hT7 : TRd w6 r q s k _ j' := ⟨hH6, hQ6, hR6.ne⟩
                have hW6 := hR6.row
                have hK6' := hK5.same hK6
                have lw : w.heap.size < w5.heap.size := hB5l
                (try simp only [Exit.inBlock, Exit.then])
                refine bodyPost_ret (results_blk (p := 2) (u := 3) (g := w.heap.size) (cs := [.int .i64 13, .int .i64 t, .slice ao P.length cap]) rfl _ _ _ rfl ?_ Tryd.underlying59 rfl (by kernel_rfl)) rfl (TokPost.ok (v' := .slice ao P.length cap) (j' := j') HX rfl (PartsAt.mono (B := w5.heap.size) ?_ (by omega)) ?_ ?_)
                · apply Blk.as
                  repeat (first | (with_reducible assumption) | ((with_reducible apply Blk.newAt); (focus (simp; done))) | (with_reducible apply Blk.set) | ((with_reducible apply Blk.other); (case hp => first | omega | (simp; omega) | simp)) | (with_reducible apply Blk.alloc) | (with_reducible apply Blk.drewN) | (with_reducible apply Blk.drew))
                  rfl
                · repeat (first | (with_reducible assumption) | ((with_reducible refine PartsAt.other ?_ ?_ _); rotate_left; (focus (first | omega | (simp; omega)))))
                · repeat (first | (with_reducible assumption) | ((with_reducible refine TRd.moveTo ?_ ?_); rotate_left; (focus go_num)) | (with_reducible exact TRdAny.of (by assumption)) | ((with_reducible refine TRdAny.other ?_ ?_ ?_ _); rotate_left; (focus (first | omega | (simp; omega) | simp)); (focus (first | omega | (simp; omega) | simp))) | ((with_reducible refine TRd.other ?_ ?_ ?_ _); rotate_left; (focus (first | omega | (simp; omega) | simp)); (focus (first | omega | (simp; omega) | simp))) | (with_reducible refine TRd.alloc ?_ _) | (with_reducible refine TRd.drew ?_))
                · repeat (first | (with_reducible assumption) | (with_reducible exact Kept.refl _ _) | ((with_reducible refine Kept.setCell ?_ ?_ _); rotate_left; (focus (first | exact fun _ => rfl | exact fun h => absurd h (by first | omega | (simp; omega) | simp)))) | (with_reducible refine Kept.alloc ?_ _) | (with_reducible refine Kept.drewN ?_ _) | (with_reducible refine Kept.drew ?_))
          · have HX := Lib.hid ((if_pos hbe).symm.trans HX2.out)
            have hz : 0 < (bs b).size := by
              rw [bs_size]
              cases b with
              | nil => exact absurd rfl hbe
              | cons _ _ => simp
            obtain ⟨e1, e2⟩ := ne_empty _ hz
            have hbs3 : (bs b).size ≤ 3 := by rw [bs_size]; exact hbl
            have HZ := Lib.hid (bs_size b)
            clear HX2 hkd hbl hbe hz
            go_wp2_with fail
            (try simp only [Exit.inBlock, Exit.then])
            refine bodyPost_ret (results_blk (p := 2) (u := 3) (g := w.heap.size) (cs := [.int .i64 kd, .int .i64 t, .slice none 0 0]) rfl _ _ _ rfl ?_ Tryd.underlying59 rfl (by kernel_rfl)) rfl (TokPost.ok (v' := v) (j' := j) HX rfl (PartsAt.nil _ _) ?_ ?_)
            · apply Blk.as
              repeat (first | (with_reducible assumption) | ((with_reducible apply Blk.newAt); (focus (simp; done))) | (with_reducible apply Blk.set) | ((with_reducible apply Blk.other); (case hp => first | omega | (simp; omega) | simp)) | (with_reducible apply Blk.alloc) | (with_reducible apply Blk.drewN) | (with_reducible apply Blk.drew))
              rfl
            · rw [← HZ.out]
              repeat (first | (with_reducible assumption) | ((with_reducible refine TRd.moveTo ?_ ?_); rotate_left; (focus go_num)) | (with_reducible exact TRdAny.of (by assumption)) | ((with_reducible refine TRdAny.other ?_ ?_ ?_ _); rotate_left; (focus (first | omega | (simp; omega) | simp)); (focus (first | omega | (simp; omega) | simp))) | ((with_reducible refine TRd.other ?_ ?_ ?_ _); rotate_left; (focus (first | omega | (simp; omega) | simp)); (focus (first | omega | (simp; omega) | simp))) | (with_reducible refine TRd.alloc ?_ _) | (with_reducible refine TRd.drew ?_))
            · repeat (first | (with_reducible assumption) | (with_reducible exact Kept.refl _ _) | ((with_reducible refine Kept.setCell ?_ ?_ _); rotate_left; (focus (first | exact fun _ => rfl | exact fun h => absurd h (by first | omega | (simp; omega) | simp)))) | (with_reducible refine Kept.alloc ?_ _) | (with_reducible refine Kept.drewN ?_ _) | (with_reducible refine Kept.drew ?_))
    · have HX := Lib.hid ((if_pos (by omega)).symm.trans hX.out)
      have HM := Lib.hid fun w5 h => tMore r q s t v j w5 hs' (by omega) h false (Lib.hid (by rw [decide_eq_false_iff_not]; exact hlt))
      clear hX
      go_upto_region 10 with (go_at_call 78; refine (HM.out _ hR3).mono ?_; rintro e w4 ⟨rfl, hb4⟩)
      have hR4 := hR3.below hb4
      have hB4 := hB3.below hb4
      have hT4 := hT3.below hb4
      have hK4 := hK3.andBelow hb4
      clear hR3 hB3 hT3 hK3 hb4 HM
      have tc0 := hB4.cell 0 rfl
      have tc1 := hB4.cell 1 rfl
      have tc2 := hB4.cell 2 rfl
      have tf0 := hB4.free 0
      have tf1 := hB4.free 1
      have tf2 := hB4.free 2
      have uc0 := hT4.cell 0 rfl
      have uc1 := hT4.cell 1 rfl
      have uc2 := hT4.cell 2 rfl
      have uf0 := hT4.free 0
      have uf1 := hT4.free 1
      have uf2 := hT4.free 2
      go_wp2_with fail
      (try simp only [Exit.inBlock, Exit.then])
      refine bodyPost_ret (results_blk (p := 2) (u := 3) (g := w.heap.size) (cs := [.int .i64 0, .int .i64 t, .slice none 0 0]) rfl _ _ _ rfl ?_ Tryd.underlying59 rfl (by kernel_rfl)) rfl (TokPost.ok (v' := v) (j' := j) HX rfl (PartsAt.nil _ _) ?_ ?_)
      · apply Blk.as
        repeat (first | (with_reducible assumption) | ((with_reducible apply Blk.newAt); (focus (simp; done))) | (with_reducible apply Blk.set) | ((with_reducible apply Blk.other); (case hp => first | omega | (simp; omega) | simp)) | (with_reducible apply Blk.alloc) | (with_reducible apply Blk.drewN) | (with_reducible apply Blk.drew))
        rfl
      · repeat (first | (with_reducible assumption) | ((with_reducible refine TRd.moveTo ?_ ?_); rotate_left; (focus go_num)) | (with_reducible exact TRdAny.of (by assumption)) | ((with_reducible refine TRdAny.other ?_ ?_ ?_ _); rotate_left; (focus (first | omega | (simp; omega) | simp)); (focus (first | omega | (simp; omega) | simp))) | ((with_reducible refine TRd.other ?_ ?_ ?_ _); rotate_left; (focus (first | omega | (simp; omega) | simp)); (focus (first | omega | (simp; omega) | simp))) | (with_reducible refine TRd.alloc ?_ _) | (with_reducible refine TRd.drew ?_))
      · repeat (first | (with_reducible assumption) | (with_reducible exact Kept.refl _ _) | ((with_reducible refine Kept.setCell ?_ ?_ _); rotate_left; (focus (first | exact fun _ => rfl | exact fun h => absurd h (by first | omega | (simp; omega) | simp)))) | (with_reducible refine Kept.alloc ?_ _) | (with_reducible refine Kept.drewN ?_ _) | (with_reducible refine Kept.drew ?_))

end Go.Proofs.YtdadgodjjfgmfaaDoor
