/- Dialect B's parser: a turn; turns around a command. -/
import Derived.Test.YtepebnblbheegaaGreatDoorBBackG
import Derived.Test.YtepebnblbheegaaGreatDoorBTurnG
namespace Go.Proofs.YtepebnblbheegaaGreatDoor
open Go Go.RowKit

/-- What a turn leaves. -/
def TnOut (w : World) (b g cap : Nat) (ts : List BTok) (d k : Nat) (sent : Nat → Addr) (r : Except (Nat × Nat) (Prog × Nat)) (e : Ending) (w' : World) : Prop :=
  Kept (At b) w w' ∧ match r with
  | .ok (l, j) => ∃ v, e = .returned (.tuple #[.agg #[.int .i64 (k : Int), v], .nilIface]) ∧ NSl w' b v l ∧ PSt w' b g cap ts j d
  | .error (c, p) => ∃ v u j, e = .returned (.tuple #[.agg #[.int .i64 (k : Int), v], u]) ∧ (∃ ao n cp, v = .slice ao n cp) ∧ PErr w w' sent c p u ∧ PSt w' b g cap ts j d
theorem TnOut.ok {w w' : World} {b g cap : Nat} {ts : List BTok} {d k : Nat} {sent : Nat → Addr} {l : Prog} {j : Nat} {v : Value} {r : Except (Nat × Nat) (Prog × Nat)} {e : Ending} (hr : r = .ok (l, j)) (he : e = .returned (.tuple #[.agg #[.int .i64 (k : Int), v], .nilIface])) (h1 : NSl w' b v l) (h2 : PSt w' b g cap ts j d) (hk : Kept (At b) w w') : TnOut w b g cap ts d k sent r e w' := by
  subst hr
  exact ⟨hk, v, he, h1, h2⟩
theorem TnOut.bad {w w' : World} {b g cap : Nat} {ts : List BTok} {d k : Nat} {sent : Nat → Addr} {c p j : Nat} {v u : Value} {r : Except (Nat × Nat) (Prog × Nat)} {e : Ending} (hr : r = .error (c, p)) (he : e = .returned (.tuple #[.agg #[.int .i64 (k : Int), v], u])) (hv : ∃ ao n cp, v = .slice ao n cp) (h1 : PErr w w' sent c p u) (h2 : PSt w' b g cap ts j d) (hk : Kept (At b) w w') : TnOut w b g cap ts d k sent r e w' := by
  subst hr
  exact ⟨hk, v, u, j, he, hv, h1, h2⟩

set_option maxHeartbeats 8000000 in
set_option maxRecDepth 100000 in
theorem pTurn_walk {b g cap : Nat} {ts : List BTok} {sent : Nat → Addr} (T : PTs cap ts) (f : Nat) (ih : DoesW b g cap ts sent f) (w : World) (i d : Nat) (r : Except (Nat × Nat) (Prog × Nat)) (hd : d ≤ 31) (hi : i < ts.length) (hS : PSt w b g cap ts i d) (hE : EnvB w b sent) (hr : Hid (pWord ts f d (skP ts i) 0 = some r)) :
    Calls Tryz.prog 237 #[.pointer (some ⟨b, 0, none⟩)] w (TnOut w b g cap ts d (tkAt ts i).kind sent r) := by
  have hbl := hS.blt
  have hgl := hS.glt
  have F := T.fix
  have hf0 := tok_f0
  have IH := Lib.hid ih
  clear ih
  have hj := (skP_le (ts := ts) hi).2
  obtain ⟨j, hjj⟩ : ∃ j, skP ts i = j := ⟨_, rfl⟩
  rw [hjj] at hr hj
  obtain ⟨tk, htk⟩ : ∃ tk, tkAt ts i = tk := ⟨_, rfl⟩
  rw [htk]
  have hx := World.alloc_heap_new w (.cells #[Value.int .i64 0, .slice none 0 0] 254)
  have hb0 := (Below.refl w.heap.size w).alloc (Nat.le_refl _) (.cells #[Value.int .i64 0, .slice none 0 0] 254)
  have hS0 := hS.below hb0
  have hE0 := hE.below hb0
  have hK0 := (Kept.refl (At b) w).andBelow hb0
  clear hS hE
  go_enter Tryz.func237, Tryz.ntmps237
  go_wp2_with fail
  refine (pNow_any F hS0 hi).mono ?_
  rintro e w1 ⟨rfl, hb1⟩
  rw [htk]
  unfold BTok.cells
  have hx1 := (hb1.block _ (lt_of_block hx)).trans hx
  have hS1 := hS0.below hb1
  have hE1 := hE0.below hb1
  have hK1 := hK0.andBelow hb1
  clear hx hb0 hS0 hE0 hK0 hb1 htk
  go_wp2_with fail
  refine (pSkip_any F hS1 hi).mono ?_
  rintro e w2 ⟨rfl, hS2, hK2⟩
  rw [hjj] at hS2
  have hx2 := (hK2.block _ (lt_of_block hx1) (fun e => by unfold At at e; omega)).trans hx1
  have hE2 := hE1.kept hK2
  have hK3 := hK1.same hK2
  clear hx1 hS1 hE1 hK1 hK2
  have HD := Lib.hid (IH.out w2 j d 0 r hd (by omega) hj hS2 hE2 hr)
  have hsz2 := hK3.size
  have hlt2 := lt_of_block hx2
  go_wp2_with fail
  refine HD.out.mono ?_
  cases r with
  | error e0 =>
    obtain ⟨c0, p0⟩ := e0
    rintro e w5 ⟨hK5, v, u, j', l0, rfl, h0, -, ⟨eb, rfl, q2, q3⟩, hS5⟩
    obtain ⟨va, vc, rfl⟩ := h0.form
    have hx5 := (hK5.block _ (lt_of_block hx2) (fun e => by unfold At at e; omega)).trans hx2
    have hBx5 : Blk w5 w.heap.size [Value.int .i64 0, .slice none 0 0] := ⟨_, hx5⟩
    have x0 := hBx5.cell 0 rfl
    have x1 := hBx5.cell 1 rfl
    have f0 := hBx5.free 0
    have f1 := hBx5.free 1
    have hK6 := hK3.same hK5
    go_wp2_with fail
    have hB9 := (hBx5.set 0 (.int .i64 (tk.kind : Int))).set 1 (.slice va l0.length vc)
    have hb9 := ((Below.refl w.heap.size w5).setCell (p := ⟨w.heap.size, 0, none⟩) (Nat.le_refl _) (.int .i64 (tk.kind : Int))).setCell (p := ⟨w.heap.size, 1, none⟩) (Nat.le_refl _) (.slice va l0.length vc)
    have hK9 := (hK6.setCell (p := ⟨w.heap.size, 0, none⟩) (fun h => absurd h (by simp)) (.int .i64 (tk.kind : Int))).setCell (p := ⟨w.heap.size, 1, none⟩) (fun h => absurd h (by simp)) (.slice va l0.length vc)
    have hS9 := hS5.belowB hb9 hbl hgl
    unfold ErrAt at q2
    have hE9 := (q2.other (p := ⟨w.heap.size, 0, none⟩) (by show w.heap.size ≠ eb; omega) (.int .i64 (tk.kind : Int))).other (p := ⟨w.heap.size, 1, none⟩) (by show w.heap.size ≠ eb; omega) (.slice va l0.length vc)
    refine bodyPost_ret (results_blk (p := 2) (u := 3) (g := w.heap.size) (cs := [.int .i64 (tk.kind : Int), .slice va l0.length vc]) rfl _ _ _ rfl hB9 Tryz.underlying254 rfl (by kernel_rfl)) rfl (TnOut.bad rfl rfl ⟨_, _, _, rfl⟩ ⟨eb, rfl, hE9, by omega⟩ hS9 hK9)
  | ok q =>
    obtain ⟨l, e2⟩ := q
    rintro e w5 ⟨hK5, v, rfl, hN, hS5⟩
    obtain ⟨ga, gc, rfl, -⟩ := id hN
    have hx5 := (hK5.block _ (lt_of_block hx2) (fun e => by unfold At at e; omega)).trans hx2
    have hBx5 : Blk w5 w.heap.size [Value.int .i64 0, .slice none 0 0] := ⟨_, hx5⟩
    have x0 := hBx5.cell 0 rfl
    have x1 := hBx5.cell 1 rfl
    have f0 := hBx5.free 0
    have f1 := hBx5.free 1
    have hK6 := hK3.same hK5
    go_wp2_with fail
    have hB9 := (hBx5.set 0 (.int .i64 (tk.kind : Int))).set 1 (.slice (some ⟨ga, 0, none⟩) l.length gc)
    have hb9 := ((Below.refl w.heap.size w5).setCell (p := ⟨w.heap.size, 0, none⟩) (Nat.le_refl _) (.int .i64 (tk.kind : Int))).setCell (p := ⟨w.heap.size, 1, none⟩) (Nat.le_refl _) (.slice (some ⟨ga, 0, none⟩) l.length gc)
    have hK9 := (hK6.setCell (p := ⟨w.heap.size, 0, none⟩) (fun h => absurd h (by simp)) (.int .i64 (tk.kind : Int))).setCell (p := ⟨w.heap.size, 1, none⟩) (fun h => absurd h (by simp)) (.slice (some ⟨ga, 0, none⟩) l.length gc)
    have hS9 := hS5.belowB hb9 hbl hgl
    have hN9 := hN.of_block (w' := (w5.setCell ⟨w.heap.size, 0, none⟩ (.int .i64 (tk.kind : Int))).setCell ⟨w.heap.size, 1, none⟩ (.slice (some ⟨ga, 0, none⟩) l.length gc)) fun g cur fz h4 _ => by
      have hne : g ≠ w.heap.size := fun e => by
        subst e
        have h9 := h4.symm.trans hx5
        injection h9 with h9
        injection h9 with _ h9 _
        exact absurd h9 (by decide)
      exact (Below.heap_setCell _ _ _ _ hne).trans (Below.heap_setCell _ _ _ _ hne)
    refine bodyPost_ret (results_blk (p := 2) (u := 3) (g := w.heap.size) (cs := [.int .i64 (tk.kind : Int), .slice (some ⟨ga, 0, none⟩) l.length gc]) rfl _ _ _ rfl hB9 Tryz.underlying254 rfl (by kernel_rfl)) rfl (TnOut.ok rfl rfl hN9 hS9 hK9)

theorem turn_kind_le {ts : List BTok} {i : Nat} (h : turningP ts i = true) : (tkAt ts i).kind ≤ 100 := by
  have := turning_kind h
  omega

set_option maxHeartbeats 16000000 in
set_option maxRecDepth 100000 in
theorem pTurns_walk {b g cap : Nat} {ts : List BTok} {sent : Nat → Addr} (T : PTs cap ts) (f : Nat) (ih : ∀ f' < f, DoesW b g cap ts sent f') : DoesT b g cap ts sent f := by
  intro w i d r c vc hd hi hS hE hc hcl hr
  have hbl := hS.blt
  have hgl := hS.glt
  have F := T.fix
  have hcap := F.num
  obtain ⟨i0, hi0, hz0, hz1, hz2⟩ := info_parts infoTurns
  have IH := Lib.hid ih
  have HC := Lib.hid hc
  obtain ⟨gv, cv, rfl, -⟩ := hc
  generalize hcz : c.length = z at *
  have HCZ := Lib.hid hcz
  clear ih hcz
  go_enter Tryz.func212, Tryz.ntmps212
  go_wp2_with fail
  go_loopg [6, 7, 8] (ts.length - i) (fun m v t er wr => ∃ (k fk : Nat) (L : List (Nat × Prog)), m = ts.length - k ∧ k < ts.length ∧ fk ≤ f ∧ L.length ≤ k ∧ Hid (∀ t ∈ L, t.1 ≤ 100 ∧ t.2.length ≤ 50000) ∧ Kept (At b) w wr ∧ PSt wr b g cap ts k d ∧ TOwn wr w.heap.size b v L ∧ Hid (pTurns ts fk d k c L = some r))
  case atStart => exact ⟨i, f, [], rfl, hi, Nat.le_refl _, by simp, Lib.hid (fun _ h => nomatch h), Kept.refl _ _, hS, TOwn.nil _ _ _, hr⟩
  case round =>
    clear hS hr hi
    obtain ⟨k, fk, L, rfl, hk, hfk, hL1, hL2, hK, hS, hO, hr⟩ := hrel
    obtain ⟨fk, rfl⟩ : ∃ q, fk = q + 1 := by
      cases fk with
      | zero => have := hr.out; rw [pTurns] at this; cases this
      | succ q => exact ⟨q, rfl⟩
    obtain ⟨ao, acap, rfl⟩ := hO.form
    have HP := Lib.hid hr.out
    rw [pTurns] at HP
    clear hr
    go_wp2_with fail
    refine (pTurning_any F hS hk).mono ?_
    rintro e w1 ⟨rfl, hb1⟩
    have hS1 := hS.below hb1
    have hO1 := hO.below hbl hb1
    have hK1 := hK.andBelow hb1
    have hE1 := hE.kept hK1
    have hsz := hK1.size
    clear hS hO hK hb1
    by_cases x0 : turningP ts k = true
    · rw [if_pos x0] at HP
      have hkd := turn_kind_le x0
      rw [x0]
      have hj := (skP_le (ts := ts) hk).2
      cases hq : pWord ts fk d (skP ts k) 0 with
      | none =>
        rw [hq] at HP
        exact (go_none HP.out).elim
      | some rc =>
        rw [hq] at HP
        have HD := Lib.hid (pTurn_walk T fk (IH.out fk (by omega)) w1 k d rc hd hk hS1 hE1 (Lib.hid hq))
        clear hS1 x0
        obtain ⟨kd, hkk⟩ : ∃ kd, (tkAt ts k).kind = kd := ⟨_, rfl⟩
        rw [hkk] at HD HP hkd
        go_wp2_with fail
        refine HD.out.mono ?_
        cases rc with
        | error e0 =>
          obtain ⟨c0, p0⟩ := e0
          have HX := Lib.hid (some_err HP.out)
          clear HP hq HD
          rintro e w5 ⟨hK5, v, u, j', rfl, ⟨va, vn, vc, rfl⟩, ⟨eb, rfl, q2, q3⟩, hS5⟩
          go_wp2_with fail
          go_ret2
          unfold ErrAt at q2
          exact POut.bad HX.out rfl (.none _ _) (Nat.zero_le _) ⟨eb, rfl, q2.alloc _, by omega⟩ (hS5.alloc _) ((hK1.same hK5).alloc _)
        | ok q =>
          obtain ⟨l, e2⟩ := q
          obtain ⟨y1, y2, y3, y4⟩ := word_facts T (by omega) hj hq
          have hkk1 := skP_le (ts := ts) hk
          have HX := Lib.hid (show pTurns ts fk d e2 c (L ++ [(kd, l)]) = some r from HP.out)
          clear HP hq HD
          rintro e w5 ⟨hK5, v, rfl, hN, hS5⟩
          have hK6 := hK1.same hK5
          have HN := Lib.hid hN
          obtain ⟨ga, gc, rfl, -⟩ := hN
          have hO5 := hO1.kept hbl hK5
          have hsz5 := hK6.size
          have HL := Lib.hid (show ∀ t ∈ L ++ [(kd, l)], t.1 ≤ 100 ∧ t.2.length ≤ 50000 from fun t ht => by
            rcases List.mem_append.1 ht with ht | ht
            · exact hL2.out t ht
            · rw [List.mem_singleton] at ht
              subst ht
              exact ⟨hkd, by show l.length ≤ 50000; omega⟩)
          generalize hlz : l.length = lz at *
          have HLZ := Lib.hid hlz
          clear hK5 hO1 hK1 hlz hL2
          go_upto_region 6 with fail
          have hb6 := (Below.refl w5.heap.size w5).alloc (Nat.le_refl _) (.cells #[.int .i64 (kd : Int), .slice (some ⟨ga, 0, none⟩) lz gc] 254)
          have hB6 := Blk.new w5 [.int .i64 (kd : Int), .slice (some ⟨ga, 0, none⟩) lz gc] 254
          obtain ⟨w6, hw6⟩ : ∃ w6, w5.alloc (.cells #[.int .i64 (kd : Int), .slice (some ⟨ga, 0, none⟩) lz gc] 254) = w6 := ⟨_, rfl⟩
          rw [hw6] at hb6 ⊢
          have hB6 : Blk w6 w5.heap.size [.int .i64 (kd : Int), .slice (some ⟨ga, 0, none⟩) lz gc] := by rw [← hw6]; exact hB6
          have HN6 := Lib.hid (HN.out.below hb6)
          have hS6 := hS5.below hb6
          have hK7 := hK6.andBelow hb6
          have hsz6 := hb6.size
          have t0 := hB6.cell 0 rfl
          have t1 := hB6.cell 1 rfl
          obtain ⟨us, u1, u2, u3⟩ := hO5.below hbl hb6
          generalize w5.heap.size = tb at *
          clear hO5 hS5 HN hw6 hb6 hB6 hK6
          have hOA : ∀ o, (w6.alloc o).ownsRow w.heap.size 254 2 _ L.length _ := fun o => ownsRow_kept u2 (Kept.ofBelow (S := Nowhere) ((Below.refl _ w6).alloc (Nat.le_refl _) o)) (fun _ _ _ e => e)
          have hsz7 := hK7.size
          go_wp2_with (at_builtin; refine wpList_append_own _ rfl _ _ 252 rfl w.heap.size 254 i0 _ 2 32 Tryz.underlying252 hi0 hz0 hz1 hz2 rfl (by decide) _ _ _ rfl (hOA _) ⟨w6.heap.size, 0, none⟩ 1 1 [.int .i64 (kd : Int), .slice (some ⟨ga, 0, none⟩) lz gc] rfl rfl (cells_new (by simp)) (by intro u hu; simp at hu; rcases hu with rfl | rfl <;> rfl) (by unfold maxLen; omega) (by omega) (by simp; omega) ?_; intro v7 w7 hown' hgrow _)
          obtain ⟨hO7, hb7⟩ := TOwn.grown (w0 := w) (t := (kd, l)) hsz7 u1 u2 u3 (by have := HN6.out; exact this) hown' hgrow
          have hS7 := hS6.belowB hb7 hbl hgl
          have hK8 := hK7.belowB hb7 (Nat.le_refl _)
          go_wp2_with fail
          go_roundg (ts.length - e2)
          case measure => omega
          case rel => exact ⟨e2, fk, L ++ [(kd, l)], rfl, y2, by omega, by simp; omega, HL, hK8, hS7, hO7, HX⟩
    · have x0 : turningP ts k = false := by simpa using x0
      rw [x0, if_neg (by simp)] at HP
      have HX := Lib.hid (some_ok HP.out)
      rw [x0]
      have HA := Lib.hid (pAround_any L c b _ _ w1 (by omega) hO1.tsl (HC.out.kept hK1) (by have := HCZ.out; omega) hL2.out (by omega))
      clear HP x0
      go_wp2_with fail
      refine HA.out.mono ?_
      rintro e w5 ⟨v5, rfl, hN5, hb5⟩
      obtain ⟨g5, c5, rfl, -⟩ := id hN5
      go_wp2_with fail
      go_ret2
      exact POut.ok HX.out rfl hN5 (hS1.below hb5) (hK1.andBelow hb5)

end Go.Proofs.YtepebnblbheegaaGreatDoor

/- Dialect B's parser: a switch. -/
namespace Go.Proofs.YtepebnblbheegaaGreatDoor
open Go Go.RowKit

/-- One program, in a new block. -/
theorem KOwn.one {w : World} {B b : Nat} {u : Value} {l : Prog} (hB : B ≤ w.heap.size) (hu : NSl w b u l) : KOwn (w.alloc (.cells #[u] 23)) B b (.slice (some ⟨w.heap.size, 0, none⟩) 1 1) [l] := by
  refine ⟨[u], rfl, ⟨rfl, .inr ⟨w.heap.size, 1, #[u], rfl, hB, ?_, Nat.le_refl _, by unfold maxLen; omega, rfl, rfl⟩⟩, fun i x y hx hy => ?_⟩
  · show (w.heap.push _)[w.heap.size]? = _
    rw [Array.getElem?_push, if_pos rfl]
  · cases i with
    | zero =>
      cases hx
      cases hy
      exact hu.below ((Below.refl _ w).alloc (Nat.le_refl _) _)
    | succ i => simp at hx
/-- Two more, in memory. -/
theorem KOwn.grown2 {w0 w w' : World} {b : Nat} {v v' : Value} {L : List Prog} {l1 l2 : Prog} {p1 p2 : Value} {us : List Value} {o : Obj} (hs : w0.heap.size ≤ w.heap.size) (h1 : us.length = L.length) (h2 : w.ownsRow w0.heap.size 23 1 v L.length us) (h3 : ∀ (i : Nat) (u : Value) (l : Prog), us[i]? = some u → L[i]? = some l → NSl w b u l) (hu1 : NSl w b p1 l1) (hu2 : NSl w b p2 l2)
    (hown : w'.ownsRow w0.heap.size 23 1 v' (L.length + 2) (us ++ [p1, p2])) (hg : (w.alloc o).grownBy w' v.ownBlock) : KOwn w' w0.heap.size b v' (L ++ [l1, l2]) ∧ Below w0.heap.size w w' := by
  have hb1 := (Below.refl w.heap.size w).alloc (Nat.le_refl _) o
  have hrow : ∀ k, v.ownBlock = some k → ∃ cur fz t, (w.alloc o).heap[k]? = some (.cells cur t fz) ∧ t ≠ 82 := fun k hk => by
    obtain ⟨cur, fz, e⟩ := ownsRow_tag h2 k hk
    exact ⟨cur, fz, 23, (hb1.block k (lt_of_block e)).trans e, by decide⟩
  have hlt := World.ownsRow.lt h2
  have hsame : ∀ x l, NSl w b x l → NSl w' b x l := fun x l hx => (hx.below hb1).grown hg hrow
  refine ⟨⟨us ++ [p1, p2], by simp [h1], by rw [List.length_append]; exact hown, fun i x y hx hy => ?_⟩, ?_⟩
  · by_cases hi : i < us.length
    · rw [List.getElem?_append_left hi] at hx
      rw [List.getElem?_append_left (by omega)] at hy
      exact hsame _ _ (h3 i x y hx hy)
    · rw [List.getElem?_append_right (by omega)] at hx hy
      obtain ⟨k, hk⟩ : ∃ k, i - us.length = k := ⟨_, rfl⟩
      have hk2 : i - L.length = k := by omega
      rw [hk] at hx
      rw [hk2] at hy
      match k with
      | 0 =>
        cases hx
        cases hy
        exact hsame _ _ hu1
      | 1 =>
        cases hx
        cases hy
        exact hsame _ _ hu2
      | k + 2 => simp at hx
  · exact (hb1.mono hs).trans ((Kept.grown (S := fun k => some k = v.ownBlock) (Kept.refl _ _) hg (fun k h _ => h.symm)).below (by simp; omega) (fun i hi e => by have := hlt _ e.symm; omega))

theorem catP_pos (L : List Prog) (h : ∀ l ∈ L, 0 < l.length) : 0 < (catP L).length := by
  unfold catP
  split
  · exact h _ (by simp)
  · exact newP_pos _ _ _ _

set_option maxHeartbeats 32000000 in
set_option maxRecDepth 100000 in
theorem pChoose_walk {b g cap : Nat} {ts : List BTok} {sent : Nat → Addr} (T : PTs cap ts) (f : Nat) (ihw : DoesW b g cap ts sent f) (ihT : DoesT b g cap ts sent f) (ihWs : ∀ f' < f, DoesWs b g cap ts sent f') (ihL : ∀ f' < f, DoesL b g cap ts sent 36 (pList ts f')) : DoesK b g cap ts sent 217 (pChoose ts (f + 1)) := by
  intro w i d r hd hi hk0 hS hE hr
  have hbl := hS.blt
  have hgl := hS.glt
  have F := T.fix
  have hcap := F.num
  obtain ⟨k0, hk0, hk1, hk2, hk3⟩ := info_parts infoNodes
  have HR := Lib.hid hr.out
  rw [pChoose] at HR
  have IHw := Lib.hid ihw
  have IHT := Lib.hid ihT
  have IHWs := Lib.hid ihWs
  have IHL := Lib.hid ihL
  clear hr ihw ihT ihWs ihL
  have hi0 := (skP_le (ts := ts) hi).2
  obtain ⟨i0, hi00⟩ : ∃ i0, skP ts i = i0 := ⟨_, rfl⟩
  rw [hi00] at HR hi0
  go_enter Tryz.func217, Tryz.ntmps217
  go_wp2_with fail
  refine (pSkip_any F hS hi).mono ?_
  rintro e w0 ⟨rfl, hS0, hK0⟩
  rw [hi00] at hS0
  have hE0 := hE.kept hK0
  have hsz0 := hK0.size
  clear hS hi hi00
  by_cases x0 : isK ts i0 [6] = true
  · have HR1 := Lib.hid (takeP_yes x0 HR.out)
    have ha := (skP_le (ts := ts) hi0).2
    obtain ⟨a, haa⟩ : ∃ a, skP ts i0 = a := ⟨_, rfl⟩
    rw [haa] at HR1 ha
    clear HR
    go_wp2_with fail
    refine (pTake_yes F (hS0.alloc _) hi0 [6] _ _ (by decide) (show Blk _ _ [Value.int .i64 6] from Blk.new _ _ _) x0).mono ?_
    rintro e w1 ⟨rfl, hS1, hK7⟩
    have hKx := ((Kept.refl (At b) w0).alloc (.cells #[Value.int .i64 6] 3)).same hK7
    clear hK7
    rw [haa] at hS1
    have hE1 := hE0.kept hKx
    have hK1 := hK0.same hKx
    have hsz1 := hK1.size
    clear hS0 hE0 hKx x0 hK0
    cases hq : pWord ts f d a 0 with
    | none =>
      rw [hq] at HR1
      exact (go_none HR1.out).elim
    | some rc =>
      rw [hq] at HR1
      have HD := Lib.hid (IHw.out w1 a d 0 rc hd (by omega) ha hS1 hE1 (Lib.hid hq))
      clear hS1
      go_wp2_with fail
      refine HD.out.mono ?_
      cases rc with
      | error e0 =>
        obtain ⟨c0, p0⟩ := e0
        have HX := Lib.hid (some_err HR1.out)
        clear HR1 hq HD
        rintro e w5 ⟨hK7, v, u, j', l0, rfl, h0, -, ⟨eb, rfl, q2, q3⟩, hS5⟩
        obtain ⟨va, vc, rfl⟩ := h0.form
        go_wp2_with fail
        go_ret2
        exact POut.bad HX.out rfl (.none _ _) (Nat.zero_le _) ⟨eb, rfl, q2, by omega⟩ hS5 (hK1.same hK7)
      | ok q =>
        obtain ⟨wd, j⟩ := q
        obtain ⟨y1, y2, y3, y4⟩ := word_facts T (by omega) ha hq
        have y5 := ((postAll T.fix.good f).word d a 0 ha).1 wd j hq
        have HR2 := Lib.hid (show (takeP ts j [7] fun b => takeP ts (passT ts [1] b) [8] fun c => (pCases ts f d (passT ts [1, 2] c) [newP 9 0 [] [wd]]).go fun l k => takeP ts k [9] fun e => pTurns ts f d e (newP 30 0 [] l) []) = some r from HR1.out)
        clear HR1 hq HD
        rintro e w2 ⟨hK2, v, rfl, hN2, hS2⟩
        have hK3 := hK1.same hK2
        have hE2 := hE1.kept hK2
        have hsz3 := hK3.size
        clear hK1 hK2 hE1
        obtain ⟨wg, wc, rfl, -⟩ := id hN2
        by_cases x0 : isK ts j [7] = true
        · have HR3 := Lib.hid (takeP_yes x0 HR2.out)
          obtain ⟨s1, s2⟩ := skip_of F.good y2 (by decide) x0
          rw [s1] at HR3
          clear HR2
          go_wp2_with fail
          refine (pTake_yes F (hS2.alloc _) y2 [7] _ _ (by decide) (show Blk _ _ [Value.int .i64 7] from Blk.new _ _ _) x0).mono ?_
          rintro e w3 ⟨rfl, hS3, hK7⟩
          have hK4 := ((Kept.refl (At b) w2).alloc (.cells #[Value.int .i64 7] 3)).same hK7
          clear hK7
          rw [s1] at hS3
          have hE3 := hE2.kept hK4
          have hN3 := hN2.kept hK4
          have hK5 := hK3.same hK4
          have hsz5 := hK5.size
          clear hS2 hE2 hN2 hK3 hK4 x0 s1
          have hj1 := passT_le (ts := ts) [1] s2
          obtain ⟨j1, hjj1⟩ : ∃ j1, passT ts [1] (j + 1) = j1 := ⟨_, rfl⟩
          rw [hjj1] at HR3 hj1
          go_wp2_with fail
          refine (pPass_any F (hS3.alloc _) s2 [1] _ _ (by decide) (by decide) (show Blk _ _ [Value.int .i64 1] from Blk.new w3 _ _) (by omega)).mono ?_
          rintro e w4 ⟨rfl, hS4, hK6⟩
          rw [hjj1] at hS4
          have hK7 := ((Kept.refl (At b) w3).alloc _).same hK6
          have hN4 := hN3.kept hK7
          have hE4 := hE3.kept hK7
          have hK8 := hK5.same hK7
          have hsz8 := hK8.size
          clear hS3 hN3 hE3 hK5 hK6 hK7
          by_cases x0 : isK ts j1 [8] = true
          · have HR4 := Lib.hid (takeP_yes x0 HR3.out)
            obtain ⟨s3, s4⟩ := skip_of F.good hj1.2 (by decide) x0
            rw [s3] at HR4
            clear HR3
            go_wp2_with fail
            refine (pTake_yes F (hS4.alloc _) hj1.2 [8] _ _ (by decide) (show Blk _ _ [Value.int .i64 8] from Blk.new _ _ _) x0).mono ?_
            rintro e w5 ⟨rfl, hS5, hK7⟩
            have hK9 := ((Kept.refl (At b) w4).alloc (.cells #[Value.int .i64 8] 3)).same hK7
            clear hK7
            rw [s3] at hS5
            have hE5 := hE4.kept hK9
            have hN5 := hN4.kept hK9
            have hKa := hK8.same hK9
            have hsza := hKa.size
            clear hS4 hE4 hN4 hK8 hK9 x0 s3
            have hj2 := passT_le (ts := ts) [1, 2] s4
            obtain ⟨j2, hjj2⟩ : ∃ j2, passT ts [1, 2] (j1 + 1) = j2 := ⟨_, rfl⟩
            rw [hjj2] at HR4 hj2
            go_wp2_with fail
            refine (pPass_any F (hS5.alloc _) s4 [1, 2] _ _ (by decide) (by decide) (show Blk _ _ [Value.int .i64 1, Value.int .i64 2] from Blk.new w5 _ _) (by omega)).mono ?_
            rintro e w6 ⟨rfl, hS6, hKb⟩
            rw [hjj2] at hS6
            have hKc := ((Kept.refl (At b) w5).alloc _).same hKb
            have hN6 := hN5.kept hKc
            have hE6 := hE5.kept hKc
            have hKd := hKa.same hKc
            have hszd := hKd.size
            clear hS5 hN5 hE5 hKa hKb hKc
            have HN := Lib.hid (cNewS_any 9 0 [] [wd] b _ _ (by simp; omega) (KSl.new1 (w := w6) (by omega) (.inl hN6)) (by simp; omega) (by simp))
            go_wp2_with fail
            refine HN.out.mono ?_
            rintro e w7 ⟨v7, rfl, hN7, hb7⟩
            have hb8 := bNext ((Below.refl _ w6).alloc (Nat.le_refl _) _) hb7
            have hS7 := hS6.below hb8
            have hE7 := hE6.below hb8
            have hK7 := hKd.andBelow hb8
            have hsz7 := hK7.size
            have hO7 := KOwn.one (B := w.heap.size) (w := w7) hsz7 hN7
            have hb9 := (Below.refl w7.heap.size w7).alloc (Nat.le_refl _) (.cells #[v7] 23)
            have hl7 : (newP 9 0 [] [wd]).length = wd.length + 1 := (len_one _ _ _ _).1
            obtain ⟨fl, hfl⟩ : ∃ fl, newP 9 0 [] [wd] = fl := ⟨_, rfl⟩
            rw [hfl] at HR4 hN7 hO7 hl7
            obtain ⟨g7, c7, rfl, -⟩ := id hN7
            cases hq : pCases ts f d j2 [fl] with
            | none =>
              rw [hq] at HR4
              exact (go_none HR4.out).elim
            | some rr =>
              rw [hq] at HR4
              have HQ := Lib.hid hq
              have hfl : [fl].flatten.length ≤ 6 * j2 := by simp; omega
              have hb8 := hb9
              have HL7 := Lib.hid hl7
              clear hl7
              clear hq hb9 hN7 hS6 hE6 hKd hN6 hb7
              go_wp2_with fail
              have hS7 := hS7.alloc (.cells #[.slice (some ⟨g7, 0, none⟩) fl.length c7] 23)
              have hK7 := hK7.alloc (.cells #[.slice (some ⟨g7, 0, none⟩) fl.length c7] 23)
              obtain ⟨w8, hw8⟩ : ∃ w8, w7.alloc (.cells #[.slice (some ⟨g7, 0, none⟩) fl.length c7] 23) = w8 := ⟨_, rfl⟩
              have hsz9 : w7.heap.size ≤ w8.heap.size := by rw [← hw8]; simp
              rw [hw8] at hS7 hK7 hO7 hb8 ⊢
              obtain ⟨q7, hq7⟩ : ∃ q, w7.heap.size = q := ⟨_, rfl⟩
              rw [hq7] at hO7 ⊢
              clear hw8 hq7 hE7 hb8
              go_loopg [8, 9, 10, 11] (ts.length - j2) (fun m v ws er c wr => ∃ (k fk : Nat) (L : List Prog), m = ts.length - k ∧ k < ts.length ∧ fk ≤ f ∧ L.length ≤ k + 1 ∧ L.flatten.length ≤ 6 * k ∧ Hid (∀ l ∈ L, 0 < l.length) ∧ Kept (At b) w wr ∧ PSt wr b g cap ts k d ∧ KOwn wr w.heap.size b v L ∧ Hid (pCases ts fk d k L = some rr))
              case atStart => exact ⟨j2, f, [fl], rfl, hj2.2, Nat.le_refl _, by simp, hfl, Lib.hid (fun l hl => by rw [List.mem_singleton] at hl; subst hl; have := HL7.out; omega), hK7, hS7, hO7, HQ⟩
              case round =>
                clear hS7 hO7 HQ hK7 hfl HL7
                obtain ⟨k, fk, L, rfl, hk, hfk, hL1, hL2, hL3, hK, hS, hO, hr⟩ := hrel
                obtain ⟨fk, rfl⟩ : ∃ q, fk = q + 1 := by
                  cases fk with
                  | zero => have := hr.out; rw [pCases] at this; cases this
                  | succ q => exact ⟨q, rfl⟩
                obtain ⟨ao, acap, rfl⟩ := hO.form
                have HP := Lib.hid hr.out
                rw [pCases] at HP
                clear hr
                go_wp2_with fail
                refine (pKey_any F hS hk [99, 97, 115, 101]).mono ?_
                rintro e w1 ⟨rfl, hb1⟩
                have hS1 := hS.below hb1
                have hO1 := hO.below hbl hb1
                have hK1 := hK.andBelow hb1
                have hE1 := hE.kept hK1
                have hsz1 := hK1.size
                clear hS hO hK hb1
                by_cases x0 : keyAt ts k [99, 97, 115, 101] = true
                · rw [if_pos x0] at HP
                  rw [x0]
                  obtain ⟨s1, s2⟩ := key_of F.good hk x0
                  rw [s1] at HP
                  clear x0
                  go_wp2_with fail
                  refine (pSkip_any F hS1 hk).mono ?_
                  rintro e w2 ⟨rfl, hS2, hK2⟩
                  rw [s1] at hS2
                  have hO2 := hO1.kept hbl hK2
                  have hE2 := hE1.kept hK2
                  have hK3 := hK1.same hK2
                  have hsz3 := hK3.size
                  clear hS1 hO1 hK1 hE1 hK2 s1
                  cases hq : pWords ts fk d (k + 1) 1 [] with
                  | none =>
                    rw [hq] at HP
                    exact (go_none HP.out).elim
                  | some rc =>
                    rw [hq] at HP
                    have HD := Lib.hid (IHWs.out fk (by omega) w2 (k + 1) d 1 rc hd (by omega) s2 hS2 hE2 (Lib.hid hq))
                    clear hS2
                    go_wp2_with fail
                    refine HD.out.mono ?_
                    cases rc with
                    | error e0 =>
                      obtain ⟨c0, p0⟩ := e0
                      have HX0 := Lib.hid (some_err HP.out)
                      have HX := Lib.hid (show r = .error (c0, p0) from by
                        have := HR4.out
                        rw [HX0.out] at this
                        exact some_err this)
                      clear HP hq HD HX0 HR4
                      rintro e w5 ⟨hK7, u, j', rfl, ⟨eb, rfl, q2, q3⟩, hS5⟩
                      go_wp2_with fail
                      go_ret2
                      exact POut.bad HX.out rfl (.none _ _) (Nat.zero_le _) ⟨eb, rfl, q2, by omega⟩ hS5 (hK3.same hK7)
                    | ok q =>
                      obtain ⟨L2, jw⟩ := q
                      obtain ⟨y1, y2, y3, y4⟩ := words_facts T (by omega) s2 hq
                      have y5 := ((postAll T.fix.good fk).words d (k + 1) 1 [] s2).1 L2 jw hq
                      simp only [List.flatten_nil, List.length_nil] at y5
                      have HP2 := Lib.hid (show (takeP ts jw [1, 2] fun a => (pList ts fk d a).go fun c e => pCases ts fk d e (L ++ [catP L2, c])) = some rr from HP.out)
                      clear HP hq HD
                      rintro e w3 ⟨hK4, v3, rfl, hKs, hS3⟩
                      have hK5 := hK3.same hK4
                      have hO3 := hO2.kept hbl hK4
                      have hE3 := hE2.kept hK4
                      have hsz5 := hK5.size
                      have hcl := catP_len L2 y4
                      clear hK3 hK4 hO2 hE2
                      obtain ⟨a3, c3, rfl, -⟩ := id hKs
                      by_cases x1 : isK ts jw [1, 2] = true
                      · have HP3 := Lib.hid (takeP_yes x1 HP2.out)
                        obtain ⟨t1, t2⟩ := skip_of F.good y1 (by decide) x1
                        rw [t1] at HP3
                        clear HP2
                        go_wp2_with fail
                        refine (pTake_yes F (hS3.alloc _) y1 [1, 2] _ _ (by decide) (show Blk _ _ [Value.int .i64 1, Value.int .i64 2] from Blk.new _ _ _) x1).mono ?_
                        rintro e w4 ⟨rfl, hS4, hKt⟩
                        rw [t1] at hS4
                        have hKu := ((Kept.refl (At b) w3).alloc (.cells #[Value.int .i64 1, Value.int .i64 2] 3)).same hKt
                        have hKs4 := hKs.kept hKu
                        have hO4 := hO3.kept hbl hKu
                        have hE4 := hE3.kept hKu
                        have hK6 := hK5.same hKu
                        have hsz6 := hK6.size
                        clear hKt hKu hKs hO3 hE3 hK5 hS3 x1 t1
                        cases hq : pList ts fk d (jw + 1) with
                        | none =>
                          rw [hq] at HP3
                          exact (go_none HP3.out).elim
                        | some rl =>
                          rw [hq] at HP3
                          have HD := Lib.hid (IHL.out fk (by omega) w4 (jw + 1) d rl hd t2 hS4 hE4 (Lib.hid hq))
                          clear hS4
                          go_wp2_with fail
                          refine HD.out.mono ?_
                          cases rl with
                          | error e0 =>
                            obtain ⟨c0, p0⟩ := e0
                            have HX0 := Lib.hid (some_err HP3.out)
                            have HX := Lib.hid (show r = .error (c0, p0) from by
                              have := HR4.out
                              rw [HX0.out] at this
                              exact some_err this)
                            clear HP3 hq HD HX0 HR4
                            rintro e w5 ⟨hK7, v, u, j', l0, rfl, h0, -, ⟨eb, rfl, q2, q3⟩, hS5⟩
                            obtain ⟨va, vc, rfl⟩ := h0.form
                            go_wp2_with fail
                            go_ret2
                            exact POut.bad HX.out rfl (.none _ _) (Nat.zero_le _) ⟨eb, rfl, q2, by omega⟩ hS5 (hK6.same hK7)
                          | ok q =>
                            obtain ⟨cl, e2⟩ := q
                            have z1 := ((postAll T.fix.good fk).list d (jw + 1) t2).1 cl e2 hq
                            obtain ⟨D, hD⟩ := (wAll T.w fk).list d (jw + 1) cl e2 hq
                            have hclp := hD.pos.1
                            have HX := Lib.hid (show pCases ts fk d e2 (L ++ [catP L2, cl]) = some rr from HP3.out)
                            clear HP3 hq HD hD
                            rintro e w5 ⟨hK7, v5, rfl, hN5, hS5⟩
                            have hKs5 := hKs4.kept hK7
                            have hO5 := hO4.kept hbl hK7
                            have hK8 := hK6.same hK7
                            have hsz8 := hK8.size
                            clear hKs4 hO4 hK6 hK7 hE4
                            have HC := Lib.hid (pCat_any L2 b _ w5 (by omega) y4 (by omega) (by omega) hKs5)
                            obtain ⟨g5, c5, rfl, -⟩ := id hN5
                            go_wp2_with fail
                            refine HC.out.mono ?_
                            rintro e w6 ⟨v6, rfl, hN6, hb6⟩
                            have hN5 := hN5.below hb6
                            have hS6 := hS5.below hb6
                            have hK9 := hK8.andBelow hb6
                            have hsz9 := hK9.size
                            obtain ⟨us, u1, u2, u3⟩ := hO5.below hbl hb6
                            have hcp := y5
                            have hcatpos : 0 < (catP L2).length := catP_pos L2 y4
                            obtain ⟨g6, c6, rfl, -⟩ := id hN6
                            have hHL := Lib.hid (show ∀ l ∈ L ++ [catP L2, cl], 0 < l.length from fun l hl => by
                              rcases List.mem_append.1 hl with hl | hl
                              · exact hL3.out l hl
                              · simp only [List.mem_cons, List.not_mem_nil, or_false] at hl
                                rcases hl with rfl | rfl
                                · exact hcatpos
                                · exact hclp)
                            have hM2 : (L ++ [catP L2, cl]).flatten.length ≤ 6 * e2 := by
                              rw [List.flatten_append, List.length_append]
                              simp only [List.flatten_cons, List.flatten_nil, List.append_nil, List.length_append]
                              omega
                            have hM1 : (L ++ [catP L2, cl]).length ≤ e2 + 1 := by simp; omega
                            have hOA : ∀ o, (w6.alloc o).ownsRow w.heap.size 23 1 _ L.length us := fun o => ownsRow_kept u2 (Kept.ofBelow (S := Nowhere) ((Below.refl _ w6).alloc (Nat.le_refl _) o)) (fun _ _ _ e => e)
                            have HN6 := Lib.hid hN6
                            have HN5 := Lib.hid hN5
                            clear hK8 hb6 hO5 HC hN5 hN6 hKs5 hS5
                            generalize hcc : catP L2 = cc at *
                            go_wp2_with (at_builtin; refine wpList_append_own _ rfl _ _ 39 rfl w.heap.size 23 k0 _ 1 24 Tryz.underlying39 hk0 hk1 hk2 hk3 rfl (by decide) _ _ _ rfl (hOA _) ⟨w6.heap.size, 0, none⟩ 2 2 [.slice (some ⟨g6, 0, none⟩) cc.length c6, .slice (some ⟨g5, 0, none⟩) cl.length c5] rfl rfl (cells_new (by simp)) (by intro u hu; simp at hu; rcases hu with rfl | rfl <;> rfl) (by unfold maxLen; omega) (by omega) (by simp; omega) ?_; intro v7 w7 hown' hgrow _)
                            obtain ⟨hO7, hb7⟩ := KOwn.grown2 (w0 := w) hsz9 u1 u2 u3 HN6.out HN5.out hown' hgrow
                            have hS7 := hS6.belowB hb7 hbl hgl
                            have hKa := hK9.belowB hb7 (Nat.le_refl _)
                            go_wp2_with fail
                            go_roundg (ts.length - e2)
                            case measure => omega
                            case rel => exact ⟨e2, fk, _, rfl, z1.2.1, by omega, hM1, hM2, hHL, hKa, hS7, hO7, HX⟩
                      · have x0 : isK ts jw [1, 2] = false := by simpa using x1
                        have HX0 := Lib.hid (form_code (takeP_no x0 HP2.out))
                        have HX := Lib.hid (show r = .error (if isK ts jw [0] = true then 109 else 108, (tkAt ts jw).place) from by
                          have := HR4.out
                          rw [HX0.out] at this
                          exact some_err this)
                        clear HP2 HX0 HR4
                        go_wp2_with fail
                        refine (pTake_no F (hS3.alloc _) y1 [1, 2] _ _ (by decide) (show Blk _ _ [Value.int .i64 1, Value.int .i64 2] from Blk.new _ _ _) x0 sent (hE3.env.below ((Below.refl _ _).alloc (Nat.le_refl _) _))).mono ?_
                        rintro e w7 ⟨eb, rfl, hE7, hl7, hb7⟩
                        have hb8 := bNext ((Below.refl _ w3).alloc (Nat.le_refl _) (.cells #[Value.int .i64 1, Value.int .i64 2] 3)) hb7
                        go_wp2_with fail
                        go_ret2
                        exact POut.bad HX.out rfl (.none _ _) (Nat.zero_le _) ⟨eb, rfl, hE7, by have := hl7; simp at this; omega⟩ (hS3.below hb8) (hK5.andBelow hb8)
                · have x0 : keyAt ts k [99, 97, 115, 101] = false := by simpa using x0
                  rw [x0, if_neg (by simp)] at HP
                  rw [x0]
                  have HX0 := Lib.hid (some_ok HP.out)
                  have HR5 := Lib.hid (show (takeP ts k [9] fun e => pTurns ts f d e (newP 30 0 [] L) []) = some r from by
                    have := HR4.out
                    rw [HX0.out] at this
                    exact this)
                  clear HP HX0 HR4
                  by_cases x0 : isK ts k [9] = true
                  · have HR6 := Lib.hid (takeP_yes x0 HR5.out)
                    obtain ⟨t1, t2⟩ := skip_of F.good hk (by decide) x0
                    rw [t1] at HR6
                    clear HR5
                    go_wp2_with fail
                    refine (pTake_yes F (hS1.alloc _) hk [9] _ _ (by decide) (show Blk _ _ [Value.int .i64 9] from Blk.new _ _ _) x0).mono ?_
                    rintro e w2 ⟨rfl, hS2, hK7⟩
                    have hK2 := ((Kept.refl (At b) w1).alloc (.cells #[Value.int .i64 9] 3)).same hK7
                    clear hK7
                    rw [t1] at hS2
                    have hO2 := hO1.kept hbl hK2
                    have hE2 := hE1.kept hK2
                    have hK3 := hK1.same hK2
                    have hsz3 := hK3.size
                    have hlen : (newP 30 0 [] L).length ≤ 60000 := by rw [len_newP]; omega
                    have HN := Lib.hid (cNewS_any 30 0 [] L b _ w2 (by omega) (hO2.ksl hbl) (by omega) (by omega))
                    clear hS1 hE1 hO1 hK1 hK2 x0 t1 hO2
                    generalize newP 30 0 [] L = body at HN HR6 hlen
                    generalize L.length = ll at HN ⊢
                    go_wp2_with fail
                    refine HN.out.mono ?_
                    rintro e w3 ⟨v3, rfl, hN3, hb3⟩
                    have hS3 := hS2.below hb3
                    have hE3 := hE2.below hb3
                    have hK9 := hK3.andBelow hb3
                    have HT := Lib.hid (IHT.out w3 (k + 1) d r body v3 hd t2 hS3 hE3 hN3 hlen HR6)
                    obtain ⟨g3, c3, rfl, -⟩ := id hN3
                    go_wp2_with fail
                    refine (HT.out).mono ?_
                    rintro e w4 hp
                    have hq := Lib.hid (hp.after hK9)
                    obtain ⟨v, u, rfl⟩ := hp.tuple
                    go_wp2_with fail
                    go_ret2
                    exact hq.out
                  · have x0 : isK ts k [9] = false := by simpa using x0
                    have HX2 := Lib.hid (form_code (takeP_no x0 HR5.out))
                    clear HR5
                    go_wp2_with fail
                    refine (pTake_no F (hS1.alloc _) hk [9] _ _ (by decide) (show Blk _ _ [Value.int .i64 9] from Blk.new _ _ _) x0 sent (hE1.env.below ((Below.refl _ _).alloc (Nat.le_refl _) _))).mono ?_
                    rintro e w7 ⟨eb, rfl, hE7, hl7, hb7⟩
                    have hb8 := bNext ((Below.refl _ w1).alloc (Nat.le_refl _) (.cells #[Value.int .i64 9] 3)) hb7
                    go_wp2_with fail
                    go_ret2
                    exact POut.bad HX2.out rfl (.none _ _) (Nat.zero_le _) ⟨eb, rfl, hE7, by have := hl7; simp at this; omega⟩ (hS1.below hb8) (hK1.andBelow hb8)
          · have x0 : isK ts j1 [8] = false := by simpa using x0
            have HX2 := Lib.hid (form_code (takeP_no x0 HR3.out))
            clear HR3
            go_wp2_with fail
            refine (pTake_no F (hS4.alloc _) hj1.2 [8] _ _ (by decide) (show Blk _ _ [Value.int .i64 8] from Blk.new _ _ _) x0 sent (hE4.env.below ((Below.refl _ _).alloc (Nat.le_refl _) _))).mono ?_
            rintro e w7 ⟨eb, rfl, hE7, hl7, hb7⟩
            have hb8 := bNext ((Below.refl _ w4).alloc (Nat.le_refl _) (.cells #[Value.int .i64 8] 3)) hb7
            go_wp2_with fail
            go_ret2
            exact POut.bad HX2.out rfl (.none _ _) (Nat.zero_le _) ⟨eb, rfl, hE7, by have := hl7; simp at this; omega⟩ (hS4.below hb8) (hK8.andBelow hb8)
        · have x0 : isK ts j [7] = false := by simpa using x0
          have HX2 := Lib.hid (form_code (takeP_no x0 HR2.out))
          clear HR2
          go_wp2_with fail
          refine (pTake_no F (hS2.alloc _) y2 [7] _ _ (by decide) (show Blk _ _ [Value.int .i64 7] from Blk.new _ _ _) x0 sent (hE2.env.below ((Below.refl _ _).alloc (Nat.le_refl _) _))).mono ?_
          rintro e w7 ⟨eb, rfl, hE7, hl7, hb7⟩
          have hb8 := bNext ((Below.refl _ w2).alloc (Nat.le_refl _) (.cells #[Value.int .i64 7] 3)) hb7
          go_wp2_with fail
          go_ret2
          exact POut.bad HX2.out rfl (.none _ _) (Nat.zero_le _) ⟨eb, rfl, hE7, by have := hl7; simp at this; omega⟩ (hS2.below hb8) (hK3.andBelow hb8)
  · have x0 : isK ts i0 [6] = false := by simpa using x0
    have HX2 := Lib.hid (form_code (takeP_no x0 HR.out))
    clear HR
    go_wp2_with fail
    refine (pTake_no F (hS0.alloc _) hi0 [6] _ _ (by decide) (show Blk _ _ [Value.int .i64 6] from Blk.new _ _ _) x0 sent (hE0.env.below ((Below.refl _ _).alloc (Nat.le_refl _) _))).mono ?_
    rintro e w7 ⟨eb, rfl, hE7, hl7, hb7⟩
    have hb8 := bNext ((Below.refl _ w0).alloc (Nat.le_refl _) (.cells #[Value.int .i64 6] 3)) hb7
    go_wp2_with fail
    go_ret2
    exact POut.bad HX2.out rfl (.none _ _) (Nat.zero_le _) ⟨eb, rfl, hE7, by have := hl7; simp at this; omega⟩ (hS0.below hb8) (hK0.andBelow hb8)

end Go.Proofs.YtepebnblbheegaaGreatDoor
