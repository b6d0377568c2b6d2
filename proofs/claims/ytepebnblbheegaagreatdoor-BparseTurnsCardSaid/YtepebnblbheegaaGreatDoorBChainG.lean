/- Dialect B's parser: if, while. -/
import Derived.Test.YtepebnblbheegaaGreatDoorBWalkG
import Derived.Test.YtepebnblbheegaaGreatDoorParseG
namespace Go.Proofs.YtepebnblbheegaaGreatDoor
open Go Go.RowKit

theorem test_facts {ts : List BTok} {cap : Nat} (T : PTs cap ts) {f d i : Nat} {l : Prog} {e : Nat} (hi : i < ts.length) (hk : (tkAt ts i).kind ≠ 0) (h : pTest ts f d i = some (.ok (l, e))) : i < e ∧ e < ts.length ∧ l.length ≤ 50000 := by
  have := ((postAll T.fix.good f).test d i hi hk).1 l e h
  have := T.fix.num
  omega
theorem body_facts {ts : List BTok} {cap : Nat} (T : PTs cap ts) {f d i : Nat} {l : Prog} {e : Nat} (hi : i < ts.length) (h : pBody ts f d i = some (.ok (l, e))) : i < e ∧ e < ts.length ∧ l.length ≤ 50000 := by
  have := ((postAll T.fix.good f).body d i hi).1 l e h
  have := T.fix.num
  omega
theorem some_err {α : Type} {c p : Nat} {r : Except (Nat × Nat) (α × Nat)} (h : (some (Except.error (c, p)) : PRes α) = some r) : r = .error (c, p) := (Option.some.inj h).symm
theorem some_ok {α : Type} {a : α} {i : Nat} {r : Except (Nat × Nat) (α × Nat)} (h : (some (Except.ok (a, i)) : PRes α) = some r) : r = .ok (a, i) := (Option.some.inj h).symm

set_option maxHeartbeats 8000000 in
set_option maxRecDepth 100000 in
theorem pWhile_walk {b g cap : Nat} {ts : List BTok} {sent : Nat → Addr} (T : PTs cap ts) (f : Nat) (iht : Does b g cap ts sent 243 (pTest ts f)) (ihb : DoesL b g cap ts sent 244 (pBody ts f)) : DoesK b g cap ts sent 215 (pWhile ts (f + 1)) := by
  intro w i d r hd hi hk0 hS hE hr
  have hbl := hS.blt
  have HR := Lib.hid hr.out
  rw [pWhile] at HR
  have IHB := Lib.hid ihb
  clear hr ihb
  cases hq : pTest ts f d i with
  | none =>
    rw [hq] at HR
    exact absurd HR.out (by simp [PRes.go])
  | some rc =>
    rw [hq] at HR
    have HD := Lib.hid (iht w i d rc hd hi hS hE (Lib.hid hq))
    go_enter Tryz.func215, Tryz.ntmps215
    go_wp2_with fail
    refine HD.out.mono ?_
    cases rc with
    | error e0 =>
      obtain ⟨c0, p0⟩ := e0
      have HX := Lib.hid (some_err HR.out)
      clear HR hq hS hE HD
      rintro e w2 ⟨hK2, v, u, j', l0, rfl, -, -, ⟨eb, rfl, q2, q3⟩, hS2⟩
      go_wp2_with fail
      go_ret2
      exact POut.bad HX.out rfl (.none _ _) (Nat.zero_le _) ⟨eb, rfl, q2, q3⟩ hS2 hK2
    | ok q =>
      obtain ⟨c, j⟩ := q
      obtain ⟨z1, z2, z3⟩ := test_facts T hi hk0 hq
      have HR2 := Lib.hid (show ((pBody ts f d j).go fun l e => pOk (newP 28 0 [] [c, l]) e) = some r from HR.out)
      clear HR hq
      rintro e w2 ⟨hK2, v, rfl, hN, hS2⟩
      have hE2 := hE.kept hK2
      have hsz := hK2.size
      clear hS hE HD
      cases hq : pBody ts f d j with
      | none =>
        rw [hq] at HR2
        exact absurd HR2.out (by simp [PRes.go])
      | some rb =>
        rw [hq] at HR2
        have HD := Lib.hid (IHB.out w2 j d rb hd z2 hS2 hE2 (Lib.hid hq))
        clear hS2 hE2 IHB
        go_wp2_with fail
        refine HD.out.mono ?_
        cases rb with
        | error e0 =>
          obtain ⟨c0, p0⟩ := e0
          have HX := Lib.hid (some_err HR2.out)
          clear HR2 hq HD
          rintro e w3 ⟨hK3, v3, u, j', l0, rfl, h0, hl0, ⟨eb, rfl, q2, q3⟩, hS3⟩
          have hsz3 := hK3.size
          obtain ⟨ga, gc, rfl, -⟩ := id hN
          obtain ⟨va, vc, rfl⟩ := h0.form
          have HN := Lib.hid (cNewS_any 28 0 [] [c, l0] b _ _ (by simp; omega) (KSl.new2 (w := w3) (by omega) (.inl (hN.kept hK3)) h0) (by simp; omega) (by simp))
          go_wp2_with fail
          refine HN.out.mono ?_
          rintro e w4 ⟨v4, rfl, hN4, hb4⟩
          have hb5 := bNext ((Below.refl _ w3).alloc (Nat.le_refl _) _) hb4
          have hP := Lib.hid (PErr.kept (w := w) (w' := w3) (w'' := w4) (b := b) ⟨eb, rfl, q2, by omega⟩ hbl (Kept.ofBelow hb5))
          obtain ⟨g4, c4, rfl, -⟩ := id hN4
          go_wp2_with fail
          go_ret2
          exact POut.bad HX.out rfl (.inl hN4) (by rw [(len_two _ _ _ _ _).1]; omega) hP.out (hS3.below hb5) ((hK2.same hK3).andBelow hb5)
        | ok q =>
          obtain ⟨l, k⟩ := q
          obtain ⟨y1, y2, y3⟩ := body_facts T z2 hq
          have HX := Lib.hid (some_ok HR2.out)
          clear HR2 hq HD
          rintro e w3 ⟨hK3, v3, rfl, hN3, hS3⟩
          have hsz3 := hK3.size
          obtain ⟨ga, gc, rfl, -⟩ := id hN
          obtain ⟨va, vc, rfl, -⟩ := id hN3
          have HN := Lib.hid (cNewS_any 28 0 [] [c, l] b _ _ (by simp; omega) (KSl.new2 (w := w3) (by omega) (.inl (hN.kept hK3)) (.inl hN3)) (by simp; omega) (by simp))
          go_wp2_with fail
          refine HN.out.mono ?_
          rintro e w4 ⟨v4, rfl, hN4, hb4⟩
          have hb5 := bNext ((Below.refl _ w3).alloc (Nat.le_refl _) _) hb4
          obtain ⟨g4, c4, rfl, -⟩ := id hN4
          go_wp2_with fail
          go_ret2
          exact POut.ok HX.out rfl hN4 (hS3.below hb5) ((hK2.same hK3).andBelow hb5)

set_option maxHeartbeats 8000000 in
set_option maxRecDepth 100000 in
theorem pChoice_walk {b g cap : Nat} {ts : List BTok} {sent : Nat → Addr} (T : PTs cap ts) (f : Nat) (iht : Does b g cap ts sent 243 (pTest ts f)) (ihb : DoesL b g cap ts sent 244 (pBody ts f)) : DoesK b g cap ts sent 214 (pChoice ts (f + 1)) := by
  intro w i d r hd hi hk0 hS hE hr
  have hbl := hS.blt
  have F := T.fix
  have HR := Lib.hid hr.out
  rw [pChoice] at HR
  have IHB := Lib.hid ihb
  clear hr ihb
  cases hq : pTest ts f d i with
  | none =>
    rw [hq] at HR
    exact absurd HR.out (by simp [PRes.go])
  | some rc =>
    rw [hq] at HR
    have HD := Lib.hid (iht w i d rc hd hi hS hE (Lib.hid hq))
    go_enter Tryz.func214, Tryz.ntmps214
    go_wp2_with fail
    refine HD.out.mono ?_
    cases rc with
    | error e0 =>
      obtain ⟨c0, p0⟩ := e0
      have HX := Lib.hid (some_err HR.out)
      clear HR hq hS hE HD
      rintro e w2 ⟨hK2, v, u, j', l0, rfl, -, -, ⟨eb, rfl, q2, q3⟩, hS2⟩
      go_wp2_with fail
      go_ret2
      exact POut.bad HX.out rfl (.none _ _) (Nat.zero_le _) ⟨eb, rfl, q2, q3⟩ hS2 hK2
    | ok q =>
      obtain ⟨c, j⟩ := q
      obtain ⟨z1, z2, z3⟩ := test_facts T hi hk0 hq
      have HR2 := Lib.hid (show ((pBody ts f d j).go fun yes k => if keyAt ts k [101, 108, 115, 101] = true then (pBody ts f d (skP ts k)).go fun no e => pOk (newP 24 0 [] [c, yes, no]) e else pOk (newP 24 0 [] [c, yes, seqP []]) k) = some r from HR.out)
      clear HR hq
      rintro e w2 ⟨hK2, v, rfl, hN, hS2⟩
      have hE2 := hE.kept hK2
      have hsz := hK2.size
      clear hS hE HD
      cases hq : pBody ts f d j with
      | none =>
        rw [hq] at HR2
        exact absurd HR2.out (by simp [PRes.go])
      | some rb =>
        rw [hq] at HR2
        have HD := Lib.hid (IHB.out w2 j d rb hd z2 hS2 hE2 (Lib.hid hq))
        clear hS2
        go_wp2_with fail
        refine HD.out.mono ?_
        cases rb with
        | error e0 =>
          obtain ⟨c0, p0⟩ := e0
          have HX := Lib.hid (some_err HR2.out)
          clear HR2 hq HD
          rintro e w3 ⟨hK3, v3, u, j', l0, rfl, -, -, ⟨eb, rfl, q2, q3⟩, hS3⟩
          go_wp2_with fail
          go_ret2
          exact POut.bad HX.out rfl (.none _ _) (Nat.zero_le _) ⟨eb, rfl, q2, by omega⟩ hS3 (hK2.same hK3)
        | ok q =>
          obtain ⟨l, k⟩ := q
          obtain ⟨y1, y2, y3⟩ := body_facts T z2 hq
          have HR3 := Lib.hid (show (if keyAt ts k [101, 108, 115, 101] = true then (pBody ts f d (skP ts k)).go fun no e => pOk (newP 24 0 [] [c, l, no]) e else pOk (newP 24 0 [] [c, l, seqP []]) k) = some r from HR2.out)
          clear HR2 hq HD
          rintro e w3 ⟨hK3, v3, rfl, hN3, hS3⟩
          have hE3 := hE2.kept hK3
          have hN2 := hN.kept hK3
          have hK4 := hK2.same hK3
          clear hK2 hK3 hE2 hN
          have hsz4 := hK4.size
          go_wp2_with fail
          refine (cSeq_any [] b _ w3 (by omega) (fun _ h => nomatch h) (by simp) (by simp) (KSl.nil _ _)).mono ?_
          rintro e w4 ⟨v4, rfl, hN4, hb4⟩
          have hS4 := hS3.below hb4
          have hE4 := hE3.below hb4
          have hN5 := hN2.below hb4
          have hN6 := hN3.below hb4
          have hK5 := hK4.andBelow hb4
          have hsz5 := hK5.size
          clear hS3 hE3 hN2 hN3 hK4 hb4
          go_wp2_with fail
          refine (pKey_any F hS4 y2 [101, 108, 115, 101]).mono ?_
          rintro e w5 ⟨rfl, hb5⟩
          have hS5 := hS4.below hb5
          have hE5 := hE4.below hb5
          have hN7 := hN5.below hb5
          have hN8 := hN6.below hb5
          have hN9 := hN4.below hb5
          have hK6 := hK5.andBelow hb5
          have hsz6 := hK6.size
          clear hS4 hE4 hN4 hN5 hN6 hK5 hb5
          by_cases x0 : keyAt ts k [101, 108, 115, 101] = true
          · rw [if_pos x0] at HR3
            rw [x0]
            have hm := (skP_le (ts := ts) y2).2
            go_wp2_with fail
            refine (pSkip_any F hS5 y2).mono ?_
            rintro e w6 ⟨rfl, hS6, hK7⟩
            have hE6 := hE5.kept hK7
            have hNa := hN7.kept hK7
            have hNb := hN8.kept hK7
            have hK8 := hK6.same hK7
            have hsz8 := hK8.size
            clear hS5 hE5 hN7 hN8 hN9 hK6 hK7
            cases hq : pBody ts f d (skP ts k) with
            | none =>
              rw [hq] at HR3
              exact absurd HR3.out (by simp [PRes.go])
            | some rb =>
              rw [hq] at HR3
              have HD := Lib.hid (IHB.out w6 (skP ts k) d rb hd hm hS6 hE6 (Lib.hid hq))
              clear hS6 hE6 IHB
              go_wp2_with fail
              refine HD.out.mono ?_
              cases rb with
              | error e0 =>
                obtain ⟨c0, p0⟩ := e0
                have HX := Lib.hid (some_err HR3.out)
                clear HR3 hq HD
                rintro e w7 ⟨hK9, v7, u, j', l0, rfl, -, -, ⟨eb, rfl, q2, q3⟩, hS7⟩
                go_wp2_with fail
                go_ret2
                exact POut.bad HX.out rfl (.none _ _) (Nat.zero_le _) ⟨eb, rfl, q2, by omega⟩ hS7 (hK8.same hK9)
              | ok q =>
                obtain ⟨no, m⟩ := q
                obtain ⟨x1, x2, x3⟩ := body_facts T hm hq
                have HX := Lib.hid (some_ok HR3.out)
                clear HR3 hq HD
                rintro e w7 ⟨hK9, v7, rfl, hNc, hS7⟩
                have hNd := hNa.kept hK9
                have hNe := hNb.kept hK9
                have hKa := hK8.same hK9
                have hsza := hKa.size
                obtain ⟨ga, gc, rfl, -⟩ := id hNd
                obtain ⟨va, vc, rfl, -⟩ := id hNe
                obtain ⟨ua, uc, rfl, -⟩ := id hNc
                have HN := Lib.hid (cNewS_any 24 0 [] [c, l, no] b _ _ (by simp; omega) (KSl.new3 (w := w7) (by omega) (.inl hNd) (.inl hNe) (.inl hNc)) (by simp; omega) (by simp))
                clear hNa hNb hNd hNe hK8 hK9
                go_wp2_with fail
                refine HN.out.mono ?_
                rintro e w8 ⟨v8, rfl, hNf, hb8⟩
                have hb9 := bNext ((Below.refl _ w7).alloc (Nat.le_refl _) _) hb8
                obtain ⟨g4, c4, rfl, -⟩ := id hNf
                go_wp2_with fail
                go_ret2
                exact POut.ok HX.out rfl hNf (hS7.below hb9) (hKa.andBelow hb9)
          · have x0 : keyAt ts k [101, 108, 115, 101] = false := by simpa using x0
            rw [x0, if_neg (by simp)] at HR3
            rw [x0]
            have HX := Lib.hid (some_ok HR3.out)
            clear HR3 x0
            obtain ⟨ga, gc, rfl, -⟩ := id hN7
            obtain ⟨va, vc, rfl, -⟩ := id hN8
            obtain ⟨ua, uc, rfl, -⟩ := id hN9
            have HN := Lib.hid (cNewS_any 24 0 [] [c, l, seqP []] b _ _ (by simp; omega) (KSl.new3 (w := w5) (by omega) (.inl hN7) (.inl hN8) (.inl hN9)) (by simp [seqP, newP]; omega) (by simp))
            clear hN7 hN8 hN9
            go_wp2_with fail
            refine HN.out.mono ?_
            rintro e w8 ⟨v8, rfl, hNf, hb8⟩
            have hb9 := bNext ((Below.refl _ w5).alloc (Nat.le_refl _) _) hb8
            obtain ⟨g4, c4, rfl, -⟩ := id hNf
            go_wp2_with fail
            go_ret2
            exact POut.ok HX.out rfl hNf (hS5.below hb9) (hK6.andBelow hb9)

end Go.Proofs.YtepebnblbheegaaGreatDoor

/- Dialect B's parser: commands with && and ||. -/
namespace Go.Proofs.YtepebnblbheegaaGreatDoor
open Go Go.RowKit

theorem pipe_facts {ts : List BTok} {cap : Nat} (T : PTs cap ts) {f d i : Nat} {l : Prog} {e : Nat} (hi : i < ts.length) (h : pPipe ts f d i = some (.ok (l, e))) : i < e ∧ e < ts.length ∧ l.length ≤ 6 * (e - i) := by
  have := ((postAll T.fix.good f).pipe d i hi).1 l e h
  omega

set_option maxHeartbeats 8000000 in
set_option maxRecDepth 100000 in
theorem pChain_walk {b g cap : Nat} {ts : List BTok} {sent : Nat → Addr} (T : PTs cap ts) (f : Nat) (ih : ∀ f' ≤ f, Does b g cap ts sent 150 (pPipe ts f')) : Does b g cap ts sent 117 (pChain ts (f + 1)) := by
  intro w i d r hd hi hS hE hr
  have hbl := hS.blt
  have F := T.fix
  have hcap := F.num
  have HR := Lib.hid hr.out
  rw [pChain] at HR
  have IH := Lib.hid ih
  clear hr ih
  cases hq : pPipe ts f d i with
  | none =>
    rw [hq] at HR
    exact absurd HR.out (by simp [PRes.go])
  | some rc =>
    rw [hq] at HR
    have HD := Lib.hid (IH.out f (Nat.le_refl _) w i d rc hd hi hS hE (Lib.hid hq))
    go_enter Tryz.func117, Tryz.ntmps117
    go_wp2_with fail
    refine HD.out.mono ?_
    intro e w2 hp
    have hstart : ∃ o er, e = .returned (.tuple #[o, er]) ∧ ((∃ k fk l, er = .nilIface ∧ k < ts.length ∧ fk ≤ f ∧ l.length ≤ 6 * k ∧ Kept (At b) w w2 ∧ PSt w2 b g cap ts k d ∧ NSl w2 b o l ∧ Hid (pChainR ts fk d k l = some r)) ∨ (∃ c p k l, r = .error (c, p) ∧ PErr w w2 sent c p er ∧ NSl0 w2 b o l ∧ l.length ≤ 60000 * (32 - d) ∧ PSt w2 b g cap ts k d ∧ Kept (At b) w w2)) := by
      cases rc with
      | error e0 =>
        obtain ⟨c0, p0⟩ := e0
        obtain ⟨hK2, v, u, j', l0, rfl, hv0, hl0, hPE, hS2⟩ := hp
        exact ⟨v, u, rfl, .inr ⟨c0, p0, j', l0, some_err HR.out, hPE, hv0, hl0, hS2, hK2⟩⟩
      | ok q =>
        obtain ⟨l, j⟩ := q
        obtain ⟨z1, z2, z3⟩ := pipe_facts T hi hq
        obtain ⟨hK2, v, rfl, hN, hS2⟩ := hp
        exact ⟨v, .nilIface, rfl, .inl ⟨j, f, l, rfl, z2, Nat.le_refl _, by omega, hK2, hS2, hN, Lib.hid HR.out⟩⟩
    obtain ⟨o, er, rfl, hst⟩ := hstart
    have hform : ∃ ao n c, o = .slice ao n c := by
      rcases hst with ⟨k, fk, l, _, _, _, _, _, _, hN, _⟩ | ⟨c, p, k, l, _, _, hN, _⟩
      · obtain ⟨gg, gc, h, -⟩ := hN; exact ⟨_, _, _, h⟩
      · obtain ⟨ao, gc, h⟩ := hN.form; exact ⟨_, _, _, h⟩
    obtain ⟨ao, an, ac, rfl⟩ := hform
    obtain ⟨m0, hst⟩ : ∃ m0, (∃ k fk l, m0 = ts.length - k + 1 ∧ er = .nilIface ∧ k < ts.length ∧ fk ≤ f ∧ l.length ≤ 6 * k ∧ Kept (At b) w w2 ∧ PSt w2 b g cap ts k d ∧ NSl w2 b (.slice ao an ac) l ∧ Hid (pChainR ts fk d k l = some r)) ∨ (m0 = 0 ∧ ∃ c p k l, r = .error (c, p) ∧ PErr w w2 sent c p er ∧ NSl0 w2 b (.slice ao an ac) l ∧ l.length ≤ 60000 * (32 - d) ∧ PSt w2 b g cap ts k d ∧ Kept (At b) w w2) := by
      rcases hst with ⟨k, fk, l, h⟩ | h
      · exact ⟨ts.length - k + 1, .inl ⟨k, fk, l, rfl, h⟩⟩
      · exact ⟨0, .inr ⟨rfl, h⟩⟩
    clear hp HR hq hS HD
    go_wp2_with fail
    go_loopg [4, 5, 6, 7] m0 (fun m o er kd nx wr => (∃ k fk l, m = ts.length - k + 1 ∧ er = .nilIface ∧ k < ts.length ∧ fk ≤ f ∧ l.length ≤ 6 * k ∧ Kept (At b) w wr ∧ PSt wr b g cap ts k d ∧ NSl wr b o l ∧ Hid (pChainR ts fk d k l = some r)) ∨ (m = 0 ∧ ∃ c p k l, r = .error (c, p) ∧ PErr w wr sent c p er ∧ NSl0 wr b o l ∧ l.length ≤ 60000 * (32 - d) ∧ PSt wr b g cap ts k d ∧ Kept (At b) w wr))
    case atStart => exact hst
    case round =>
      clear hst
      rcases hrel with ⟨k, fk, l, rfl, rfl, hk, hfk, hl6, hK, hS, hN, hr⟩ | ⟨rfl, c, p, k, l, rfl, ⟨eb, rfl, q2, q3⟩, hN, hl6, hS, hK⟩
      · obtain ⟨fk, rfl⟩ : ∃ q, fk = q + 1 := by
          cases fk with
          | zero => have := hr.out; rw [pChainR] at this; cases this
          | succ q => exact ⟨q, rfl⟩
        have HR := Lib.hid hr.out
        rw [pChainR] at HR
        clear hr
        go_wp2_with fail
        refine (pIs_any F (hS.alloc _) hk [3, 4] _ _ (by decide) (show Blk _ _ [Value.int .i64 3, Value.int .i64 4] from Blk.new wr _ _)).mono ?_
        rintro e w3 ⟨rfl, hb3⟩
        have hb4 := bNext ((Below.refl _ wr).alloc (Nat.le_refl _) _) hb3
        have hS3 := hS.below hb4
        have hN3 := hN.below hb4
        have hK3 := hK.andBelow hb4
        clear hS hN hK hb3 hb4
        by_cases x0 : isK ts k [3, 4] = true
        · rw [if_pos x0] at HR
          rw [x0]
          obtain ⟨s1, s2⟩ := skip_of F.good hk (by decide) x0
          rw [s1] at HR
          clear x0
          obtain ⟨kd, hkd⟩ : ∃ kd : Int, (if isK ts k [4] = true then (26 : Int) else 25) = kd := ⟨_, rfl⟩
          rw [hkd] at HR
          have HKD := Lib.hid hkd
          go_wp2_with fail
          refine (pIs_any F (hS3.alloc _) hk [4] _ _ (by decide) (show Blk _ _ [Value.int .i64 4] from Blk.new w3 _ _)).mono ?_
          rintro e w4 ⟨rfl, hb4⟩
          have hb5 := bNext ((Below.refl _ w3).alloc (Nat.le_refl _) _) hb4
          have hS4 := hS3.below hb5
          have hN4 := hN3.below hb5
          have hK4 := hK3.andBelow hb5
          clear hS3 hN3 hK3 hb4 hb5 hkd
          have hj := passT_le (ts := ts) [1] s2
          obtain ⟨j, hjj⟩ : ∃ j, passT ts [1] (k + 1) = j := ⟨_, rfl⟩
          rw [hjj] at HR hj
          cases x4 : isK ts k [4] with
          | true =>
            obtain rfl : (26 : Int) = kd := by have := HKD.out; rw [x4, if_pos rfl] at this; exact this
            clear HKD x4
            go_wp2_with fail
            refine (pSkip_any F hS4 hk).mono ?_
            rintro e w5 ⟨rfl, hS5, hK5⟩
            rw [s1] at hS5
            have hN5 := hN4.kept hK5
            have hK6 := hK4.same hK5
            have hsz6 := hK6.size
            clear hS4 hN4 hK4 hK5
            go_wp2_with fail
            refine (pPass_any F (hS5.alloc _) s2 [1] _ _ (by decide) (by decide) (show Blk _ _ [Value.int .i64 1] from Blk.new w5 _ _) (by omega)).mono ?_
            rintro e w6 ⟨rfl, hS6, hK7⟩
            rw [hjj] at hS6
            have hK8 := ((Kept.refl (At b) w5).alloc _).same hK7
            have hN6 := hN5.kept hK8
            have hK9 := hK6.same hK8
            have hE6 := hE.kept hK9
            have hsz9 := hK9.size
            clear hS5 hN5 hK6 hK7 hK8
            cases hq : pPipe ts fk d j with
            | none =>
              rw [hq] at HR
              exact absurd HR.out (by simp [PRes.go])
            | some rc =>
              rw [hq] at HR
              have HD := Lib.hid (IH.out fk (by omega) w6 j d rc hd hj.2 hS6 hE6 (Lib.hid hq))
              clear hS6 hE6
              go_wp2_with fail
              refine HD.out.mono ?_
              cases rc with
              | error e0 =>
                obtain ⟨c0, p0⟩ := e0
                have HX := Lib.hid (some_err HR.out)
                clear HR hq HD
                rintro e w7 ⟨hKa, v7, u, j', l0, rfl, h0, hl0, ⟨eb, rfl, q2, q3⟩, hS7⟩
                obtain ⟨va, vc, rfl⟩ := h0.form
                have hN7 := hN6.kept hKa
                have hKb := hK9.same hKa
                go_wp2_with fail
                go_roundg 0
                case measure => omega
                case rel => exact .inr ⟨rfl, c0, p0, j', l, HX.out, ⟨eb, rfl, q2, by omega⟩, .inl hN7, by omega, hS7, hKb⟩
              | ok q =>
                obtain ⟨l2, k2⟩ := q
                obtain ⟨z1, z2, z3⟩ := pipe_facts T hj.2 hq
                have HX := Lib.hid HR.out
                clear HR hq HD
                rintro e w7 ⟨hKa, v7, rfl, hN2, hS7⟩
                have hN7 := hN6.kept hKa
                have hKb := hK9.same hKa
                have hszb := hKb.size
                clear hN6 hK9 hKa
                obtain ⟨ga, gc, ha, -⟩ := id hN7
                obtain ⟨va, vc, rfl, -⟩ := id hN2
                cases ha
                have HN := Lib.hid (cNewS_any 26 0 [] [l, l2] b _ _ (by simp; omega) (KSl.new2 (w := w7) (by omega) (.inl hN7) (.inl hN2)) (by simp; omega) (by simp))
                clear hN7 hN2
                go_wp2_with fail
                refine HN.out.mono ?_
                rintro e w8 ⟨v8, rfl, hN8, hb8⟩
                have hb9 := bNext ((Below.refl _ w7).alloc (Nat.le_refl _) _) hb8
                obtain ⟨g4, c4, rfl, -⟩ := id hN8
                have hS9 := hS7.below hb9
                have hKc := hKb.andBelow hb9
                go_wp2_with fail
                go_roundg (ts.length - k2 + 1)
                case measure => omega
                case rel => exact .inl ⟨k2, fk, _, rfl, rfl, z2, by omega, by rw [(len_two _ _ _ _ _).1]; omega, hKc, hS9, hN8, HX⟩
          | false =>
            obtain rfl : (25 : Int) = kd := by have := HKD.out; rw [x4, if_neg (by simp)] at this; exact this
            clear HKD x4
            go_wp2_with fail
            refine (pSkip_any F hS4 hk).mono ?_
            rintro e w5 ⟨rfl, hS5, hK5⟩
            rw [s1] at hS5
            have hN5 := hN4.kept hK5
            have hK6 := hK4.same hK5
            have hsz6 := hK6.size
            clear hS4 hN4 hK4 hK5
            go_wp2_with fail
            refine (pPass_any F (hS5.alloc _) s2 [1] _ _ (by decide) (by decide) (show Blk _ _ [Value.int .i64 1] from Blk.new w5 _ _) (by omega)).mono ?_
            rintro e w6 ⟨rfl, hS6, hK7⟩
            rw [hjj] at hS6
            have hK8 := ((Kept.refl (At b) w5).alloc _).same hK7
            have hN6 := hN5.kept hK8
            have hK9 := hK6.same hK8
            have hE6 := hE.kept hK9
            have hsz9 := hK9.size
            clear hS5 hN5 hK6 hK7 hK8
            cases hq : pPipe ts fk d j with
            | none =>
              rw [hq] at HR
              exact absurd HR.out (by simp [PRes.go])
            | some rc =>
              rw [hq] at HR
              have HD := Lib.hid (IH.out fk (by omega) w6 j d rc hd hj.2 hS6 hE6 (Lib.hid hq))
              clear hS6 hE6
              go_wp2_with fail
              refine HD.out.mono ?_
              cases rc with
              | error e0 =>
                obtain ⟨c0, p0⟩ := e0
                have HX := Lib.hid (some_err HR.out)
                clear HR hq HD
                rintro e w7 ⟨hKa, v7, u, j', l0, rfl, h0, hl0, ⟨eb, rfl, q2, q3⟩, hS7⟩
                obtain ⟨va, vc, rfl⟩ := h0.form
                have hN7 := hN6.kept hKa
                have hKb := hK9.same hKa
                go_wp2_with fail
                go_roundg 0
                case measure => omega
                case rel => exact .inr ⟨rfl, c0, p0, j', l, HX.out, ⟨eb, rfl, q2, by omega⟩, .inl hN7, by omega, hS7, hKb⟩
              | ok q =>
                obtain ⟨l2, k2⟩ := q
                obtain ⟨z1, z2, z3⟩ := pipe_facts T hj.2 hq
                have HX := Lib.hid HR.out
                clear HR hq HD
                rintro e w7 ⟨hKa, v7, rfl, hN2, hS7⟩
                have hN7 := hN6.kept hKa
                have hKb := hK9.same hKa
                have hszb := hKb.size
                clear hN6 hK9 hKa
                obtain ⟨ga, gc, ha, -⟩ := id hN7
                obtain ⟨va, vc, rfl, -⟩ := id hN2
                cases ha
                have HN := Lib.hid (cNewS_any 25 0 [] [l, l2] b _ _ (by simp; omega) (KSl.new2 (w := w7) (by omega) (.inl hN7) (.inl hN2)) (by simp; omega) (by simp))
                clear hN7 hN2
                go_wp2_with fail
                refine HN.out.mono ?_
                rintro e w8 ⟨v8, rfl, hN8, hb8⟩
                have hb9 := bNext ((Below.refl _ w7).alloc (Nat.le_refl _) _) hb8
                obtain ⟨g4, c4, rfl, -⟩ := id hN8
                have hS9 := hS7.below hb9
                have hKc := hKb.andBelow hb9
                go_wp2_with fail
                go_roundg (ts.length - k2 + 1)
                case measure => omega
                case rel => exact .inl ⟨k2, fk, _, rfl, rfl, z2, by omega, by rw [(len_two _ _ _ _ _).1]; omega, hKc, hS9, hN8, HX⟩
        · have x0 : isK ts k [3, 4] = false := by simpa using x0
          rw [x0, if_neg (by simp)] at HR
          rw [x0]
          have HX := Lib.hid (some_ok HR.out)
          go_wp2_with fail
          go_ret2
          exact POut.ok HX.out rfl hN3 hS3 hK3
      · go_wp2_with fail
        go_ret2
        exact POut.bad rfl rfl hN hl6 ⟨eb, rfl, q2, q3⟩ hS hK

end Go.Proofs.YtepebnblbheegaaGreatDoor

/- Dialect B's parser: commands with |. -/
namespace Go.Proofs.YtepebnblbheegaaGreatDoor
open Go Go.RowKit

theorem command_facts {ts : List BTok} {cap : Nat} (T : PTs cap ts) {f d i : Nat} {l : Prog} {e : Nat} (hi : i < ts.length) (h : pCommand ts f d i = some (.ok (l, e))) : i < e ∧ e < ts.length ∧ l.length ≤ 6 * (e - i) ∧ 0 < l.length := by
  have h1 := ((postAll T.fix.good f).command d i hi).1 l e h
  obtain ⟨D, hD⟩ := (wAll T.w f).command d i l e h
  have := hD.pos.1
  omega
/-- The first program of a row. -/
theorem KSl.first {w : World} {b : Nat} {v : Value} {L : List Prog} (h : KSl w b v L) (hp : 0 < L.length) (hne : ∀ l ∈ L, 0 < l.length) : ∃ g cap u, v = .slice (some ⟨g, 0, none⟩) L.length cap ∧ L.length ≤ cap ∧ w.cell? ⟨g, 0, none⟩ = some u ∧ NSl w b u (L.headD []) := by
  obtain ⟨ao, cap, rfl, h1, h2, h3⟩ := h
  obtain ⟨g, rfl, _, _, h4⟩ := h3 hp
  cases L with
  | nil => simp at hp
  | cons l L =>
    obtain ⟨u, h5, h6⟩ := h4 0 l rfl
    refine ⟨g, cap, u, rfl, h1, h5, ?_⟩
    rcases h6 with h6 | ⟨_, rfl⟩
    · exact h6
    · have := hne [] (by simp)
      simp at this

set_option maxHeartbeats 8000000 in
set_option maxRecDepth 100000 in
theorem pPipe_walk {b g cap : Nat} {ts : List BTok} {sent : Nat → Addr} (T : PTs cap ts) (f : Nat) (ih : ∀ f' ≤ f, Does b g cap ts sent 186 (pCommand ts f')) : Does b g cap ts sent 150 (pPipe ts (f + 1)) := by
  intro w i d r hd hi hS hE hr
  have hbl := hS.blt
  have hgl := hS.glt
  have F := T.fix
  have hcap := F.num
  obtain ⟨k0, hk0, hk1, hk2, hk3⟩ := info_parts infoNodes
  have HR := Lib.hid hr.out
  rw [pPipe] at HR
  have IH := Lib.hid ih
  clear hr ih
  obtain ⟨nt, hnt⟩ : ∃ nt, isK ts i [17] = nt := ⟨_, rfl⟩
  rw [hnt] at HR
  obtain ⟨j0, hj0⟩ : ∃ j0, (if nt = true then skP ts i else i) = j0 := ⟨_, rfl⟩
  rw [hj0] at HR
  have hj : j0 < ts.length := by
    rw [← hj0]
    split
    · exact (skP_le hi).2
    · exact hi
  cases hq : pPipeR ts f d j0 [] with
  | none =>
    rw [hq] at HR
    exact absurd HR.out (by simp [PRes.go])
  | some rr =>
    rw [hq] at HR
    have HQ := Lib.hid hq
    clear hq
    go_enter Tryz.func150, Tryz.ntmps150
    go_wp2_with fail
    refine (pIs_any F (hS.alloc _) hi [17] _ _ (by decide) (show Blk _ _ [Value.int .i64 17] from Blk.new w _ _)).mono ?_
    rintro e w1 ⟨rfl, hb1⟩
    have hb2 := bNext ((Below.refl _ w).alloc (Nat.le_refl _) _) hb1
    have hS1 := hS.below hb2
    have hK1 := (Kept.refl (At b) w).andBelow hb2
    rw [hnt]
    clear hS hb1 hb2
    go_wp2_with fail
    refine (pPass1_any F hS1 hi nt).mono ?_
    rintro e w2 ⟨rfl, hS2, hK2⟩
    rw [hj0] at hS2
    have hK3 := hK1.same hK2
    clear hS1 hK1 hK2 hj0 hnt hi
    go_wp2_with fail
    go_loopg [5, 6, 7] (ts.length - j0) (fun m v cc er wr => ∃ (k fk : Nat) (L : List Prog), m = ts.length - k ∧ k < ts.length ∧ fk ≤ f ∧ L.length ≤ k ∧ L.flatten.length ≤ 6 * k ∧ Hid (∀ l ∈ L, 0 < l.length) ∧ Kept (At b) w wr ∧ PSt wr b g cap ts k d ∧ KOwn wr w.heap.size b v L ∧ Hid (pPipeR ts fk d k L = some rr))
    case atStart => exact ⟨j0, f, [], rfl, hj, Nat.le_refl _, by simp, by simp, Lib.hid (fun _ h => nomatch h), hK3, hS2, KOwn.nil _ _ _, HQ⟩
    case round =>
      clear hS2 HQ hj hK3
      obtain ⟨k, fk, L, rfl, hk, hfk, hL1, hL2, hL3, hK, hS, hO, hr⟩ := hrel
      obtain ⟨fk, rfl⟩ : ∃ q, fk = q + 1 := by
        cases fk with
        | zero => have := hr.out; rw [pPipeR] at this; cases this
        | succ q => exact ⟨q, rfl⟩
      obtain ⟨ao, acap, rfl⟩ := hO.form
      have hE1 := hE.kept hK
      have hsz := hK.size
      have HP := Lib.hid hr.out
      rw [pPipeR] at HP
      clear hr
      cases hq : pCommand ts fk d k with
      | none =>
        rw [hq] at HP
        exact absurd HP.out (by simp [PRes.go])
      | some rc =>
        rw [hq] at HP
        have HD := Lib.hid (IH.out fk (by omega) wr k d rc hd hk hS hE1 (Lib.hid hq))
        clear hS hE1
        go_wp2_with fail
        refine HD.out.mono ?_
        cases rc with
        | error e0 =>
          obtain ⟨c0, p0⟩ := e0
          have HX := Lib.hid (some_err HP.out)
          have HX2 := Lib.hid (show r = .error (c0, p0) from by
            have := HR.out
            rw [HX.out] at this
            exact some_err this)
          clear HP hq HD HR HX
          rintro e w3 ⟨hK2, v, u, j', l0, rfl, -, -, ⟨eb, rfl, q2, q3⟩, hS2⟩
          go_wp2_with fail
          go_ret2
          exact POut.bad HX2.out rfl (.none _ _) (Nat.zero_le _) ⟨eb, rfl, q2, by omega⟩ hS2 (hK.same hK2)
        | ok q =>
          obtain ⟨c, e2⟩ := q
          obtain ⟨z1, z2, z3, z4⟩ := command_facts T hk hq
          have HP2 := Lib.hid (show (if isK ts e2 [5] = true then pPipeR ts fk d (passT ts [1] (skP ts e2)) (L ++ [c]) else pOk (L ++ [c]) e2) = some rr from HP.out)
          have hL6 : (L ++ [c]).length ≤ e2 := by rw [List.length_append, List.length_cons, List.length_nil]; omega
          have hL7 : (L ++ [c]).flatten.length ≤ 6 * e2 := by rw [flat_snoc, List.length_append]; omega
          have hL8 := Lib.hid (snoc_all hL3.out z4)
          have hL9 : 0 < (L ++ [c]).length := by simp
          clear HP hq
          rintro e w3 ⟨hK2, v, rfl, hN, hS2⟩
          have hK4 := hK.same hK2
          obtain ⟨us, u1, u2, u3⟩ := hO.kept hbl hK2
          have hOA : ∀ o, (w3.alloc o).ownsRow w.heap.size 23 1 _ L.length us := fun o => ownsRow_kept u2 (Kept.ofBelow (S := Nowhere) ((Below.refl _ w3).alloc (Nat.le_refl _) o)) (fun _ _ _ e => e)
          have HN := Lib.hid hN
          have hsz4 := hK4.size
          obtain ⟨gc, cc', rfl, -⟩ := hN
          clear hK hK2 hO HD
          go_upto_region 8 with (at_builtin; refine wpList_append_own _ rfl _ _ 39 rfl w.heap.size 23 k0 _ 1 24 Tryz.underlying39 hk0 hk1 hk2 hk3 rfl (by decide) _ _ _ rfl (hOA _) ⟨w3.heap.size, 0, none⟩ 1 1 [.slice (some ⟨gc, 0, none⟩) c.length cc'] rfl rfl (cells_new (by simp)) (by intro u hu; simp at hu; subst hu; rfl) (by unfold maxLen; omega) (by omega) (by simp; omega) ?_; intro v6 w6 hown' hgrow _)
          obtain ⟨hO6, hb6⟩ := KOwn.grown hsz4 u1 u2 u3 HN.out hown' hgrow
          have hS6 := hS2.belowB hb6 hbl hgl
          have hK6 := hK4.belowB hb6 (Nat.le_refl _)
          have hsz6 := hK6.size
          obtain ⟨M, hM⟩ : ∃ M, L ++ [c] = M := ⟨_, rfl⟩
          rw [hM] at HP2 hL6 hL7 hL8 hL9 hO6
          clear hM hS2 hK4 hb6 hown' hgrow hOA u1 u2 u3 HN
          obtain ⟨g1, cap1, hd1, rfl, hc1, hu1, hN1⟩ := (hO6.ksl hbl).first hL9 hL8.out
          go_wp2_with fail
          refine (pIs_any F (hS6.alloc _) z2 [5] _ _ (by decide) (show Blk _ _ [Value.int .i64 5] from Blk.new w6 _ _)).mono ?_
          rintro e w7 ⟨rfl, hb7⟩
          have hb8 := bNext ((Below.refl _ w6).alloc (Nat.le_refl _) _) hb7
          have hS7 := hS6.below hb8
          have hO7 := hO6.below hbl hb8
          have hK7 := hK6.andBelow hb8
          have hsz7 := hK7.size
          have hu7 := bSome hb8 hu1
          have hN7 := hN1.below hb8
          clear hS6 hO6 hK6 hb7 hb8 hu1 hN1
          by_cases x0 : isK ts e2 [5] = true
          · rw [if_pos x0] at HP2
            rw [x0]
            obtain ⟨s1, s2⟩ := skip_of F.good z2 (by decide) x0
            rw [s1] at HP2
            clear x0 hu7 hN7
            have hj := passT_le (ts := ts) [1] s2
            obtain ⟨j, hjj⟩ : ∃ j, passT ts [1] (e2 + 1) = j := ⟨_, rfl⟩
            rw [hjj] at HP2 hj
            go_wp2_with fail
            refine (pSkip_any F hS7 z2).mono ?_
            rintro e w8 ⟨rfl, hS8, hK8⟩
            rw [s1] at hS8
            have hO8 := hO7.kept hbl hK8
            have hK9 := hK7.same hK8
            have hsz9 := hK9.size
            clear hS7 hO7 hK7 hK8
            go_wp2_with fail
            refine (pPass_any F (hS8.alloc _) s2 [1] _ _ (by decide) (by decide) (show Blk _ _ [Value.int .i64 1] from Blk.new w8 _ _) (by omega)).mono ?_
            rintro e w9 ⟨rfl, hS9, hKa⟩
            rw [hjj] at hS9
            have hKb := ((Kept.refl (At b) w8).alloc _).same hKa
            have hO9 := hO8.kept hbl hKb
            have hKc := hK9.same hKb
            go_wp2_with fail
            go_roundg (ts.length - j)
            case measure => omega
            case rel => exact ⟨j, fk, M, rfl, hj.2, by omega, by omega, by omega, hL8, hKc, hS9, hO9, HP2⟩
          · have x0 : isK ts e2 [5] = false := by simpa using x0
            rw [x0, if_neg (by simp)] at HP2
            rw [x0]
            have HRR := Lib.hid (some_ok HP2.out)
            have HX := Lib.hid HR.out
            rw [HRR.out] at HX
            have HX2 := Lib.hid (some_ok (show some (Except.ok (if nt = true then newP 27 0 [] [if 1 < M.length then newP 32 0 [] M else M.headD []] else (if 1 < M.length then newP 32 0 [] M else M.headD []), e2)) = some r from by
              have := HX.out
              simp only [PRes.go, pOk] at this
              exact this))
            clear HX HRR HP2 x0
            have hM1 : M.length ≤ 100000000 := by omega
            have hM2 : M.flatten.length ≤ 100000000 := by omega
            have hhd := headD_le M
            by_cases x1 : 1 < M.length
            · rw [if_pos x1] at HX2
              have y1 : decide ((1 : Int) < (M.length : Int)) = true := by rw [decide_eq_true_eq]; omega
              have HN := Lib.hid (cNewS_any 32 0 [] M b _ w7 (by omega) (hO7.ksl hbl) (by omega) hM1)
              have hlen : (newP 32 0 [] M).length ≤ 50000000 := by rw [len_newP]; omega
              obtain ⟨body, hbd⟩ : ∃ x, newP 32 0 [] M = x := ⟨_, rfl⟩
              rw [hbd] at HX2 HN hlen
              generalize M.length = mlen at *
              obtain ⟨ga, gc', rfl, -⟩ := id hN7
              clear hN7 hO7 hbd
              go_wp2_with fail
              refine HN.out.mono ?_
              rintro e w8 ⟨v8, rfl, hN8, hb8⟩
              have hS8 := hS7.below hb8
              have hK8 := hK7.andBelow hb8
              have hsz8 := hK8.size
              obtain ⟨gd, gf, rfl, -⟩ := id hN8
              cases nt with
              | true =>
                rw [if_pos rfl] at HX2
                have HN2 := Lib.hid (fun (w9 : World) (u : Value) (h1 : b < w9.heap.size) (h2 : NSl w9 b u body) => cNewS_any 27 0 [] [body] b _ _ (by simp; omega) (KSl.new1 (w := w9) (u := u) h1 (.inl h2)) (by simp; omega) (by simp))
                go_wp2_with fail
                refine (HN2.out _ _ (by omega) hN8).mono ?_
                rintro e w9 ⟨v9, rfl, hN9, hb9⟩
                have hba := bNext ((Below.refl _ _).alloc (Nat.le_refl _) _) hb9
                obtain ⟨gh, gi, rfl, -⟩ := id hN9
                go_wp2_with fail
                go_ret2
                exact POut.ok HX2.out rfl hN9 (hS8.below hba) (hK8.andBelow hba)
              | false =>
                rw [if_neg (by simp)] at HX2
                go_wp2_with fail
                go_ret2
                exact POut.ok HX2.out rfl hN8 hS8 hK8
            · rw [if_neg x1] at HX2
              have y1 : decide ((1 : Int) < (M.length : Int)) = false := by rw [decide_eq_false_iff_not]; omega
              have hlen : (M.headD []).length ≤ 50000000 := by omega
              obtain ⟨body, hbd⟩ : ∃ x, M.headD [] = x := ⟨_, rfl⟩
              rw [hbd] at HX2 hN7 hlen hhd
              generalize M.length = mlen at *
              obtain ⟨gd, gf, rfl, -⟩ := id hN7
              obtain ⟨w8, hw8⟩ : ∃ w8, w8 = w7 := ⟨_, rfl⟩
              have hN8 := hN7
              have hS8 := hS7
              have hK8 := hK7
              have hsz8 := hK8.size
              clear hO7 hbd hw8
              cases nt with
              | true =>
                rw [if_pos rfl] at HX2
                have HN2 := Lib.hid (fun (w9 : World) (u : Value) (h1 : b < w9.heap.size) (h2 : NSl w9 b u body) => cNewS_any 27 0 [] [body] b _ _ (by simp; omega) (KSl.new1 (w := w9) (u := u) h1 (.inl h2)) (by simp; omega) (by simp))
                go_wp2_with fail
                refine (HN2.out _ _ (by omega) hN8).mono ?_
                rintro e w9 ⟨v9, rfl, hN9, hb9⟩
                have hba := bNext ((Below.refl _ _).alloc (Nat.le_refl _) _) hb9
                obtain ⟨gh, gi, rfl, -⟩ := id hN9
                go_wp2_with fail
                go_ret2
                exact POut.ok HX2.out rfl hN9 (hS8.below hba) (hK8.andBelow hba)
              | false =>
                rw [if_neg (by simp)] at HX2
                go_wp2_with fail
                go_ret2
                exact POut.ok HX2.out rfl hN8 hS8 hK8

end Go.Proofs.YtepebnblbheegaaGreatDoor

/- Dialect B's parser: which words are keys. -/
namespace Go.Proofs.YtepebnblbheegaaGreatDoor
open Go Go.RowKit

theorem bs_app (l m : List UInt8) : bs l ++ bs m = bs (l ++ m) := by
  unfold bs
  apply ByteArray.ext
  simp

set_option maxHeartbeats 8000000 in
set_option maxRecDepth 100000 in
theorem pIsKey_any (s : List UInt8) (w : World) (hs : s.length ≤ 8192) (mx : Int) (hm : w.cell? ⟨9, 0, none⟩ = some (.int .i64 mx)) :
    Calls Tryz.prog 20 #[.string (bs s)] w fun e w' => e = .returned (.bool (keyB s)) ∧ w' = w := by
  obtain ⟨r, hr⟩ : ∃ r, keyB s = r := ⟨_, rfl⟩
  have HR := Lib.hid hr
  rw [hr]
  clear hr
  by_cases h0 : s = []
  · subst h0
    have he : (bs ([] : List UInt8)).toList = [] := by rw [ByteArray.toList_eq]; rfl
    go_enter Tryz.func20, Tryz.ntmps20
    go_wp2_with fail
    go_ret
    exact ⟨by rw [← HR.out]; rfl, rfl⟩
  · have hq : ((bs s).toList == []) = false := by
      rw [ByteArray.toList_eq, bs_list, beq_eq_false_iff_ne]
      exact h0
    have H0 := Lib.hid h0
    have hz0 : (bs s).size ≤ 8192 := by rw [bs_size]; exact hs
    obtain ⟨z1, hz1⟩ : ∃ z, (⟨#[32]⟩ : ByteArray) ++ bs s = z := ⟨_, rfl⟩
    have hz1' : z1 = bs (32 :: s) := by rw [← hz1]; exact bs_app [32] s
    have hz2 : z1.size ≤ 8193 := by rw [hz1', bs_size, List.length_cons]; omega
    have hz3 : z1 ++ (⟨#[32]⟩ : ByteArray) = bs (32 :: (s ++ [32])) := by rw [hz1']; exact bs_app (32 :: s) [32]
    clear hz1'
    clear h0
    have HB := Lib.hid (blank_in s)
    have hls : (bs s).data.toList = s := bs_list s
    go_enter Tryz.func20, Tryz.ntmps20
    go_wp2_with fail
    refine (Tryz.strings_Contains_one (bs s) 32 w).mono ?_
    rintro e w2 ⟨rfl, rfl⟩
    rw [hls, HB.out]
    cases hc : s.contains 32 with
    | true =>
      have HX := Lib.hid (key_blank s (List.contains_iff_mem.1 hc))
      clear hc
      go_wp2_with fail
      go_ret
      exact ⟨by rw [← HR.out, HX.out]; rfl, rfl⟩
    | false =>
      have HX := Lib.hid (keys_in s (fun c h e => by
        subst e
        rw [List.contains_iff_mem.2 h] at hc
        cases hc) H0.out)
      clear hc
      go_wp2_with fail
      refine (Tryz.strings_Contains (bs keysL) (bs (32 :: (s ++ [32]))) mx w2 (by decide) hm).mono ?_
      rintro e w3 ⟨rfl, rfl⟩
      rw [bs_list, bs_list, HX.out, HR.out]
      go_wp2_with fail
      go_ret
      exact ⟨rfl, rfl⟩

end Go.Proofs.YtepebnblbheegaaGreatDoor
