/- Dialect B's parser: settings, words and turns. -/
import Derived.Test.YtepebnblbheegaaGreatDoorBMade
import Derived.Test.YtepebnblbheegaaGreatDoorBChooseG
import Derived.Deep.CutBlock
namespace Go.Proofs.YtepebnblbheegaaGreatDoor
open Go Go.RowKit

theorem pMade_any (S : List (List UInt8 × Prog)) (Ws : List Prog) (b : Nat) (v1 v2 v3 : Value) (w : World) (hb : b < w.heap.size) (h1 : SSl w v1 (S.map (·.1))) (h2 : KSl w b v2 (S.map (·.2))) (h3 : KSl w b v3 Ws) (hS : ∀ x ∈ S, 0 < x.2.length ∧ x.2.length ≤ 50000) (hsl : setsLen S ≤ 1000000) (hn : S.length ≤ 9000) (hWl : Ws.flatten.length ≤ 1000000) (hWn : Ws.length ≤ 9000) :
    Calls Tryz.prog 242 #[v1, v2, v3] w fun e w' => ∃ v', e = .returned v' ∧ NSl w' b v' (madeP S Ws) ∧ Below w.heap.size w w' := by
  by_cases hW : 0 < Ws.length
  · exact pMade_call S Ws b v1 v2 v3 w hb h1 h2 h3 hS hn hW hWl hWn
  · obtain rfl : Ws = [] := List.length_eq_zero_iff.1 (by omega)
    exact pMade_sets S b v1 v2 v3 w hb h1 h2 h3 (fun x hx => (hS x hx).1) hsl hn

theorem SSl.kept {w w' : World} {b : Nat} {v : Value} {L : List (List UInt8)} (h : SSl w v L) (hk : Kept (At b) w w') (hb : ∀ k, v.ownBlock = some k → k ≠ b) : SSl w' v L := by
  obtain ⟨ao, cap, rfl, h2, h3, h4⟩ := h
  refine ⟨ao, cap, rfl, h2, h3, fun hl => ?_⟩
  obtain ⟨g, rfl, e2, e3⟩ := h4 hl
  exact ⟨g, rfl, Nat.lt_of_lt_of_le e2 hk.size, fun i s hi => hk.cell (e3 i s hi) (hb g rfl)⟩
/-- One more name, in memory. -/
theorem SOwn.grown {w0 w w' : World} {v v' : Value} {L : List (List UInt8)} {s : List UInt8} {o : Obj} (hs : w0.heap.size ≤ w.heap.size) (h2 : SOwn w w0.heap.size v L)
    (hown : w'.ownsRow w0.heap.size 9 1 v' (L.length + 1) (L.map (fun s => Value.string (bs s)) ++ [.string (bs s)])) (hg : (w.alloc o).grownBy w' v.ownBlock) : SOwn w' w0.heap.size v' (L ++ [s]) ∧ Below w0.heap.size w w' := by
  have hb1 := (Below.refl w.heap.size w).alloc (Nat.le_refl _) o
  have hlt := World.ownsRow.lt h2
  refine ⟨?_, ?_⟩
  · unfold SOwn
    rw [List.length_append, List.map_append]
    exact hown
  · exact (hb1.mono hs).trans ((Kept.grown (S := fun k => some k = v.ownBlock) (Kept.refl _ _) hg (fun k h _ => h.symm)).below (by simp; omega) (fun i hi e => by have := hlt _ e.symm; omega))

theorem sets_facts {ts : List BTok} {cap : Nat} (T : PTs cap ts) {f d i : Nat} {S : List (List UInt8 × Prog)} {e : Nat} (hi : i < ts.length) (h : pSets ts f d i [] = some (.ok (S, e))) : e < ts.length ∧ setsLen S ≤ 50000 ∧ S.length ≤ 8200 := by
  have h1 := ((postAll T.fix.good f).sets d i [] hi).1 S e h
  have := T.fix.num
  simp only [setsLen, List.map_nil, List.sum_nil, List.length_nil] at h1
  unfold setsLen
  omega
theorem items_facts {ts : List BTok} {cap : Nat} (T : PTs cap ts) {f d i : Nat} {o : List Prog × List (Nat × Prog)} {e : Nat} (hi : i < ts.length) (h : pItems ts f d i [] [] = some (.ok (o, e))) : e < ts.length ∧ o.1.flatten.length ≤ 50000 ∧ o.1.length ≤ 8200 ∧ o.2.length ≤ 8200 := by
  have h1 := ((postAll T.fix.good f).items d i [] [] hi).1 o e h
  have := T.fix.num
  simp only [turnsLen, List.flatten_nil, List.map_nil, List.sum_nil, List.length_nil] at h1
  omega

theorem infoStr1 : True := trivial

set_option maxHeartbeats 32000000 in
set_option maxRecDepth 100000 in
theorem pSimple_walk {b g cap : Nat} {ts : List BTok} {sent : Nat → Addr} (T : PTs cap ts) (f : Nat) (ih : ∀ f' < f, DoesW b g cap ts sent f') : Does b g cap ts sent 213 (pSimple ts (f + 1)) := by
  intro w i d r hd hi hS hE hr
  have hbl := hS.blt
  have hgl := hS.glt
  have F := T.fix
  have hcap := F.num
  have hf3 := tok_f3
  have hf0 := tok_f0
  obtain ⟨k0, hk0, hk1, hk2, hk3⟩ := info_parts infoNodes
  obtain ⟨i0, hi0, hz0, hz1, hz2⟩ := info_parts infoTurns
  obtain ⟨s0, hs0, hs1, hs2, hs3⟩ := info_parts infoString
  have IH := Lib.hid ih
  have HR := Lib.hid hr.out
  rw [pSimple] at HR
  clear ih hr
  cases hq : pSets ts f d i [] with
  | none =>
    rw [hq] at HR
    exact (go_none HR.out).elim
  | some rs =>
    rw [hq] at HR
    have HQ := Lib.hid hq
    have HFS := Lib.hid (show ∀ S e, rs = .ok (S, e) → e < ts.length ∧ setsLen S ≤ 50000 ∧ S.length ≤ 8200 from fun S e h => sets_facts T hi (by rw [hq, h]))
    clear hq
    go_enter Tryz.func213, Tryz.ntmps213
    go_upto_block 0 with fail
    go_cut [4, 6] (fun s4 s6 w2 => ∃ (k : Nat) (S : List (List UInt8 × Prog)), rs = .ok (S, k) ∧ (∀ x ∈ S, 0 < x.2.length ∧ x.2.length ≤ 50000) ∧ KOwn w2 w.heap.size b s4 (S.map (·.2)) ∧ SOwn w2 w.heap.size s6 (S.map (·.1)) ∧ Kept (At b) w w2 ∧ PSt w2 b g cap ts k d)
    case first =>
      go_wp2_with fail
      go_loopg [4, 6, 8, 9] (ts.length - i) (fun m v4 v6 w8 e9 wr => ∃ (k fk : Nat) (L : List (List UInt8 × Prog)), m = ts.length - k ∧ k < ts.length ∧ fk ≤ f ∧ L.length ≤ k ∧ Hid (∀ x ∈ L, 0 < x.2.length ∧ x.2.length ≤ 50000) ∧ Kept (At b) w wr ∧ PSt wr b g cap ts k d ∧ KOwn wr w.heap.size b v4 (L.map (·.2)) ∧ SOwn wr w.heap.size v6 (L.map (·.1)) ∧ Hid (pSets ts fk d k L = some rs))
      case atStart => exact ⟨i, f, [], rfl, hi, Nat.le_refl _, by simp, Lib.hid (fun _ h => nomatch h), Kept.refl _ _, hS, KOwn.nil _ _ _, SOwn.nil _ _, HQ⟩
      case round =>
        clear hS HQ hi
        obtain ⟨k, fk, L, rfl, hk, hfk, hL1, hL2, hK, hS, hO, hO2, hr⟩ := hrel
        obtain ⟨fk, rfl⟩ : ∃ q, fk = q + 1 := by
          cases fk with
          | zero => have := hr.out; rw [pSets] at this; cases this
          | succ q => exact ⟨q, rfl⟩
        obtain ⟨ao, acap, rfl⟩ := hO.form
        obtain ⟨ao2, acap2, rfl⟩ := hO2.form
        simp only [List.length_map]
        have HP := Lib.hid hr.out
        rw [pSets] at HP
        clear hr
        go_wp2_with fail
        refine (pIs_any F (hS.alloc _) hk [18] _ _ (by decide) (show Blk _ _ [Value.int .i64 18] from Blk.new wr _ _)).mono ?_
        rintro e w1 ⟨rfl, hb1⟩
        have hb2 := bNext ((Below.refl _ wr).alloc (Nat.le_refl _) _) hb1
        have hS1 := hS.below hb2
        have hK1 := hK.andBelow hb2
        have hO1 := hO.below hbl hb2
        have hO21 := hO2.below hbl hb2
        have hsz1 := hK1.size
        clear hS hK hO hO2 hb1 hb2
        cases x1 : isK ts k [18] with
        | false =>
          rw [if_neg (fun h => by rw [x1] at h; exact absurd h.1 (by simp))] at HP
          have HX := Lib.hid (some_ok HP.out)
          clear HP
          go_wp2_with fail
          go_meet
          case rel => exact ⟨k, L, HX.out, hL2.out, by have h := hO1; rw [List.length_map] at h; exact h, by have h := hO21; rw [List.length_map] at h; exact h, hK1, hS1⟩
        | true =>
          go_wp2_with fail
          refine (pNext_any F hS1 hk).mono ?_
          rintro e w2 ⟨rfl, hb2⟩
          unfold BTok.cells
          have hS2 := hS1.below hb2
          have hK2 := hK1.andBelow hb2
          have hO2 := hO1.below hbl hb2
          have hO22 := hO21.below hbl hb2
          have hsz2 := hK2.size
          clear hS1 hK1 hO1 hO21 hb2
          by_cases x2 : (tkAt ts (skP ts k)).kind = 16
          · have k2 : (((tkAt ts (skP ts k)).kind : Int) == 16) = true := by rw [beq_iff_eq]; omega
            go_wp2_with fail
            refine (pNow_any F hS2 hk).mono ?_
            rintro e w3 ⟨rfl, hb3⟩
            unfold BTok.cells
            have hS3 := hS2.below hb3
            have hK3 := hK2.andBelow hb3
            have hO3 := hO2.below hbl hb3
            have hO23 := hO22.below hbl hb3
            have hsz3 := hK3.size
            have htx := F.good.text k
            clear hS2 hK2 hO2 hO22 hb3
            go_wp2_with fail
            refine (tName_any (bs (tkAt ts k).text) w3 (by rw [bs_size]; omega)).mono ?_
            rintro e w4 ⟨rfl, rfl⟩
            rw [bs_list]
            cases x3 : nameB (tkAt ts k).text with
            | false =>
              rw [if_neg (fun h => by rw [x3] at h; exact absurd h.2.2.1 (by simp))] at HP
              have HX := Lib.hid (some_ok HP.out)
              clear HP
              go_wp2_with fail
              go_meet
              case rel => exact ⟨k, L, HX.out, hL2.out, by have h := hO3; rw [List.length_map] at h; exact h, by have h := hO23; rw [List.length_map] at h; exact h, hK3, hS3⟩
            | true =>
              go_wp2_with fail
              refine (pNow_any F hS3 hk).mono ?_
              rintro e w4 ⟨rfl, hb4⟩
              unfold BTok.cells
              have hS4 := hS3.below hb4
              have hK4 := hK3.andBelow hb4
              have hO4 := hO3.below hbl hb4
              have hO24 := hO23.below hbl hb4
              have hE4 := hE.kept hK4
              have hsz4 := hK4.size
              obtain ⟨mx, hmx⟩ := hE4.mx
              clear hS3 hK3 hO3 hO23 hb4
              go_wp2_with fail
              refine (pIsKey_any _ _ htx mx hmx).mono ?_
              rintro e w5 ⟨rfl, rfl⟩
              clear hmx
              cases x4 : keyB (tkAt ts k).text with
              | true =>
                rw [if_neg (fun h => by rw [x4] at h; exact absurd h.2.2.2 (by simp))] at HP
                have HX := Lib.hid (some_ok HP.out)
                clear HP
                go_wp2_with fail
                go_meet
                case rel => exact ⟨k, L, HX.out, hL2.out, by have h := hO4; rw [List.length_map] at h; exact h, by have h := hO24; rw [List.length_map] at h; exact h, hK4, hS4⟩
              | false =>
                rw [if_pos ⟨x1, x2, x3, x4⟩] at HP
                clear x1 k2 x3 x4
                go_wp2_with fail
                refine (pNow_any F hS4 hk).mono ?_
                rintro e w5 ⟨rfl, hb5⟩
                unfold BTok.cells
                have hS5 := hS4.below hb5
                have hK5 := hK4.andBelow hb5
                have hO5 := hO4.below hbl hb5
                have hO25 := hO24.below hbl hb5
                have hsz5 := hK5.size
                clear hS4 hK4 hO4 hO24 hE4 hb5
                have hj1 := skP_le (ts := ts) hk
                have hj2 := skP_le (ts := ts) hj1.2
                obtain ⟨nm, hnm⟩ : ∃ nm, (tkAt ts k).text = nm := ⟨_, rfl⟩
                rw [hnm] at HP ⊢
                have HOA := hO25
                unfold SOwn at HOA
                have hlm : (L.map (·.1)).length = L.length := List.length_map _
                have hlm2 : (L.map (·.2)).length = L.length := List.length_map _
                rw [hlm] at HOA hO25
                rw [hlm2] at hO5
                have HO25 := Lib.hid hO25
                have HO5 := Lib.hid hO5
                have hOA : ∀ o, (w5.alloc o).ownsRow w.heap.size 9 1 _ L.length ((L.map (·.1)).map fun s => Value.string (bs s)) := fun o => ownsRow_kept HOA (Kept.ofBelow (S := Nowhere) ((Below.refl _ w5).alloc (Nat.le_refl _) o)) (fun _ _ _ e => e)
                clear hO25 hO5 hlm hlm2
                go_wp2_with (at_builtin; refine wpList_append_own _ rfl _ _ 36 rfl w.heap.size 9 s0 _ 1 16 Tryz.underlying36 hs0 hs1 hs2 hs3 rfl (by decide) _ _ _ rfl (hOA _) ⟨w5.heap.size, 0, none⟩ 1 1 [.string (bs nm)] rfl rfl (cells_new (by simp)) (by intro u hu; simp at hu; subst hu; rfl) (by unfold maxLen; omega) (by omega) (by simp; omega) ?_; intro v6 w6 hown' hgrow _)
                obtain ⟨hO6, hb6⟩ := SOwn.grown (w0 := w) (s := nm) hsz5 HO25.out (by rw [List.length_map]; exact hown') hgrow
                have hO7 := (HO5.out.below hbl ((Below.refl _ w5).alloc (Nat.le_refl _) _)).other hgrow (by decide) (by decide) (row_kind HO25.out _)
                have hS6 := hS5.belowB hb6 hbl hgl
                have hK6 := hK5.belowB hb6 (Nat.le_refl _)
                clear hOA HOA HO5 HO25 hown' hgrow hb6 hS5 hK5
                obtain ⟨j1, hjj1⟩ : ∃ j, skP ts k = j := ⟨_, rfl⟩
                rw [hjj1] at HP hj1 hj2 x2
                obtain ⟨j2, hjj2⟩ : ∃ j, skP ts j1 = j := ⟨_, rfl⟩
                rw [hjj2] at HP hj2
                obtain ⟨bo, bcap, rfl⟩ := hO6.form
                rw [List.length_append, List.length_map, List.length_cons, List.length_nil] at hO6
                simp only [List.length_append, List.length_map, List.length_cons, List.length_nil, Nat.zero_add]
                go_wp2_with fail
                refine (pSkip_any F hS6 hk).mono ?_
                rintro e w7 ⟨rfl, hS7, hK7⟩
                rw [hjj1] at hS7
                go_wp2_with fail
                refine (pSkip_any F hS7 hj1.2).mono ?_
                rintro e w8 ⟨rfl, hS8, hK8⟩
                rw [hjj2] at hS8
                have hK9 := (hK6.same hK7).same hK8
                have hO8 := (hO6.kept hbl hK7).kept hbl hK8
                have hO9 := (hO7.kept hbl hK7).kept hbl hK8
                have hE8 := hE.kept hK9
                have hsz8 := hK9.size
                clear hO6 hO7 hS6 hS7 hK6 hK7 hK8
                cases hq : pWord ts fk d j2 0 with
                | none =>
                  rw [hq] at HP
                  exact (go_none HP.out).elim
                | some rc =>
                  rw [hq] at HP
                  have HD := Lib.hid (IH.out fk (by omega) w8 j2 d 0 rc hd (by omega) hj2.2 hS8 hE8 (Lib.hid hq))
                  clear hS8
                  go_wp2_with fail
                  refine HD.out.mono ?_
                  cases rc with
                  | error e0 =>
                    obtain ⟨c0, p0⟩ := e0
                    have HX0 := Lib.hid (some_err HP.out)
                    have HX := Lib.hid (show r = .error (c0, p0) from by
                      have := HR.out
                      rw [HX0.out] at this
                      exact some_err this)
                    clear HP hq HD HX0
                    rintro e w9 ⟨hKa, v, u, j', l0, rfl, h0, -, ⟨eb, rfl, q2, q3⟩, hS9⟩
                    obtain ⟨va, vc, rfl⟩ := h0.form
                    go_wp2_with fail
                    go_ret2
                    exact POut.bad HX.out rfl (.none _ _) (Nat.zero_le _) ⟨eb, rfl, q2, by omega⟩ hS9 (hK9.same hKa)
                  | ok q =>
                    obtain ⟨l, e2⟩ := q
                    obtain ⟨y1, y2, y3, y4⟩ := word_facts T (by omega) hj2.2 hq
                    have HX := Lib.hid (show pSets ts fk d e2 (L ++ [(nm, l)]) = some rs from HP.out)
                    clear HP hq HD
                    rintro e w9 ⟨hKa, v, rfl, hN, hS9⟩
                    have hKb := hK9.same hKa
                    have hOa := hO8.kept hbl hKa
                    obtain ⟨us, u1, u2, u3⟩ := hO9.kept hbl hKa
                    have hszb := hKb.size
                    have HL := Lib.hid (show ∀ x ∈ L ++ [(nm, l)], 0 < x.2.length ∧ x.2.length ≤ 50000 from fun x hx => by
                      rcases List.mem_append.1 hx with hx | hx
                      · exact hL2.out x hx
                      · rw [List.mem_singleton] at hx
                        subst hx
                        exact ⟨y4, by show l.length ≤ 50000; omega⟩)
                    have HN := Lib.hid hN
                    obtain ⟨ga, gc, rfl, -⟩ := hN
                    generalize hlz : l.length = lz at *
                    rw [List.length_map] at u1 u2
                    have hOA : ∀ o, (w9.alloc o).ownsRow w.heap.size 23 1 _ L.length us := fun o => ownsRow_kept u2 (Kept.ofBelow (S := Nowhere) ((Below.refl _ w9).alloc (Nat.le_refl _) o)) (fun _ _ _ e => e)
                    clear hK9 hKa hO8 hO9 hE8 hL2
                    go_wp2_with (at_builtin; refine wpList_append_own _ rfl _ _ 39 rfl w.heap.size 23 k0 _ 1 24 Tryz.underlying39 hk0 hk1 hk2 hk3 rfl (by decide) _ _ _ rfl (hOA _) ⟨w9.heap.size, 0, none⟩ 1 1 [.slice (some ⟨ga, 0, none⟩) lz gc] rfl rfl (cells_new (by simp)) (by intro u hu; simp at hu; subst hu; rfl) (by unfold maxLen; omega) (by omega) (by simp; omega) ?_; intro v10 w10 hown' hgrow _)
                    obtain ⟨hOd, hbd⟩ := KOwn.grown (w0 := w) (L := L.map (·.2)) hszb (by rw [List.length_map]; exact u1) (by rw [List.length_map]; exact u2) u3 HN.out (by rw [List.length_map]; exact hown') hgrow
                    have hOe := (hOa.below hbl ((Below.refl _ w9).alloc (Nat.le_refl _) _)).other hgrow (by decide) (row_kind u2 _)
                    have hSe := hS9.belowB hbd hbl hgl
                    have hKe := hKb.belowB hbd (Nat.le_refl _)
                    go_wp2_with fail
                    go_roundg (ts.length - e2)
                    case measure => omega
                    case rel => exact ⟨e2, fk, L ++ [(nm, l)], rfl, y2, by omega, by simp; omega, HL, hKe, hSe, by rw [List.map_append]; exact hOd, by rw [List.map_append]; exact hOe, HX⟩
          · have k2 : (((tkAt ts (skP ts k)).kind : Int) == 16) = false := by rw [beq_eq_false_iff_ne]; omega
            rw [if_neg (fun h => x2 h.2.1)] at HP
            have HX := Lib.hid (some_ok HP.out)
            clear HP
            go_wp2_with fail
            go_meet
            case rel => exact ⟨k, L, HX.out, hL2.out, by have h := hO2; rw [List.length_map] at h; exact h, by have h := hO22; rw [List.length_map] at h; exact h, hK2, hS2⟩
    case rest =>
      rename World => wa
      obtain ⟨k1, S, rfl, hSx, hO, hO2, hK, hSc⟩ := hcut
      obtain ⟨f1, f2, f3⟩ := HFS.out S k1 rfl
      have HSX := Lib.hid hSx
      have HK2 := hO.ksl hbl
      have HS2 := hO2.ssl
      obtain ⟨ao4, ac4, rfl⟩ := hO.form
      obtain ⟨ao6, ac6, rfl⟩ := hO2.form
      have hne2 : ∀ q, (Value.slice ao6 (S.map (·.1)).length ac6).ownBlock = some q → q ≠ b := fun q hq => by
        have := World.ownsRow.lt hO2 q hq
        omega
      have hlen1 : (S.map (·.1)).length = S.length := List.length_map _
      have hlen2 : (S.map (·.2)).length = S.length := List.length_map _
      rw [hlen1] at HS2 hne2 ⊢
      rw [hlen2] at HK2 ⊢
      have HNE := Lib.hid hne2
      clear hlen1 hlen2 hO hO2 hSx HQ HFS hS hne2
      have hbw : b < wa.heap.size := by have := hK.size; omega
      have hgw := hSc.glt
      have HR2 := Lib.hid (show ((pItems ts f d k1 [] []).go fun wt e => if S.length + wt.1.length + wt.2.length = 0 then formP ts e else pOk (aroundP wt.2 (madeP S wt.1)) e) = some r from HR.out)
      clear HR
      cases hq : pItems ts f d k1 [] [] with
      | none =>
        rw [hq] at HR2
        exact (go_none HR2.out).elim
      | some ri =>
        rw [hq] at HR2
        have HQ := Lib.hid hq
        have HFS := Lib.hid (show ∀ o e, ri = .ok (o, e) → e < ts.length ∧ o.1.flatten.length ≤ 50000 ∧ o.1.length ≤ 8200 ∧ o.2.length ≤ 8200 from fun o e h => items_facts T f1 (by rw [hq, h]))
        clear hq
        go_upto_block 2 with fail
        go_cut [5, 7] (fun s5 s7 w2 => ∃ (k : Nat) (Ws : List Prog) (L : List (Nat × Prog)), ri = .ok ((Ws, L), k) ∧ (∀ t ∈ L, t.1 ≤ 100 ∧ t.2.length ≤ 50000) ∧ (∀ l ∈ Ws, 0 < l.length) ∧ KOwn w2 wa.heap.size b s5 Ws ∧ TOwn w2 wa.heap.size b s7 L ∧ Kept (At b) wa w2 ∧ PSt w2 b g cap ts k d)
        case first =>
          go_wp2_with fail
          go_loopg [5, 7, 10, 11, 12, 13] (ts.length - k1) (fun m v5 v7 t10 e11 w12 e13 wr => ∃ (k fk : Nat) (Ws : List Prog) (L : List (Nat × Prog)), m = ts.length - k ∧ k < ts.length ∧ fk ≤ f ∧ Ws.length ≤ k ∧ L.length ≤ k ∧ Hid (∀ t ∈ L, t.1 ≤ 100 ∧ t.2.length ≤ 50000) ∧ Hid (∀ l ∈ Ws, 0 < l.length) ∧ Kept (At b) wa wr ∧ PSt wr b g cap ts k d ∧ KOwn wr wa.heap.size b v5 Ws ∧ TOwn wr wa.heap.size b v7 L ∧ Hid (pItems ts fk d k Ws L = some ri))
          case atStart => exact ⟨k1, f, [], [], rfl, f1, Nat.le_refl _, by simp, by simp, Lib.hid (fun _ h => nomatch h), Lib.hid (fun _ h => nomatch h), Kept.refl _ _, hSc, KOwn.nil _ _ _, TOwn.nil _ _ _, HQ⟩
          case round =>
            clear hSc HQ f1 HK2 HS2
            obtain ⟨k, fk, Ws, L, rfl, hk, hfk, hW1, hL1, hL2, hW2, hKc, hS, hO, hO2, hr⟩ := hrel
            obtain ⟨fk, rfl⟩ : ∃ q, fk = q + 1 := by
              cases fk with
              | zero => have := hr.out; rw [pItems] at this; cases this
              | succ q => exact ⟨q, rfl⟩
            obtain ⟨ao, acap, rfl⟩ := hO.form
            obtain ⟨ao2, acap2, rfl⟩ := hO2.form
            have HP := Lib.hid hr.out
            rw [pItems] at HP
            clear hr
            go_wp2_with fail
            refine (pTurning_any F hS hk).mono ?_
            rintro e w1 ⟨rfl, hb1⟩
            have hS1 := hS.below hb1
            have hO1 := hO.below hbw hb1
            have hO21 := hO2.below hbw hb1
            have hK1 := hKc.andBelow hb1
            have hE1 := hE.kept (hK.same hK1)
            have hsz1 := hK1.size
            clear hS hO hO2 hKc hb1
            by_cases x0 : turningP ts k = true
            · rw [if_pos x0] at HP
              have hkd := turn_kind_le x0
              rw [x0]
              have hj := (skP_le (ts := ts) hk)
              cases hq : pWord ts fk d (skP ts k) 0 with
              | none =>
                rw [hq] at HP
                exact (go_none HP.out).elim
              | some rc =>
                rw [hq] at HP
                have HD := Lib.hid (pTurn_walk T fk (IH.out fk (by omega)) w1 k d rc hd hk hS1 hE1 (Lib.hid hq))
                clear hS1 x0
                obtain ⟨kd, hkk⟩ : ∃ kd, (tkAt ts k).kind = kd := ⟨_, rfl⟩
                rw [hkk] at HD HP hkd
                go_wp2_with fail
                refine HD.out.mono ?_
                cases rc with
                | error e0 =>
                  obtain ⟨c0, p0⟩ := e0
                  have HX0 := Lib.hid (some_err HP.out)
                  have HX := Lib.hid (show r = .error (c0, p0) from by
                    have := HR2.out
                    rw [HX0.out] at this
                    exact some_err this)
                  clear HP hq HD HX0
                  have hszk := hK.size
                  rintro e w5 ⟨hK5, v, u, j', rfl, ⟨va, vn, vc, rfl⟩, ⟨eb, rfl, q2, q3⟩, hS5⟩
                  go_wp2_with fail
                  go_ret2
                  unfold ErrAt at q2
                  exact POut.bad HX.out rfl (.none _ _) (Nat.zero_le _) ⟨eb, rfl, q2.alloc _, by omega⟩ (hS5.alloc _) ((hK.same (hK1.same hK5)).alloc _)
                | ok q =>
                  obtain ⟨l, e2⟩ := q
                  obtain ⟨y1, y2, y3, y4⟩ := word_facts T (by omega) hj.2 hq
                  have HX := Lib.hid (show pItems ts fk d e2 Ws (L ++ [(kd, l)]) = some ri from HP.out)
                  clear HP hq HD
                  rintro e w5 ⟨hK5, v, rfl, hN, hS5⟩
                  have hK6 := hK1.same hK5
                  have HN := Lib.hid hN
                  obtain ⟨ga, gc, rfl, -⟩ := hN
                  have hO5 := hO1.kept hbw hK5
                  have hO25 := hO21.kept hbw hK5
                  have hsz5 := hK6.size
                  have HL := Lib.hid (show ∀ t ∈ L ++ [(kd, l)], t.1 ≤ 100 ∧ t.2.length ≤ 50000 from fun t ht => by
                    rcases List.mem_append.1 ht with ht | ht
                    · exact hL2.out t ht
                    · rw [List.mem_singleton] at ht
                      subst ht
                      exact ⟨hkd, by show l.length ≤ 50000; omega⟩)
                  generalize hlz : l.length = lz at *
                  have HLZ := Lib.hid hlz
                  clear hK5 hO1 hO21 hK1 hlz hL2 hE1
                  go_upto_region 16 with fail
                  have hb6 := (Below.refl w5.heap.size w5).alloc (Nat.le_refl _) (.cells #[.int .i64 (kd : Int), .slice (some ⟨ga, 0, none⟩) lz gc] 254)
                  have hB6 := Blk.new w5 [.int .i64 (kd : Int), .slice (some ⟨ga, 0, none⟩) lz gc] 254
                  obtain ⟨w6, hw6⟩ : ∃ w6, w5.alloc (.cells #[.int .i64 (kd : Int), .slice (some ⟨ga, 0, none⟩) lz gc] 254) = w6 := ⟨_, rfl⟩
                  rw [hw6] at hb6 ⊢
                  have hB6 : Blk w6 w5.heap.size [.int .i64 (kd : Int), .slice (some ⟨ga, 0, none⟩) lz gc] := by rw [← hw6]; exact hB6
                  have HN6 := Lib.hid (HN.out.below hb6)
                  have hS6 := hS5.below hb6
                  have hK7 := hK6.andBelow hb6
                  have hO6 := hO5.below hbw hb6
                  have hsz6 := hb6.size
                  have t0 := hB6.cell 0 rfl
                  have t1 := hB6.cell 1 rfl
                  obtain ⟨us, u1, u2, u3⟩ := hO25.below hbw hb6
                  generalize w5.heap.size = tb at *
                  clear hO5 hO25 hS5 HN hw6 hb6 hB6 hK6
                  have hOA : ∀ o, (w6.alloc o).ownsRow wa.heap.size 254 2 _ L.length _ := fun o => ownsRow_kept u2 (Kept.ofBelow (S := Nowhere) ((Below.refl _ w6).alloc (Nat.le_refl _) o)) (fun _ _ _ e => e)
                  have hsz7 := hK7.size
                  go_wp2_with (at_builtin; refine wpList_append_own _ rfl _ _ 252 rfl wa.heap.size 254 i0 _ 2 32 Tryz.underlying252 hi0 hz0 hz1 hz2 rfl (by decide) _ _ _ rfl (hOA _) ⟨w6.heap.size, 0, none⟩ 1 1 [.int .i64 (kd : Int), .slice (some ⟨ga, 0, none⟩) lz gc] rfl rfl (cells_new (by simp)) (by intro u hu; simp at hu; rcases hu with rfl | rfl <;> rfl) (by unfold maxLen; omega) (by omega) (by simp; omega) ?_; intro v7 w7 hown' hgrow _)
                  obtain ⟨hO7, hb7⟩ := TOwn.grown (w0 := wa) (t := (kd, l)) hsz7 u1 u2 u3 (by have := HN6.out; exact this) hown' hgrow
                  have hO8 := (hO6.below hbw ((Below.refl _ w6).alloc (Nat.le_refl _) _)).other hgrow (by decide) (by decide) (row_kind u2 _)
                  have hS7 := hS6.belowB hb7 hbw hgw
                  have hK8 := hK7.belowB hb7 (Nat.le_refl _)
                  go_wp2_with fail
                  go_roundg (ts.length - e2)
                  case measure => omega
                  case rel => exact ⟨e2, fk, Ws, L ++ [(kd, l)], rfl, y2, by omega, by omega, by simp; omega, HL, hW2, hK8, hS7, hO8, hO7, HX⟩
            · have x0 : turningP ts k = false := by simpa using x0
              rw [x0, if_neg (by simp)] at HP
              rw [x0]
              clear x0
              go_wp2_with fail
              refine (pItem_any F hS1 hk).mono ?_
              rintro e w2 ⟨rfl, hb2⟩
              have hS2 := hS1.below hb2
              have hO2 := hO1.below hbw hb2
              have hO22 := hO21.below hbw hb2
              have hK2 := hK1.andBelow hb2
              have hE2 := hE.kept (hK.same hK2)
              have hsz2 := hK2.size
              clear hS1 hO1 hO21 hK1 hb2 hE1
              cases x1 : itemP ts k with
              | false =>
                rw [if_pos (.inl x1)] at HP
                have HX := Lib.hid (some_ok HP.out)
                clear HP x1
                go_wp2_with fail
                go_meet
                case rel => exact ⟨k, Ws, L, HX.out, hL2.out, hW2.out, hO2, hO22, hK2, hS2⟩
              | true =>
                go_wp2_with fail
                refine (pKey_any F hS2 hk [101, 108, 115, 101]).mono ?_
                rintro e w3 ⟨rfl, hb3⟩
                have hS3 := hS2.below hb3
                have hO3 := hO2.below hbw hb3
                have hO23 := hO22.below hbw hb3
                have hK3 := hK2.andBelow hb3
                have hE3 := hE.kept (hK.same hK3)
                have hsz3 := hK3.size
                clear hS2 hO2 hO22 hK2 hb3 hE2
                cases x2 : keyAt ts k [101, 108, 115, 101] with
                | true =>
                  rw [if_pos (.inr x2)] at HP
                  have HX := Lib.hid (some_ok HP.out)
                  clear HP x1 x2
                  go_wp2_with fail
                  go_meet
                  case rel => exact ⟨k, Ws, L, HX.out, hL2.out, hW2.out, hO3, hO23, hK3, hS3⟩
                | false =>
                  rw [if_neg (fun h => by rw [x1, x2] at h; simp at h)] at HP
                  clear x1 x2
                  cases hq : pWord ts fk d k 0 with
                  | none =>
                    rw [hq] at HP
                    exact (go_none HP.out).elim
                  | some rc =>
                    rw [hq] at HP
                    have HD := Lib.hid (IH.out fk (by omega) w3 k d 0 rc hd (by omega) hk hS3 hE3 (Lib.hid hq))
                    clear hS3 hE3
                    go_wp2_with fail
                    refine HD.out.mono ?_
                    cases rc with
                    | error e0 =>
                      obtain ⟨c0, p0⟩ := e0
                      have HX0 := Lib.hid (some_err HP.out)
                      have HX := Lib.hid (show r = .error (c0, p0) from by
                        have := HR2.out
                        rw [HX0.out] at this
                        exact some_err this)
                      clear HP hq HD HX0
                      have hszk := hK.size
                      rintro e w9 ⟨hKa, v, u, j', l0, rfl, h0, -, ⟨eb, rfl, q2, q3⟩, hS9⟩
                      obtain ⟨va, vc, rfl⟩ := h0.form
                      go_wp2_with fail
                      go_ret2
                      exact POut.bad HX.out rfl (.none _ _) (Nat.zero_le _) ⟨eb, rfl, q2, by omega⟩ hS9 (hK.same (hK3.same hKa))
                    | ok q =>
                      obtain ⟨l, e2⟩ := q
                      obtain ⟨y1, y2, y3, y4⟩ := word_facts T (by omega) hk hq
                      have HX := Lib.hid (show pItems ts fk d e2 (Ws ++ [l]) L = some ri from HP.out)
                      clear HP hq HD
                      rintro e w9 ⟨hKa, v, rfl, hN, hS9⟩
                      have hKb := hK3.same hKa
                      have hOa := hO23.kept hbw hKa
                      obtain ⟨us, u1, u2, u3⟩ := hO3.kept hbw hKa
                      have hszb := hKb.size
                      have HW := Lib.hid (snoc_all hW2.out y4)
                      have HN := Lib.hid hN
                      obtain ⟨ga, gc, rfl, -⟩ := hN
                      generalize hlz : l.length = lz at *
                      have hOA : ∀ o, (w9.alloc o).ownsRow wa.heap.size 23 1 _ Ws.length us := fun o => ownsRow_kept u2 (Kept.ofBelow (S := Nowhere) ((Below.refl _ w9).alloc (Nat.le_refl _) o)) (fun _ _ _ e => e)
                      clear hK3 hKa hO3 hO23 hW2
                      go_wp2_with (at_builtin; refine wpList_append_own _ rfl _ _ 39 rfl wa.heap.size 23 k0 _ 1 24 Tryz.underlying39 hk0 hk1 hk2 hk3 rfl (by decide) _ _ _ rfl (hOA _) ⟨w9.heap.size, 0, none⟩ 1 1 [.slice (some ⟨ga, 0, none⟩) lz gc] rfl rfl (cells_new (by simp)) (by intro u hu; simp at hu; subst hu; rfl) (by unfold maxLen; omega) (by omega) (by simp; omega) ?_; intro v10 w10 hown' hgrow _)
                      obtain ⟨hOd, hbd⟩ := KOwn.grown (w0 := wa) (L := Ws) hszb u1 u2 u3 HN.out hown' hgrow
                      have hOe := (hOa.below hbw ((Below.refl _ w9).alloc (Nat.le_refl _) _)).other hgrow (by decide) (by decide) (row_kind u2 _)
                      have hSe := hS9.belowB hbd hbw hgw
                      have hKe := hKb.belowB hbd (Nat.le_refl _)
                      go_wp2_with fail
                      go_roundg (ts.length - e2)
                      case measure => omega
                      case rel => exact ⟨e2, fk, Ws ++ [l], L, rfl, y2, by omega, by simp; omega, by omega, hL2, HW, hKe, hSe, hOd, hOe, HX⟩
        case rest =>
          rename World => wd
          obtain ⟨k, Ws, L, rfl, hL, hW, hO, hO2, hK3, hS3⟩ := hcut
          obtain ⟨g1, g2, g3, g4⟩ := HFS.out (Ws, L) k rfl
          dsimp only at g2 g3 g4
          have HR3 := Lib.hid (show (if S.length + Ws.length + L.length = 0 then formP ts k else pOk (aroundP L (madeP S Ws)) k) = some r from HR2.out)
          have hK4 := hK.same hK3
          have hE4 := hE.kept hK4
          have hszd := hK4.size
          obtain ⟨ao5, ac5, rfl⟩ := hO.form
          obtain ⟨ao7, ac7, rfl⟩ := hO2.form
          clear HR2 HFS HQ hSc
          by_cases h0 : S.length + Ws.length + L.length = 0
          · rw [if_pos h0] at HR3
            have HX := Lib.hid (form_code HR3.out)
            have e1 : S.length = 0 := by omega
            have e2 : Ws.length = 0 := by omega
            have e3 : L.length = 0 := by omega
            rw [e1, e2, e3]
            clear HR3 h0 e1 e2 e3 hO hO2 HK2 HS2
            go_wp2_with fail
            refine (pForm_any F hS3 g1 sent hE4.env).mono ?_
            rintro e w6 ⟨eb, rfl, hE7, hl7, hb7⟩
            go_wp2_with fail
            go_ret2
            exact POut.bad HX.out rfl (.none _ _) (Nat.zero_le _) ⟨eb, rfl, hE7, by omega⟩ (hS3.below hb7) (hK4.andBelow hb7)
          · rw [if_neg h0] at HR3
            have HX := Lib.hid (some_ok HR3.out)
            have hml := (made_len S Ws).1
            have HM := Lib.hid (pMade_any S Ws b _ _ _ wd (by omega) (HS2.kept hK3 HNE.out) (HK2.kept hK3) (hO.ksl hbw) HSX.out (by omega) (by omega) (by omega) (by omega))
            have HA := Lib.hid (fun (w5 : World) (u : Value) (hb : Below wd.heap.size wd w5) (hu : NSl w5 b u (madeP S Ws)) => pAround_any L (madeP S Ws) b _ u w5 (by have := hb.size; omega) (hO2.tsl.below hb) hu (by omega) hL (by omega))
            clear HR3 hO hO2 HK2 HS2 HSX
            have q1 : IntKind.i64.wrap ((S.length : Int) + (Ws.length : Int)) = (S.length : Int) + (Ws.length : Int) := by rw [IntKind.wrap_i64]; omega
            have q2 : IntKind.i64.wrap ((S.length : Int) + (Ws.length : Int) + (L.length : Int)) = (S.length : Int) + (Ws.length : Int) + (L.length : Int) := by rw [IntKind.wrap_i64]; omega
            have q3 : (((S.length : Int) + (Ws.length : Int) + (L.length : Int)) == 0) = false := by rw [beq_eq_false_iff_ne]; omega
            clear f2 f3 hml g2 g3 g4 h0 HNE
            generalize S.length = n1 at *
            generalize Ws.length = n2 at *
            generalize L.length = n3 at *
            go_wp2_with fail
            refine HM.out.mono ?_
            rintro e w5 ⟨v5, rfl, hN5, hb5⟩
            have HA5 := Lib.hid (HA.out w5 _ hb5 hN5)
            obtain ⟨g5, c5, rfl, -⟩ := id hN5
            go_wp2_with fail
            refine HA5.out.mono ?_
            rintro e w6 ⟨v6, rfl, hN6, hb6⟩
            have hb7 := bNext hb5 hb6
            obtain ⟨g6, c6, rfl, -⟩ := id hN6
            go_wp2_with fail
            go_ret2
            exact POut.ok HX.out rfl hN6 (hS3.below hb7) (hK4.andBelow hb7)

end Go.Proofs.YtepebnblbheegaaGreatDoor
