/- Dialect B's parser: items joined. -/
import Derived.Test.YtepebnblbheegaaGreatDoorBPatG
import Derived.Deep.RegionWith
namespace Go.Proofs.YtepebnblbheegaaGreatDoor
open Go Go.RowKit

/-- The last of a row is written anew, in place. -/
theorem KOwn.setLast {w : World} {B b g n cap : Nat} {Q : List Prog} {y y' : Prog} {u : Value} (h : KOwn w B b (.slice (some ⟨g, 0, none⟩) n cap) (Q ++ [y])) (hu : NSl w b u y') :
    KOwn (w.setCell ⟨g, Q.length, none⟩ u) B b (.slice (some ⟨g, 0, none⟩) n cap) (Q ++ [y']) := by
  obtain ⟨us, h1, h2, h3⟩ := h
  have hsame : ∀ x l, NSl w b x l → NSl (w.setCell ⟨g, Q.length, none⟩ u) b x l := fun x l hx => hx.of_block fun g' cur fz h4 _ => by
    refine Below.heap_setCell _ _ _ _ (fun e => ?_)
    obtain ⟨c2, f2, h5⟩ := ownsRow_tag h2 g rfl
    rw [show g' = g from e] at h4
    rw [h4] at h5
    injection h5 with h5
    injection h5 with _ h6 _
    exact absurd h6 (by decide)
  have hul : us.length = Q.length + 1 := by rw [h1]; simp
  refine ⟨us.set Q.length u, by simp [h1], ⟨by simp [h1], ?_⟩, fun i x l hx hl => ?_⟩
  · rcases h2.2 with ⟨hv, h0⟩ | ⟨g', cap', cur, hv, hg, hh, hc1, hc2, hsz, ht⟩
    · simp at h0
    · injection hv with e1 e2 e3
      injection e1 with e1
      injection e1 with e1
      subst e1 e2 e3
      have hgl := lt_of_block hh
      refine .inr ⟨g, cap, cur.set! Q.length u, by simp, hg, ?_, by simpa using hc1, hc2, by simpa using hsz, ?_⟩
      · show (w.heap.modify g _)[g]? = _
        have h' : w.heap[g] = .cells cur 23 (0, 0) := by simpa [Array.getElem?_eq_getElem hgl] using hh
        rw [Array.getElem?_eq_getElem (by simpa using hgl), Array.getElem_modify_self, h']
        simp
      · rw [Array.set!_eq_setIfInBounds, Array.toList_setIfInBounds, List.take_set]
        have e : (Q ++ [y']).length * 1 = (Q ++ [y]).length * 1 := by simp
        rw [e, ht]
  · by_cases hi : i = Q.length
    · subst hi
      rw [List.getElem?_set_self (by omega)] at hx
      rw [List.getElem?_append_right (Nat.le_refl _), Nat.sub_self] at hl
      cases hx
      cases hl
      exact hsame _ _ hu
    · rw [List.getElem?_set_ne (Ne.symm hi)] at hx
      have hil := (List.getElem?_eq_some_iff.1 hx).1
      rw [List.getElem?_append_left (by omega)] at hl
      exact hsame _ _ (h3 i x l hx (by rw [List.getElem?_append_left (by omega)]; exact hl))

/-- The last of a row. -/
theorem KOwn.last {w : World} {B b : Nat} {ao : Option Addr} {n cap : Nat} {Q : List Prog} {y : Prog} (h : KOwn w B b (.slice ao n cap) (Q ++ [y])) :
    ∃ g u, ao = some ⟨g, 0, none⟩ ∧ n = Q.length + 1 ∧ n ≤ cap ∧ B ≤ g ∧ w.cell? ⟨g, Q.length, none⟩ = some u ∧ NSl w b u y ∧ w.frozen? ⟨g, Q.length, none⟩ = false := by
  obtain ⟨us, h1, h2, h3⟩ := h
  have hul : us.length = Q.length + 1 := by rw [h1]; simp
  obtain ⟨g, cap', q1, q2, q3, q4, q5, q6⟩ := row_cell h2 (by simp)
  injection q1 with e1 e2 e3
  subst e1 e3
  have hu : us[Q.length]? = some us[Q.length] := List.getElem?_eq_getElem (by omega)
  obtain ⟨cur, fz, ht⟩ := ownsRow_tag h2 g rfl
  refine ⟨g, _, rfl, by simpa using e2, by rw [e2]; exact q2, q4, q6 _ _ hu, h3 _ _ _ hu (by simp), ?_⟩
  rcases h2.2 with ⟨hv, _⟩ | ⟨g', cap'', cur', hv, _, hh, _⟩
  · cases hv
  · injection hv with e1 _ _
    injection e1 with e1
    injection e1 with e1
    subst e1
    simp [World.frozen?, hh]

theorem joinStep_no (O : List Prog) (x : Prog) (h : isLit x = false) : joinStep O x = O ++ [x] := by
  unfold joinStep
  split
  · rename_i y z hy
    rw [if_neg (fun hh => by simp [isLit, hh.2] at h)]
  · rfl
theorem joinStep_last (Q : List Prog) (y x : Prog) (h : isLit y = false) : joinStep (Q ++ [y]) x = (Q ++ [y]) ++ [x] := by
  unfold joinStep
  split
  · rename_i u z hy
    rw [List.getLast?_concat] at hy
    cases hy
    rw [if_neg (fun hh => by simp [isLit, hh.1] at h)]
  · rfl
theorem joinStep_both (Q : List Prog) (u z : PNode) (hu : u.kind = 1) (hz : z.kind = 1) : joinStep (Q ++ [[u]]) [z] = Q ++ [newP 1 z.n (u.text ++ z.text) []] := by
  unfold joinStep
  rw [List.getLast?_concat]
  simp [hu, hz]
theorem isLit_one {x : Prog} (h : isLit x = true) : ∃ z, x = [z] ∧ z.kind = 1 := by
  match x, h with
  | [z], h => exact ⟨z, rfl, by simpa [isLit] using h⟩
theorem fold_take (L : List Prog) (k : Nat) (x : Prog) (h : L[k]? = some x) : (L.take (k + 1)).foldl joinStep [] = joinStep ((L.take k).foldl joinStep []) x := by
  obtain ⟨hk, e⟩ := List.getElem?_eq_some_iff.1 h
  rw [List.take_succ_eq_append_getElem hk, e, List.foldl_append]
  rfl
theorem take_tx (L : List Prog) (k : Nat) : txP (L.take k).flatten ≤ txP L.flatten := by
  have h : L.flatten = (L.take k).flatten ++ (L.drop k).flatten := by rw [← List.flatten_append, List.take_append_drop]
  rw [h, txP_append]
  omega

theorem joinP_one {L : List Prog} {y : Prog} (h : L.foldl joinStep [] = [y]) : joinP L = y := by
  unfold joinP
  rw [h]
theorem joinP_many {L O : List Prog} (h : L.foldl joinStep [] = O) (h1 : O.length ≠ 1) : joinP L = newP 4 0 [] O := by
  unfold joinP
  rw [h]
  match O, h1 with
  | [], _ => rfl
  | [x], h1 => exact absurd rfl h1
  | x :: y :: l, _ => rfl

set_option maxHeartbeats 4000000 in
set_option maxRecDepth 100000 in
theorem pJoin_any (L : List Prog) (b : Nat) (v : Value) (w : World) (hbl : b < w.heap.size) (hpos : 0 < L.length) (hn : L.length ≤ 10000) (hsz : L.flatten.length ≤ 100000) (htx : txP L.flatten ≤ 300000000) (h : KSl w b v L) (hne : Hid (∀ l ∈ L, 0 < l.length)) :
    Calls Tryz.prog 263 #[v] w fun e w' => ∃ v', e = .returned v' ∧ NSl w' b v' (joinP L) ∧ Below w.heap.size w w' := by
  obtain ⟨k0, hk0, hk1, hk2, hk3⟩ := info_parts infoNodes
  obtain ⟨ao, cap, rfl, hc1, hc2, hc3⟩ := h
  obtain ⟨g, rfl, hg1, hg2, hg3⟩ := hc3 hpos
  obtain ⟨n, hN⟩ : ∃ n, L.length = n := ⟨_, rfl⟩
  have HN := Lib.hid hN
  rw [hN] at hc1 hn hpos ⊢
  clear hN hc3
  go_enter Tryz.func263, Tryz.ntmps263
  go_wp2_with fail
  go_loopg [3, 5, 6, 9] n (fun m o xx la c wr => ∃ k : Nat, m = n - k ∧ k ≤ n ∧ c = .int .i64 k ∧ KOwn wr w.heap.size b o ((L.take k).foldl joinStep []) ∧ Below w.heap.size w wr)
  case atStart => exact ⟨0, rfl, Nat.zero_le _, rfl, KOwn.nil _ _ _, Below.refl _ _⟩
  case round =>
    obtain ⟨k, rfl, hk, rfl, hO, hb⟩ := hrel
    obtain ⟨O, hOO⟩ : ∃ O, (L.take k).foldl joinStep [] = O := ⟨_, rfl⟩
    have hfold := join_fold (L.take k) []
    have htk := take_tx L k
    rw [hOO] at hO hfold
    simp only [List.flatten_nil, List.length_nil, txP_nil, Nat.zero_add, List.length_take] at hfold
    have hOl : O.length ≤ k := by omega
    by_cases hlt : k < n
    · obtain ⟨x, hx⟩ : ∃ x, L[k]? = some x := ⟨_, List.getElem?_eq_getElem (by have := HN.out; omega)⟩
      have HS := Lib.hid (show (L.take (k + 1)).foldl joinStep [] = joinStep O x by rw [fold_take L k x hx, hOO])
      obtain ⟨u, hu, hul⟩ := hg3 k x hx
      have hxp := hne.out x (List.mem_of_getElem? hx)
      have hu := bSome hb hu
      have hx0 : NSl wr b u x := by
        rcases hul.below hb with h | ⟨_, rfl⟩
        · exact h
        · simp at hxp
      obtain ⟨oa, oc, rfl⟩ := hO.form
      have hx := hx0
      obtain ⟨gx, cx, rfl, -⟩ := hx0
      clear hul hOO
      have hw1 : IntKind.i64.wrap ((O.length : Int) - 1) = (O.length : Int) - 1 := by rw [IntKind.wrap_i64]; omega
      cases hlx : isLit x with
      | false =>
        have HJ := Lib.hid (joinStep_no O x hlx)
        go_wp2_with fail
        refine (pLit_any x b _ wr hx).mono ?_
        rintro e w2 ⟨rfl, hw2⟩
        have hw2 := hw2.symm
        subst hw2
        rw [hlx]
        clear hlx
        obtain ⟨us, u1, u2, u3⟩ := hO
        have hOA : ∀ o, (wr.alloc o).ownsRow w.heap.size 23 1 _ O.length us := fun o => by first | exact ownsRow_kept u2 (Kept.ofBelow (S := Nowhere) ((Below.refl _ wr).alloc (Nat.le_refl _) o)) (fun _ _ _ e => e) | (rw [← HM.out]; exact ownsRow_kept u2 (Kept.ofBelow (S := Nowhere) ((Below.refl _ wr).alloc (Nat.le_refl _) o)) (fun _ _ _ e => e))
        have HN := Lib.hid hx
        have hsz5 := hb.size
        go_wp2_with (at_builtin; refine wpList_append_own _ rfl _ _ 39 rfl w.heap.size 23 k0 _ 1 24 Tryz.underlying39 hk0 hk1 hk2 hk3 rfl (by decide) _ _ _ rfl (hOA _) ⟨wr.heap.size, 0, none⟩ 1 1 [.slice (some ⟨gx, 0, none⟩) x.length cx] rfl rfl (cells_new (by simp)) (by intro u hu; simp at hu; subst hu; rfl) (by unfold maxLen; omega) (by omega) (by simp; omega) ?_; intro v6 w6 hown' hgrow _)
        obtain ⟨hO6, hb6⟩ := KOwn.grown hsz5 u1 u2 u3 HN.out (by first | exact hown' | (rw [HM.out]; exact hown')) hgrow
        have hb7 := hb.trans hb6
        have hO7 : KOwn w6 w.heap.size b v6 ((L.take (k + 1)).foldl joinStep []) := by rw [HS.out, HJ.out]; exact hO6
        go_wp2_with fail
        go_roundg (n - (k + 1))
        case measure => omega
        case rel => exact ⟨k + 1, rfl, by omega, by go_num, hO7, hb7⟩
      | true =>
        obtain ⟨z, rfl, hz⟩ := isLit_one hlx
        rcases List.eq_nil_or_concat O with rfl | ⟨Q, y, rfl⟩
        · have HJ := Lib.hid (show joinStep [] [z] = [] ++ [[z]] from rfl)
          simp only [List.length_nil] at hO hw1 ⊢
          have hw0 : decide ((0 : Int) ≤ ((0 : Nat) : Int) - 1) = false := by decide
          go_wp2_with fail
          refine (pLit_any [z] b _ wr hx).mono ?_
          rintro e w2 ⟨rfl, hw2⟩
          have hw2 := hw2.symm
          subst hw2
          rw [hlx]
          clear hlx
          obtain ⟨us, u1, u2, u3⟩ := hO
          have hOA : ∀ o, (wr.alloc o).ownsRow w.heap.size 23 1 _ 0 us := fun o => by first | exact ownsRow_kept u2 (Kept.ofBelow (S := Nowhere) ((Below.refl _ wr).alloc (Nat.le_refl _) o)) (fun _ _ _ e => e) | (rw [← HM.out]; exact ownsRow_kept u2 (Kept.ofBelow (S := Nowhere) ((Below.refl _ wr).alloc (Nat.le_refl _) o)) (fun _ _ _ e => e))
          have HN := Lib.hid hx
          have hsz5 := hb.size
          go_wp2_with (at_builtin; refine wpList_append_own _ rfl _ _ 39 rfl w.heap.size 23 k0 _ 1 24 Tryz.underlying39 hk0 hk1 hk2 hk3 rfl (by decide) _ _ _ rfl (hOA _) ⟨wr.heap.size, 0, none⟩ 1 1 [.slice (some ⟨gx, 0, none⟩) 1 cx] rfl rfl (cells_new (by simp)) (by intro u hu; simp at hu; subst hu; rfl) (by unfold maxLen; omega) (by omega) (by simp; omega) ?_; intro v6 w6 hown' hgrow _)
          obtain ⟨hO6, hb6⟩ := KOwn.grown hsz5 u1 u2 u3 HN.out (by first | exact hown' | (rw [HM.out]; exact hown')) hgrow
          have hb7 := hb.trans hb6
          have hO7 : KOwn w6 w.heap.size b v6 ((L.take (k + 1)).foldl joinStep []) := by rw [HS.out, HJ.out]; exact hO6
          go_wp2_with fail
          go_roundg (n - (k + 1))
          case measure => omega
          case rel => exact ⟨k + 1, rfl, by omega, by go_num, hO7, hb7⟩
        · rw [List.concat_eq_append] at *
          obtain ⟨og, uy, rfl, hol, hoc, hog, huy, hy, hfr⟩ := hO.last
          obtain ⟨n2, hn2⟩ : ∃ n2, Q.length = n2 := ⟨_, rfl⟩
          obtain ⟨m1, hm1⟩ : ∃ m1, (Q ++ [y]).length = m1 := ⟨_, rfl⟩
          have HM := Lib.hid hm1
          have HN2 := Lib.hid hn2
          rw [hm1] at hO hw1 hol hoc hOl ⊢
          rw [hn2] at hol huy hfr
          have hw2 : IntKind.i64.wrap ((m1 : Int) - 1) = (n2 : Int) := by rw [hw1]; omega
          have hlt2 : (n2 : Int) < (m1 : Int) := by omega
          have hge2 : (0 : Int) ≤ (n2 : Int) := by omega
          clear hm1 hn2 hw1
          subst hol
          obtain ⟨gy, cy, rfl, -⟩ := id hy
          go_wp2_with fail
          refine (pLit_any [z] b _ wr hx).mono ?_
          rintro e w2 ⟨rfl, hw3⟩
          have hw3 := hw3.symm
          subst hw3
          rw [hlx]
          clear hlx
          go_wp2_with fail
          refine (pLit_any y b _ wr hy).mono ?_
          rintro e w2 ⟨rfl, hw3⟩
          have hw3 := hw3.symm
          subst hw3
          cases hly : isLit y with
          | false =>
            have HJ := Lib.hid (joinStep_last Q y [z] hly)
            clear hly
            obtain ⟨us, u1, u2, u3⟩ := hO
            have hOA : ∀ o, (wr.alloc o).ownsRow w.heap.size 23 1 _ (n2 + 1) us := fun o => by first | exact ownsRow_kept u2 (Kept.ofBelow (S := Nowhere) ((Below.refl _ wr).alloc (Nat.le_refl _) o)) (fun _ _ _ e => e) | (rw [← HM.out]; exact ownsRow_kept u2 (Kept.ofBelow (S := Nowhere) ((Below.refl _ wr).alloc (Nat.le_refl _) o)) (fun _ _ _ e => e))
            have HN := Lib.hid hx
            have hsz5 := hb.size
            go_wp2_with (at_builtin; refine wpList_append_own _ rfl _ _ 39 rfl w.heap.size 23 k0 _ 1 24 Tryz.underlying39 hk0 hk1 hk2 hk3 rfl (by decide) _ _ _ rfl (hOA _) ⟨wr.heap.size, 0, none⟩ 1 1 [.slice (some ⟨gx, 0, none⟩) 1 cx] rfl rfl (cells_new (by simp)) (by intro u hu; simp at hu; subst hu; rfl) (by unfold maxLen; omega) (by omega) (by simp; omega) ?_; intro v6 w6 hown' hgrow _)
            obtain ⟨hO6, hb6⟩ := KOwn.grown hsz5 u1 u2 u3 HN.out (by first | exact hown' | (rw [HM.out]; exact hown')) hgrow
            have hb7 := hb.trans hb6
            have hO7 : KOwn w6 w.heap.size b v6 ((L.take (k + 1)).foldl joinStep []) := by rw [HS.out, HJ.out]; exact hO6
            go_wp2_with fail
            go_roundg (n - (k + 1))
            case measure => omega
            case rel => exact ⟨k + 1, rfl, by omega, by go_num, hO7, hb7⟩
          | true =>
            obtain ⟨yn, rfl, hyn⟩ := isLit_one hly
            have HJ := Lib.hid (joinStep_both Q yn z hyn hz)
            clear hly
            obtain ⟨gx', cx', ex, -, -, -, hgx, hxr⟩ := id hx
            cases ex
            obtain ⟨gy', cy', ey, -, -, -, hgy, hyr⟩ := id hy
            cases ey
            have x1 := hxr 1 (.int .i64 z.n) rfl
            have x4 := hxr 4 (.string (bs z.text)) rfl
            have y4 := hyr 4 (.string (bs yn.text)) rfl
            have htt : yn.text.length + z.text.length ≤ 600000000 := by
              have h1 := (join_fold (L.take (k + 1)) []).2.1
              have h2 := take_tx L (k + 1)
              rw [HS.out, HJ.out, List.flatten_append, txP_append, List.flatten_nil, txP_nil, List.flatten_cons, List.flatten_nil, List.append_nil, txP_newP, List.length_append] at h1
              omega
            have hcat : bs yn.text ++ bs z.text = bs (yn.text ++ z.text) := bs_app _ _
            have hz1 : (bs yn.text).size ≤ 600000000 := by rw [bs_size]; omega
            have hz2 : (bs z.text).size ≤ 600000000 := by rw [bs_size]; omega
            have hz3 : ¬ ((bs yn.text).size + (bs z.text).size > 9223372036854775807) := by omega
            have HN := Lib.hid (show ∀ w9 : World, b < w9.heap.size → Calls Tryz.prog 25 #[.int .i64 1, .int .i64 z.n, .string (bs yn.text ++ bs z.text), .slice none 0 0] w9 fun e w' => ∃ v', e = .returned v' ∧ NSl w' b v' (newP 1 z.n (yn.text ++ z.text) []) ∧ Below w9.heap.size w9 w' from fun w9 h9 => by
              rw [hcat]
              exact cNewS_any 1 z.n (yn.text ++ z.text) [] b _ w9 h9 (KSl.nil _ _) (by simp) (by simp))
            clear hcat hxr hyr hgx hgy
            have hbr : b < wr.heap.size := Nat.lt_of_lt_of_le hbl hb.size
            have hogl : og < wr.heap.size := by
              by_cases h : og < wr.heap.size
              · exact h
              · rw [show wr.cell? ⟨og, n2, none⟩ = none from by simp [World.cell?, h]] at huy
                cases huy
            have i1 : (n2 : Int) < (n2 : Int) + 1 := by omega
            have i2 : decide ((n2 : Int) < (n2 : Int) + 1) = true := by rw [decide_eq_true_eq]; omega
            have i3 : n2 < n2 + 1 := by omega
            have i4 : decide (n2 < n2 + 1) = true := by rw [decide_eq_true_eq]; omega
            go_upto_region 7 with fail
            go_region_with (go_at_call 25; (with_reducible refine (HN.out _ (by first | exact hbr | (simp; exact hbr))).mono ?_); rintro e w9 ⟨v9, rfl, hN9, hb9⟩; obtain ⟨g9, c9, rfl, -⟩ := id hN9; have x1' := bSome hb9 x1; have x4' := bSome hb9 x4; have y4' := bSome hb9 y4; have huy' := bSome hb9 huy; have hfr' := (World.frozen?_of_block (hb9.block og hogl)).trans hfr; have hbq : Below wr.heap.size wr w9 := (by first | exact hb9 | exact ((Below.refl _ wr).drew).trans hb9))
            all_goals (have hO8 := KOwn.setLast (hO.below hbl hbq) hN9)
            all_goals (rw [HN2.out] at hO8)
            all_goals (have hb8 := (hb.trans (hbq.mono hb.size)).setCell (p := ⟨og, n2, none⟩) hog (.slice (some ⟨g9, 0, none⟩) (newP 1 z.n (yn.text ++ z.text) []).length c9))
            all_goals (have hO7 : KOwn (w9.setCell ⟨og, n2, none⟩ (.slice (some ⟨g9, 0, none⟩) (newP 1 z.n (yn.text ++ z.text) []).length c9)) w.heap.size b (.slice (some ⟨og, 0, none⟩) (n2 + 1) oc) ((L.take (k + 1)).foldl joinStep []) := by rw [HS.out, HJ.out]; exact hO8)
            all_goals (clear hO hO8 hN9 hb9 hbq HN x1 x4 y4 x1' x4' y4' huy huy' hfr hfr' hx hy)
            all_goals (go_wp2_with fail)
            all_goals (go_roundg (n - (k + 1)))
            all_goals (first | omega | exact ⟨k + 1, rfl, by omega, by go_num, hO7, hb8⟩)
    · obtain rfl : k = n := by omega
      have hT : L.take k = L := List.take_of_length_le (by have := HN.out; omega)
      rw [hT] at hOO hfold
      by_cases h1 : O.length = 1
      · obtain ⟨y, rfl⟩ : ∃ y, O = [y] := List.length_eq_one_iff.1 h1
        have HJ := Lib.hid (joinP_one hOO)
        obtain ⟨oa, oc, rfl⟩ := hO.form
        have hO' : KOwn wr w.heap.size b (.slice oa 1 oc) ([] ++ [y]) := hO
        obtain ⟨og, uy, rfl, -, hoc, hog, huy, hy, -⟩ := hO'.last
        simp only [List.length_cons, List.length_nil, Nat.zero_add] at huy hoc ⊢
        obtain ⟨gy, cy, rfl, -⟩ := id hy
        clear hO hO'
        go_wp2_with fail
        go_ret
        exact ⟨_, rfl, by rw [HJ.out]; exact hy, hb⟩
      · have HJ := Lib.hid (joinP_many hOO h1)
        have k1 : ((O.length : Int) == 1) = false := by rw [beq_eq_false_iff_ne]; omega
        have HC := Lib.hid (cNewS_any 4 0 [] O b _ wr (Nat.lt_of_lt_of_le hbl hb.size) (hO.ksl hbl) (by omega) (by omega))
        obtain ⟨oa, oc, rfl⟩ := hO.form
        generalize O.length = ol at *
        go_wp2_with fail
        refine HC.out.mono ?_
        rintro e w3 ⟨v3, rfl, hN3, hb3⟩
        obtain ⟨g3, c3, rfl, -⟩ := id hN3
        go_wp2_with fail
        go_ret
        exact ⟨_, rfl, by rw [HJ.out]; exact hN3, bNext hb hb3⟩

end Go.Proofs.YtepebnblbheegaaGreatDoor
