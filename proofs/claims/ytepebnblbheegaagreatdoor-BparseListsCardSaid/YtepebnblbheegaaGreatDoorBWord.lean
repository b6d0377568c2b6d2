/- Dialect B's parser: a word. -/
import Derived.Test.YtepebnblbheegaaGreatDoorBJoin
import Derived.Test.YtepebnblbheegaaGreatDoorBTurnG
namespace Go.Proofs.YtepebnblbheegaaGreatDoor
open Go Go.RowKit

theorem one_facts {ts : List BTok} {cap : Nat} (T : PTs cap ts) {f d i : Nat} {l : Prog} {e : Nat} (hi : i < ts.length) (hit : itemP ts i = true) (h : pOne ts f d i = some (.ok (l, e))) : i < e ∧ e < ts.length ∧ l.length + 3 ≤ 6 * (e - i) ∧ txP l + 16384 ≤ 30000 * (e - i) ∧ 0 < l.length := by
  have h1 := ((postAll T.fix.good f).one d i hi hit).1 l e h
  obtain ⟨⟨M, D, hD⟩, _⟩ := (wAll T.w f).one d i hit l e h
  have := hD.pos.1
  omega
theorem alive_pos (t : BTok) (x : Prog) : 0 < (aliveP t x).length := by
  unfold aliveP
  split
  · exact newP_pos _ _ _ _
  split
  · exact newP_pos _ _ _ _
  · exact newP_pos _ _ _ _
/-- A node's cells. -/
theorem NRow.facts {w : World} {g : Nat} {l : Prog} (h : NRow w g l) {k : Nat} {x : PNode} (hx : l[k]? = some x) :
    w.cell? ⟨g, k * 5, none⟩ = some (.int .i64 x.kind) ∧ w.cell? ⟨g, k * 5 + 1, none⟩ = some (.int .i64 x.n) ∧ w.cell? ⟨g, k * 5 + 2, none⟩ = some (.int .i64 x.k) ∧ w.cell? ⟨g, k * 5 + 3, none⟩ = some (.int .i64 x.size) ∧ w.cell? ⟨g, k * 5 + 4, none⟩ = some (.string (bs x.text)) := by
  have hf : ∀ j u, x.cells[j]? = some u → w.cell? ⟨g, k * 5 + j, none⟩ = some u := fun j u hu => by
    have := h _ _ (flat_get PNode.cells 5 node_cells l k j x u hx hu)
    rwa [Nat.mul_comm] at this
  exact ⟨hf 0 _ rfl, hf 1 _ rfl, hf 2 _ rfl, hf 3 _ rfl, hf 4 _ rfl⟩
theorem tooLong_take {l : Prog} {k : Nat} {x : PNode} (hx : l[k]? = some x) (h : tooLong (l.take k) = false) : tooLong (l.take (k + 1)) = (decide (x.kind = 1) && decide (2000 < x.text.length)) := by
  obtain ⟨hk, e⟩ := List.getElem?_eq_some_iff.1 hx
  unfold tooLong at *
  rw [List.take_succ_eq_append_getElem hk, e, List.any_append, h]
  simp
theorem tooLong_some {l : Prog} {k : Nat} (h : tooLong (l.take k) = true) : tooLong l = true := by
  unfold tooLong at *
  rw [List.any_eq_true] at *
  obtain ⟨x, hx, h2⟩ := h
  exact ⟨x, List.mem_of_mem_take hx, h2⟩

theorem wordOut_glob {t : BTok} {M : List Prog} (h1 : M.length = 1) (h2 : t.kind = 18) (h3 : liveP t.text = true) : wordOut t 0 M = newP 6 0 [] [newP 1 1 (closedP t.text) []] := by
  unfold wordOut
  rw [if_pos ⟨rfl, h1, h2, h3⟩]
theorem wordOut_live (t : BTok) (M : List Prog) : wordOut t 1 M = joinP M := by
  unfold wordOut
  rw [if_neg (fun h => by simp at h)]
theorem wordOut_join {t : BTok} {M : List Prog} (h : ¬ (M.length = 1 ∧ t.kind = 18 ∧ liveP t.text = true)) : wordOut t 0 M = joinP M := by
  unfold wordOut
  rw [if_neg (fun x => h x.2)]

set_option maxHeartbeats 16000000 in
set_option maxRecDepth 100000 in
theorem pWord_walk0 {b g cap : Nat} {ts : List BTok} {sent : Nat → Addr} (T : PTs cap ts) (f : Nat) (ih : ∀ f' < f, DoesO b g cap ts sent f') (w : World) (i d : Nat) (r : Except (Nat × Nat) (Prog × Nat)) (hd : d ≤ 31) (hi : i < ts.length) (hS : PSt w b g cap ts i d) (hE : EnvB w b sent) (hr : Hid (pWord ts f d i 0 = some r)) :
    Calls Tryz.prog 240 #[.pointer (some ⟨b, 0, none⟩), .int .i64 0] w (POut w b g cap ts d (60000 * (32 - d)) sent r) := by
  have hbl := hS.blt
  have hgl := hS.glt
  have F := T.fix
  have hcap := F.num
  obtain ⟨k0, hk0, hk1, hk2, hk3⟩ := info_parts infoNodes
  have hf4 := tok_f4
  obtain ⟨f, rfl⟩ : ∃ q, f = q + 1 := by
    cases f with
    | zero => have := hr.out; rw [pWord] at this; cases this
    | succ q => exact ⟨q, rfl⟩
  have IH := Lib.hid ih
  clear ih
  have HR := Lib.hid hr.out
  rw [pWord] at HR
  clear hr
  obtain ⟨tk, htk⟩ : ∃ tk, tkAt ts i = tk := ⟨_, rfl⟩
  have htx := F.good.text i
  rw [htk] at HR htx
  cases hq : pWordR ts f d i 0 [] with
  | none =>
    rw [hq] at HR
    exact (go_none HR.out).elim
  | some rr =>
    rw [hq] at HR
    have HQ := Lib.hid hq
    clear hq
    go_enter Tryz.func240, Tryz.ntmps240
    go_wp2_with fail
    refine (pNow_any F hS hi).mono ?_
    rintro e w1 ⟨rfl, hb1⟩
    rw [htk]
    unfold BTok.cells
    have hB2 := Blk.new w1 [Value.int .i64 tk.kind, .int .i64 tk.place, .int .i64 tk.num, .string (bs tk.text), .bool tk.glue] 107
    have hb2 := bNext hb1 ((Below.refl _ w1).alloc (Nat.le_refl _) (.cells #[Value.int .i64 tk.kind, .int .i64 tk.place, .int .i64 tk.num, .string (bs tk.text), .bool tk.glue] 107))
    have hS2 := hS.below hb2
    have hK2 := (Kept.refl (At b) w).andBelow hb2
    have hE2 := hE.kept hK2
    have hsz1 := hb1.size
    clear hS hb1 hb2 htk hE
    go_upto_region 2 with fail
    refine wp_world (fun w9 => Blk w9 w1.heap.size [Value.int .i64 tk.kind, .int .i64 tk.place, .int .i64 tk.num, .string (bs tk.text), .bool tk.glue] ∧ PSt w9 b g cap ts i d ∧ Kept (At b) w w9 ∧ EnvB w9 b sent) ⟨hB2, hS2, hK2, hE2⟩ ?_
    clear hB2 hS2 hK2 hE2
    intro wz ⟨hB2, hS2, hK0, hE⟩
    have htb := hB2.lt
    obtain ⟨tb, htbb⟩ : ∃ tb, w1.heap.size = tb := ⟨_, rfl⟩
    rw [htbb] at htb hsz1 hB2 ⊢
    have hsz0 := hK0.size
    have hbz : b < wz.heap.size := by omega
    have hgz := hS2.glt
    clear htbb hgl
    go_wp2_with fail
    go_loopg [7, 8, 9, 10] (ts.length - i) (fun m v t x er wr => ∃ (k fk : Nat) (L : List Prog), m = ts.length - k ∧ k < ts.length ∧ fk ≤ f ∧ L.length ≤ k ∧ L.flatten.length ≤ 6 * k ∧ txP L.flatten ≤ 30000 * k ∧ Hid (∀ l ∈ L, 0 < l.length) ∧ Kept (At b) wz wr ∧ PSt wr b g cap ts k d ∧ KOwn wr wz.heap.size b v L ∧ Blk wr tb [Value.int .i64 tk.kind, .int .i64 tk.place, .int .i64 tk.num, .string (bs tk.text), .bool tk.glue] ∧ Hid (pWordR ts fk d k 0 L = some rr))
    case atStart => exact ⟨i, f, [], rfl, hi, Nat.le_refl _, by simp, by simp, by simp [txP_nil], Lib.hid (fun _ h => nomatch h), Kept.refl _ _, hS2, KOwn.nil _ _ _, hB2, HQ⟩
    case round =>
      clear hS2 HQ hi hB2
      obtain ⟨k, fk, L, rfl, hk, hfk, hL1, hL2, hL3, hL4, hK, hS, hO, hB, hr⟩ := hrel
      obtain ⟨fk, rfl⟩ : ∃ q, fk = q + 1 := by
        cases fk with
        | zero => have := hr.out; rw [pWordR] at this; cases this
        | succ q => exact ⟨q, rfl⟩
      obtain ⟨ao, acap, rfl⟩ := hO.form
      have HP := Lib.hid hr.out
      rw [pWordR] at HP
      clear hr
      go_wp2_with fail
      refine (pItem_any F hS hk).mono ?_
      rintro e w2 ⟨rfl, hb2⟩
      have hS2 := hS.below hb2
      have hO2 := hO.below hbz hb2
      have hB2 := hB.below hb2
      have hK2 := hK.andBelow hb2
      have hE2 := hE.kept hK2
      have hsz2 := hK2.size
      clear hS hO hK hb2 hB
      by_cases x0 : itemP ts k = true
      · rw [if_neg (by rw [x0]; simp)] at HP
        rw [x0]
        go_wp2_with fail
        refine (pNow_any F hS2 hk).mono ?_
        rintro e w3 ⟨rfl, hb3⟩
        unfold BTok.cells
        have hT4 := Blk.new w3 [Value.int .i64 (tkAt ts k).kind, .int .i64 (tkAt ts k).place, .int .i64 (tkAt ts k).num, .string (bs (tkAt ts k).text), .bool (tkAt ts k).glue] 107
        have hb4 := bNext hb3 ((Below.refl _ w3).alloc (Nat.le_refl _) (.cells #[Value.int .i64 (tkAt ts k).kind, .int .i64 (tkAt ts k).place, .int .i64 (tkAt ts k).num, .string (bs (tkAt ts k).text), .bool (tkAt ts k).glue] 107))
        have hS4 := hS2.below hb4
        have hO4 := hO2.below hbz hb4
        have hB4 := hB2.below hb4
        have hK4 := hK2.andBelow hb4
        have hE4 := hE.kept hK4
        have hsz4 := hK4.size
        have hbt : b < w3.heap.size := Nat.lt_of_lt_of_le (by omega) hb3.size
        clear hS2 hO2 hB2 hK2 hE2 hb3 hb4
        cases hq : pOne ts fk d k with
        | none =>
          rw [hq] at HP
          exact (go_none HP.out).elim
        | some rc =>
          rw [hq] at HP
          have HD := Lib.hid (IH.out fk (by omega) _ k d rc hd hk x0 hS4 hE4 (Lib.hid hq))
          clear hS4 hE4
          go_wp2_with fail
          refine HD.out.mono ?_
          cases rc with
          | error e0 =>
            obtain ⟨c0, p0⟩ := e0
            have HX := Lib.hid (some_err HP.out)
            have HX2 := Lib.hid (show r = .error (c0, p0) from by
              have := HR.out
              rw [HX.out] at this
              exact some_err this)
            clear HP hq HD HR HX
            rintro e w5 ⟨hK5, v, u, j', l0, rfl, h0, -, ⟨eb, rfl, q2, q3⟩, hS5⟩
            obtain ⟨va, vc, rfl⟩ := h0.form
            go_wp2_with fail
            go_ret2
            exact (POut.bad HX2.out rfl (.none _ _) (Nat.zero_le _) ⟨eb, rfl, q2, by omega⟩ hS5 (hK4.same hK5)).after hK0
          | ok q =>
            obtain ⟨x, e2⟩ := q
            obtain ⟨z1, z2, z3, z4, z5⟩ := one_facts T hk x0 hq
            rintro e w5 ⟨hK5, v5, rfl, hN, hS5⟩
            have hK6 := hK4.same hK5
            have hB5 := hB4.kept hK5 (fun e => by unfold At at e; omega)
            have hT5 := hT4.kept hK5 (fun e => by unfold At at e; omega)
            have hO5 := hO4.kept hbz hK5
            have hsz5 := hK6.size
            clear hO4 hK4 hK5 hB4 hT4 HD x0
            have HP2 := Lib.hid (show (if isK ts e2 [15] = true then pWordR ts fk d (skP ts e2) 0 (L ++ [x]) else if itemP ts e2 = false ∨ (tkAt ts e2).glue = false then pOk (L ++ [x]) e2 else pWordR ts fk d e2 0 (L ++ [x])) = some rr from HP.out)
            have hM1 : (L ++ [x]).length ≤ e2 := by rw [List.length_append, List.length_cons, List.length_nil]; omega
            have hM2 : (L ++ [x]).flatten.length ≤ 6 * e2 := by rw [flat_snoc, List.length_append]; omega
            have hM3 : txP (L ++ [x]).flatten ≤ 30000 * e2 := by rw [flat_snoc, txP_append]; omega
            have hM4 := Lib.hid (snoc_all hL4.out z5)
            have hNx := hN
            have hKx := hK6
            have hsx := hsz5
            obtain ⟨gc, cc, rfl, -⟩ := id hNx
            clear HP hq hN hK6 hsz5 hT5
            have hBx := hB5
            clear hB5
            obtain ⟨us, u1, u2, u3⟩ := hO5
            have hOA : ∀ o, (w5.alloc o).ownsRow wz.heap.size 23 1 _ L.length us := fun o => ownsRow_kept u2 (Kept.ofBelow (S := Nowhere) ((Below.refl _ w5).alloc (Nat.le_refl _) o)) (fun _ _ _ e => e)
            go_wp2_with (at_builtin; refine wpList_append_own _ rfl _ _ 39 rfl wz.heap.size 23 k0 _ 1 24 Tryz.underlying39 hk0 hk1 hk2 hk3 rfl (by decide) _ _ _ rfl (hOA _) ⟨w5.heap.size, 0, none⟩ 1 1 [.slice (some ⟨gc, 0, none⟩) x.length cc] rfl rfl (cells_new (by simp)) (by intro u hu; simp at hu; subst hu; rfl) (by unfold maxLen; omega) (by omega) (by simp; omega) ?_; intro v6 w6 hown' hgrow _)
            obtain ⟨hO6, hb6⟩ := KOwn.grown hsx u1 u2 u3 hNx hown' hgrow
            have hS6 := hS5.belowB hb6 hbz hgz
            have hK6 := hKx.belowB hb6 (Nat.le_refl _)
            have hB6 := hBx.of_heap (hb6.block tb htb)
            have hsz6 := hK6.size
            obtain ⟨M, hM⟩ : ∃ M, L ++ [x] = M := ⟨_, rfl⟩
            rw [hM] at HP2 hM1 hM2 hM3 hM4 hO6
            have hM0 : 0 < M.length := by rw [← hM]; simp
            clear hM hS5 hKx hBx hb6 hown' hgrow hOA u1 u2 u3 hNx
            obtain ⟨mo, mcap, rfl⟩ := hO6.form
            go_wp2_with fail
            refine (pIs_any F (hS6.alloc _) z2 [15] _ _ (by decide) (show Blk _ _ [Value.int .i64 15] from Blk.new w6 _ _)).mono ?_
            rintro e w7 ⟨rfl, hb7⟩
            have hb8 := bNext ((Below.refl _ w6).alloc (Nat.le_refl _) _) hb7
            have hS7 := hS6.below hb8
            have hO7 := hO6.below hbz hb8
            have hB7 := hB6.below hb8
            have hK7 := hK6.andBelow hb8
            have hsz7 := hK7.size
            clear hS6 hO6 hB6 hK6 hb7 hb8
            by_cases x1 : isK ts e2 [15] = true
            · rw [if_pos x1] at HP2
              rw [x1]
              have hj := (skP_le (ts := ts) z2)
              obtain ⟨j, hjj⟩ : ∃ j, skP ts e2 = j := ⟨_, rfl⟩
              rw [hjj] at HP2 hj
              clear x1
              go_wp2_with fail
              refine (pSkip_any F hS7 z2).mono ?_
              rintro e w8 ⟨rfl, hS8, hK8⟩
              rw [hjj] at hS8
              have hO8 := hO7.kept hbz hK8
              have hB8 := hB7.kept hK8 (fun e => by unfold At at e; omega)
              have hK9 := hK7.same hK8
              go_wp2_with fail
              go_roundg (ts.length - j)
              case measure => omega
              case rel => exact ⟨j, fk, M, rfl, hj.2, by omega, by omega, by omega, by omega, hM4, hK9, hS8, hO8, hB8, HP2⟩
            · have x1 : isK ts e2 [15] = false := by simpa using x1
              rw [x1, if_neg (by simp)] at HP2
              rw [x1]
              go_wp2_with fail
              refine (pItem_any F hS7 z2).mono ?_
              rintro e w8 ⟨rfl, hb8⟩
              have hS8 := hS7.below hb8
              have hO8 := hO7.below hbz hb8
              have hB8 := hB7.below hb8
              have hK8 := hK7.andBelow hb8
              have hsz8 := hK8.size
              clear hS7 hO7 hB7 hK7 hb8 x1
              by_cases x2 : itemP ts e2 = true
              · rw [x2] at HP2 ⊢
                go_wp2_with fail
                refine (pNow_any F hS8 z2).mono ?_
                rintro e w9 ⟨rfl, hb9⟩
                unfold BTok.cells
                have hS9 := hS8.below hb9
                have hO9 := hO8.below hbz hb9
                have hB9 := hB8.below hb9
                have hK9 := hK8.andBelow hb9
                have hsz9 := hK9.size
                clear hS8 hO8 hB8 hK8 hb9 x2
                by_cases x3 : (tkAt ts e2).glue = true
                · rw [x3] at HP2 ⊢
                  rw [if_neg (by simp)] at HP2
                  go_wp2_with fail
                  go_roundg (ts.length - e2)
                  case measure => omega
                  case rel => exact ⟨e2, fk, M, rfl, z2, by omega, by omega, by omega, by omega, hM4, hK9, hS9, hO9, hB9, HP2⟩
                · have x3 : (tkAt ts e2).glue = false := by simpa using x3
                  rw [x3] at HP2 ⊢
                  rw [if_pos (.inr rfl)] at HP2
                  have HRR := Lib.hid (some_ok HP2.out)
                  have HX := Lib.hid (show (if tooLong (wordOut tk 0 M) = true then pErr 101 tk.place else pOk (wordOut tk 0 M) e2) = some r from by
                    have := HR.out
                    rw [HRR.out] at this
                    exact this)
                  have hlj := len_joinP M
                  clear HP2 HR HRR
                  go_wp2_with fail
                  refine (pJoin_any M b _ w9 (by omega) hM0 (by omega) (by omega) (by omega) (hO9.ksl hbz) hM4).mono ?_
                  rintro e wj ⟨vj, rfl, hNj, hbj⟩
                  have hSj := hS9.below hbj
                  have hBj := hB9.below hbj
                  have hKj := hK9.andBelow hbj
                  have hEj := hE.kept hKj
                  have hszj := hKj.size
                  clear hS9 hO9 hB9 hK9 hbj
                  by_cases p1 : M.length = 1
                  · rw [p1]
                    have p1' : ((1 : Nat) : Int) = 1 := rfl
                    by_cases p2 : tk.kind = 18
                    · have hc0 := hBj.cell 0 rfl
                      have hc3 := hBj.cell 3 rfl
                      rw [show ((tk.kind : Nat) : Int) = 18 by rw [p2]; rfl] at hc0
                      obtain ⟨jg, jc, rfl, -⟩ := id hNj
                      go_wp2_with fail
                      refine (ptLive_any tk.text _ (by omega)).mono ?_
                      rintro e wl ⟨rfl, hbl2⟩
                      have hSl := hSj.below hbl2
                      have hBl := hBj.below hbl2
                      have hKl := hKj.andBelow hbl2
                      have hEl := hE.kept hKl
                      have hNl := hNj.below hbl2
                      have hszl := hKl.size
                      have hc3l := hBl.cell 3 rfl
                      clear hSj hBj hKj hEj hNj hbl2 hc0 hc3
                      by_cases p3 : liveP tk.text = true
                      · rw [wordOut_glob p1 p2 p3] at HX
                        rw [p3]
                        clear p1 p2 p3 hNl
                        have hcl := closedP_len tk.text
                        go_wp2_with fail
                        refine (pClosed_any tk.text _ (by omega)).mono ?_
                        rintro e wm ⟨rfl, hbm⟩
                        have hszm := hbm.size
                        go_wp2_with fail
                        refine (cNewS_any 1 1 (closedP tk.text) [] b _ wm (by omega) (KSl.nil _ _) (by simp) (by simp)).mono ?_
                        rintro e wn ⟨vn, rfl, hNn, hbn⟩
                        have hbo := bNext hbm hbn
                        have hszn := hbo.size
                        obtain ⟨ng, nc, rfl, -⟩ := id hNn
                        have HN := Lib.hid (cNewS_any 6 0 [] [newP 1 1 (closedP tk.text) []] b _ _ (by simp; omega) (KSl.new1 (w := wn) (by omega) (.inl hNn)) (by simp [newP]) (by simp))
                        go_wp2_with fail
                        refine HN.out.mono ?_
                        rintro e wk ⟨vk, rfl, hNk, hbk⟩
                        have hbq := hbo.trans ((bNextW hbk).mono hszn)
                        have hSj := hSl.below hbq
                        have hBj := hBl.below hbq
                        have hKj := hKl.andBelow hbq
                        have hEj := hE.kept hKj
                        have hszj := hKj.size
                        have hlk : (newP 6 0 [] [newP 1 1 (closedP tk.text) []]).length ≤ M.flatten.length + 100 := by simp [newP]
                        obtain ⟨O, hOj⟩ : ∃ O, newP 6 0 [] [newP 1 1 (closedP tk.text) []] = O := ⟨_, rfl⟩
                        rw [hOj] at HX hNk hlk
                        have hNj := hNk
                        have hlj := hlk
                        clear hlk hOj HN hSl hBl hKl hEl hNk hNn hbq hbk hbm hbn hbo hc3l
                        obtain ⟨og, oc, eo, o1, o2, o3, o4, o5⟩ := id hNj
                        cases eo
                        obtain ⟨n, hn⟩ : ∃ n, O.length = n := ⟨_, rfl⟩
                        have HNl := Lib.hid hn
                        have hNo := Lib.hid hNj
                        have hRo := Lib.hid o5
                        rw [hn] at o1 hlj ⊢
                        clear hn hNj o5
                        have hseH := Lib.hid hEj
                        have hBjH := Lib.hid hBj
                        have hnn : n ≤ 100000 := by omega
                        go_wp2_with fail
                        go_loopg [13, 93] n (fun m p c wr => ∃ k : Nat, m = n - k ∧ k ≤ n ∧ c = .int .i64 k ∧ Below wk.heap.size wk wr ∧ Hid (tooLong (O.take k) = false))
                        case atStart => exact ⟨0, rfl, Nat.zero_le _, rfl, Below.refl _ _, Lib.hid (by simp [tooLong])⟩
                        case round =>
                          clear hBj
                          obtain ⟨k, rfl, hkn, rfl, hbr, hnl⟩ := hrel
                          by_cases hlt : k < n
                          · obtain ⟨x, hx⟩ : ∃ x, O[k]? = some x := ⟨_, List.getElem?_eq_getElem (by have := HNl.out; omega)⟩
                            have HT := Lib.hid (tooLong_take hx hnl.out)
                            obtain ⟨n0, n1, n2, n3, n4⟩ := hRo.out.facts hx
                            have n0 := bSome hbr n0
                            have n1 := bSome hbr n1
                            have n2 := bSome hbr n2
                            have n3 := bSome hbr n3
                            have n4 := bSome hbr n4
                            have hszr := hbr.size
                            have hb2 := hbr.alloc hbr.size (.cells #[Value.int .i64 x.kind, .int .i64 x.n, .int .i64 x.k, .int .i64 x.size, .string (bs x.text)] 82)
                            clear hx
                            by_cases q1 : x.kind = 1
                            · by_cases q2 : 2000 < x.text.length
                              · have HX2 := Lib.hid (show r = .error (101, tk.place) from by
                                  have h1 := HX.out
                                  rw [if_pos (tooLong_some (k := k + 1) (by rw [HT.out, q1]; simp [q2]))] at h1
                                  exact some_err h1)
                                have q3 : decide ((2000 : Int) < ((bs x.text).size : Int)) = true := by rw [decide_eq_true_eq, bs_size]; omega
                                have hse := bSome hbr (hseH.out.env 101 5 (by simp [errVars]))
                                have hcp := bSome hbr (hBjH.out.cell 1 rfl)
                                rw [q1] at n0
                                rw [q1] at hb2
                                clear q1 q2 HX HT
                                have hcp2 := bSome ((Below.refl _ wr).alloc (Nat.le_refl _) (.cells #[Value.int .i64 1, .int .i64 x.n, .int .i64 x.k, .int .i64 x.size, .string (bs x.text)] 82)) hcp
                                have hse2 := bSome ((Below.refl _ wr).alloc (Nat.le_refl _) (.cells #[Value.int .i64 1, .int .i64 x.n, .int .i64 x.k, .int .i64 x.size, .string (bs x.text)] 82)) hse
                                go_upto_region 22 with fail
                                go_region
                                go_wp2_with fail
                                go_ret2
                                have hb4 := bDrew1 (hb2.alloc hb2.size (.cells #[Value.int .i64 tk.place, .iface 303 (.pointer (some (sent 101)))] 69))
                                have hbk := (Blk.new (wr.alloc (.cells #[Value.int .i64 1, .int .i64 x.n, .int .i64 x.k, .int .i64 x.size, .string (bs x.text)] 82)) [Value.int .i64 tk.place, .iface 303 (.pointer (some (sent 101)))] 69).drew
                                rw [World.size_alloc] at hbk
                                exact (POut.bad HX2.out rfl (.none _ _) (Nat.zero_le _) ⟨_, rfl, hbk, by omega⟩ (hSj.below hb4) (hKj.andBelow hb4)).after hK0
                              · have q3 : decide ((2000 : Int) < ((bs x.text).size : Int)) = false := by rw [decide_eq_false_iff_not, bs_size]; omega
                                have HT2 := Lib.hid (show tooLong (O.take (k + 1)) = false by rw [HT.out]; simp [q2])
                                rw [q1] at n0
                                rw [q1] at hb2
                                clear q1 q2 HT
                                go_wp2_with fail
                                go_roundg (n - (k + 1))
                                case measure => omega
                                case rel => exact ⟨k + 1, rfl, by omega, by go_num, hb2, HT2⟩
                            · have q3 : (x.kind == 1) = false := by rw [beq_eq_false_iff_ne]; exact q1
                              have HT2 := Lib.hid (show tooLong (O.take (k + 1)) = false by rw [HT.out]; simp [q1])
                              clear q1 HT
                              go_wp2_with fail
                              go_roundg (n - (k + 1))
                              case measure => omega
                              case rel => exact ⟨k + 1, rfl, by omega, by go_num, hb2, HT2⟩
                          · obtain rfl : k = n := by omega
                            have HX2 := Lib.hid (show r = .ok (O, e2) from by
                              have h1 := HX.out
                              have h2 := hnl.out
                              rw [List.take_of_length_le (by have := HNl.out; omega)] at h2
                              rw [h2, if_neg (by simp)] at h1
                              exact some_ok h1)
                            clear HX hnl
                            go_wp2_with fail
                            go_ret2
                            exact (POut.ok HX2.out rfl (by have h := hNo.out.below hbr; rw [HNl.out] at h; exact h) (hSj.below hbr) (hKj.andBelow hbr)).after hK0
                      · have p3 : liveP tk.text = false := by simpa using p3
                        rw [wordOut_join (fun h => by rw [p3] at h; exact absurd h.2.2 (by simp))] at HX
                        rw [p3]
                        obtain ⟨O, hOj⟩ : ∃ O, joinP M = O := ⟨_, rfl⟩
                        rw [hOj] at HX hNl hlj ⊢
                        have hSj := hSl
                        have hBj := hBl
                        have hKj := hKl
                        have hEj := hEl
                        have hNj := hNl
                        have hszj := hszl
                        clear hOj hSl hBl hKl hEl hNl p1 p2 p3 hc3l
                        obtain ⟨og, oc, eo, o1, o2, o3, o4, o5⟩ := id hNj
                        cases eo
                        obtain ⟨n, hn⟩ : ∃ n, O.length = n := ⟨_, rfl⟩
                        have HNl := Lib.hid hn
                        have hNo := Lib.hid hNj
                        have hRo := Lib.hid o5
                        rw [hn] at o1 hlj ⊢
                        clear hn hNj o5
                        have hseH := Lib.hid hEj
                        have hBjH := Lib.hid hBj
                        have hnn : n ≤ 100000 := by omega
                        go_wp2_with fail
                        go_loopg [13, 93] n (fun m p c wr => ∃ k : Nat, m = n - k ∧ k ≤ n ∧ c = .int .i64 k ∧ Below wl.heap.size wl wr ∧ Hid (tooLong (O.take k) = false))
                        case atStart => exact ⟨0, rfl, Nat.zero_le _, rfl, Below.refl _ _, Lib.hid (by simp [tooLong])⟩
                        case round =>
                          clear hBj
                          obtain ⟨k, rfl, hkn, rfl, hbr, hnl⟩ := hrel
                          by_cases hlt : k < n
                          · obtain ⟨x, hx⟩ : ∃ x, O[k]? = some x := ⟨_, List.getElem?_eq_getElem (by have := HNl.out; omega)⟩
                            have HT := Lib.hid (tooLong_take hx hnl.out)
                            obtain ⟨n0, n1, n2, n3, n4⟩ := hRo.out.facts hx
                            have n0 := bSome hbr n0
                            have n1 := bSome hbr n1
                            have n2 := bSome hbr n2
                            have n3 := bSome hbr n3
                            have n4 := bSome hbr n4
                            have hszr := hbr.size
                            have hb2 := hbr.alloc hbr.size (.cells #[Value.int .i64 x.kind, .int .i64 x.n, .int .i64 x.k, .int .i64 x.size, .string (bs x.text)] 82)
                            clear hx
                            by_cases q1 : x.kind = 1
                            · by_cases q2 : 2000 < x.text.length
                              · have HX2 := Lib.hid (show r = .error (101, tk.place) from by
                                  have h1 := HX.out
                                  rw [if_pos (tooLong_some (k := k + 1) (by rw [HT.out, q1]; simp [q2]))] at h1
                                  exact some_err h1)
                                have q3 : decide ((2000 : Int) < ((bs x.text).size : Int)) = true := by rw [decide_eq_true_eq, bs_size]; omega
                                have hse := bSome hbr (hseH.out.env 101 5 (by simp [errVars]))
                                have hcp := bSome hbr (hBjH.out.cell 1 rfl)
                                rw [q1] at n0
                                rw [q1] at hb2
                                clear q1 q2 HX HT
                                have hcp2 := bSome ((Below.refl _ wr).alloc (Nat.le_refl _) (.cells #[Value.int .i64 1, .int .i64 x.n, .int .i64 x.k, .int .i64 x.size, .string (bs x.text)] 82)) hcp
                                have hse2 := bSome ((Below.refl _ wr).alloc (Nat.le_refl _) (.cells #[Value.int .i64 1, .int .i64 x.n, .int .i64 x.k, .int .i64 x.size, .string (bs x.text)] 82)) hse
                                go_upto_region 22 with fail
                                go_region
                                go_wp2_with fail
                                go_ret2
                                have hb4 := bDrew1 (hb2.alloc hb2.size (.cells #[Value.int .i64 tk.place, .iface 303 (.pointer (some (sent 101)))] 69))
                                have hbk := (Blk.new (wr.alloc (.cells #[Value.int .i64 1, .int .i64 x.n, .int .i64 x.k, .int .i64 x.size, .string (bs x.text)] 82)) [Value.int .i64 tk.place, .iface 303 (.pointer (some (sent 101)))] 69).drew
                                rw [World.size_alloc] at hbk
                                exact (POut.bad HX2.out rfl (.none _ _) (Nat.zero_le _) ⟨_, rfl, hbk, by omega⟩ (hSj.below hb4) (hKj.andBelow hb4)).after hK0
                              · have q3 : decide ((2000 : Int) < ((bs x.text).size : Int)) = false := by rw [decide_eq_false_iff_not, bs_size]; omega
                                have HT2 := Lib.hid (show tooLong (O.take (k + 1)) = false by rw [HT.out]; simp [q2])
                                rw [q1] at n0
                                rw [q1] at hb2
                                clear q1 q2 HT
                                go_wp2_with fail
                                go_roundg (n - (k + 1))
                                case measure => omega
                                case rel => exact ⟨k + 1, rfl, by omega, by go_num, hb2, HT2⟩
                            · have q3 : (x.kind == 1) = false := by rw [beq_eq_false_iff_ne]; exact q1
                              have HT2 := Lib.hid (show tooLong (O.take (k + 1)) = false by rw [HT.out]; simp [q1])
                              clear q1 HT
                              go_wp2_with fail
                              go_roundg (n - (k + 1))
                              case measure => omega
                              case rel => exact ⟨k + 1, rfl, by omega, by go_num, hb2, HT2⟩
                          · obtain rfl : k = n := by omega
                            have HX2 := Lib.hid (show r = .ok (O, e2) from by
                              have h1 := HX.out
                              have h2 := hnl.out
                              rw [List.take_of_length_le (by have := HNl.out; omega)] at h2
                              rw [h2, if_neg (by simp)] at h1
                              exact some_ok h1)
                            clear HX hnl
                            go_wp2_with fail
                            go_ret2
                            exact (POut.ok HX2.out rfl (by have h := hNo.out.below hbr; rw [HNl.out] at h; exact h) (hSj.below hbr) (hKj.andBelow hbr)).after hK0
                    · have hc0 := hBj.cell 0 rfl
                      have k1 : ((tk.kind : Int) == 18) = false := by rw [beq_eq_false_iff_ne]; omega
                      rw [wordOut_join (fun h => p2 h.2.1)] at HX
                      obtain ⟨O, hOj⟩ : ∃ O, joinP M = O := ⟨_, rfl⟩
                      rw [hOj] at HX hNj hlj
                      clear hOj p1 p2
                      obtain ⟨og, oc, eo, o1, o2, o3, o4, o5⟩ := id hNj
                      cases eo
                      obtain ⟨n, hn⟩ : ∃ n, O.length = n := ⟨_, rfl⟩
                      have HNl := Lib.hid hn
                      have hNo := Lib.hid hNj
                      have hRo := Lib.hid o5
                      rw [hn] at o1 hlj ⊢
                      clear hn hNj o5
                      have hseH := Lib.hid hEj
                      have hBjH := Lib.hid hBj
                      have hnn : n ≤ 100000 := by omega
                      go_wp2_with fail
                      go_loopg [13, 93] n (fun m p c wr => ∃ k : Nat, m = n - k ∧ k ≤ n ∧ c = .int .i64 k ∧ Below wj.heap.size wj wr ∧ Hid (tooLong (O.take k) = false))
                      case atStart => exact ⟨0, rfl, Nat.zero_le _, rfl, Below.refl _ _, Lib.hid (by simp [tooLong])⟩
                      case round =>
                        clear hBj
                        obtain ⟨k, rfl, hkn, rfl, hbr, hnl⟩ := hrel
                        by_cases hlt : k < n
                        · obtain ⟨x, hx⟩ : ∃ x, O[k]? = some x := ⟨_, List.getElem?_eq_getElem (by have := HNl.out; omega)⟩
                          have HT := Lib.hid (tooLong_take hx hnl.out)
                          obtain ⟨n0, n1, n2, n3, n4⟩ := hRo.out.facts hx
                          have n0 := bSome hbr n0
                          have n1 := bSome hbr n1
                          have n2 := bSome hbr n2
                          have n3 := bSome hbr n3
                          have n4 := bSome hbr n4
                          have hszr := hbr.size
                          have hb2 := hbr.alloc hbr.size (.cells #[Value.int .i64 x.kind, .int .i64 x.n, .int .i64 x.k, .int .i64 x.size, .string (bs x.text)] 82)
                          clear hx
                          by_cases q1 : x.kind = 1
                          · by_cases q2 : 2000 < x.text.length
                            · have HX2 := Lib.hid (show r = .error (101, tk.place) from by
                                have h1 := HX.out
                                rw [if_pos (tooLong_some (k := k + 1) (by rw [HT.out, q1]; simp [q2]))] at h1
                                exact some_err h1)
                              have q3 : decide ((2000 : Int) < ((bs x.text).size : Int)) = true := by rw [decide_eq_true_eq, bs_size]; omega
                              have hse := bSome hbr (hseH.out.env 101 5 (by simp [errVars]))
                              have hcp := bSome hbr (hBjH.out.cell 1 rfl)
                              rw [q1] at n0
                              rw [q1] at hb2
                              clear q1 q2 HX HT
                              have hcp2 := bSome ((Below.refl _ wr).alloc (Nat.le_refl _) (.cells #[Value.int .i64 1, .int .i64 x.n, .int .i64 x.k, .int .i64 x.size, .string (bs x.text)] 82)) hcp
                              have hse2 := bSome ((Below.refl _ wr).alloc (Nat.le_refl _) (.cells #[Value.int .i64 1, .int .i64 x.n, .int .i64 x.k, .int .i64 x.size, .string (bs x.text)] 82)) hse
                              go_upto_region 22 with fail
                              go_region
                              go_wp2_with fail
                              go_ret2
                              have hb4 := bDrew1 (hb2.alloc hb2.size (.cells #[Value.int .i64 tk.place, .iface 303 (.pointer (some (sent 101)))] 69))
                              have hbk := (Blk.new (wr.alloc (.cells #[Value.int .i64 1, .int .i64 x.n, .int .i64 x.k, .int .i64 x.size, .string (bs x.text)] 82)) [Value.int .i64 tk.place, .iface 303 (.pointer (some (sent 101)))] 69).drew
                              rw [World.size_alloc] at hbk
                              exact (POut.bad HX2.out rfl (.none _ _) (Nat.zero_le _) ⟨_, rfl, hbk, by omega⟩ (hSj.below hb4) (hKj.andBelow hb4)).after hK0
                            · have q3 : decide ((2000 : Int) < ((bs x.text).size : Int)) = false := by rw [decide_eq_false_iff_not, bs_size]; omega
                              have HT2 := Lib.hid (show tooLong (O.take (k + 1)) = false by rw [HT.out]; simp [q2])
                              rw [q1] at n0
                              rw [q1] at hb2
                              clear q1 q2 HT
                              go_wp2_with fail
                              go_roundg (n - (k + 1))
                              case measure => omega
                              case rel => exact ⟨k + 1, rfl, by omega, by go_num, hb2, HT2⟩
                          · have q3 : (x.kind == 1) = false := by rw [beq_eq_false_iff_ne]; exact q1
                            have HT2 := Lib.hid (show tooLong (O.take (k + 1)) = false by rw [HT.out]; simp [q1])
                            clear q1 HT
                            go_wp2_with fail
                            go_roundg (n - (k + 1))
                            case measure => omega
                            case rel => exact ⟨k + 1, rfl, by omega, by go_num, hb2, HT2⟩
                        · obtain rfl : k = n := by omega
                          have HX2 := Lib.hid (show r = .ok (O, e2) from by
                            have h1 := HX.out
                            have h2 := hnl.out
                            rw [List.take_of_length_le (by have := HNl.out; omega)] at h2
                            rw [h2, if_neg (by simp)] at h1
                            exact some_ok h1)
                          clear HX hnl
                          go_wp2_with fail
                          go_ret2
                          exact (POut.ok HX2.out rfl (by have h := hNo.out.below hbr; rw [HNl.out] at h; exact h) (hSj.below hbr) (hKj.andBelow hbr)).after hK0
                  · have k1 : ((M.length : Int) == 1) = false := by rw [beq_eq_false_iff_ne]; omega
                    rw [wordOut_join (fun h => p1 h.1)] at HX
                    obtain ⟨O, hOj⟩ : ∃ O, joinP M = O := ⟨_, rfl⟩
                    rw [hOj] at HX hNj hlj
                    clear hOj
                    generalize M.length = mlen at *
                    obtain ⟨og, oc, eo, o1, o2, o3, o4, o5⟩ := id hNj
                    cases eo
                    obtain ⟨n, hn⟩ : ∃ n, O.length = n := ⟨_, rfl⟩
                    have HNl := Lib.hid hn
                    have hNo := Lib.hid hNj
                    have hRo := Lib.hid o5
                    rw [hn] at o1 hlj ⊢
                    clear hn hNj o5
                    have hseH := Lib.hid hEj
                    have hBjH := Lib.hid hBj
                    have hnn : n ≤ 100000 := by omega
                    go_wp2_with fail
                    go_loopg [13, 93] n (fun m p c wr => ∃ k : Nat, m = n - k ∧ k ≤ n ∧ c = .int .i64 k ∧ Below wj.heap.size wj wr ∧ Hid (tooLong (O.take k) = false))
                    case atStart => exact ⟨0, rfl, Nat.zero_le _, rfl, Below.refl _ _, Lib.hid (by simp [tooLong])⟩
                    case round =>
                      clear hBj
                      obtain ⟨k, rfl, hkn, rfl, hbr, hnl⟩ := hrel
                      by_cases hlt : k < n
                      · obtain ⟨x, hx⟩ : ∃ x, O[k]? = some x := ⟨_, List.getElem?_eq_getElem (by have := HNl.out; omega)⟩
                        have HT := Lib.hid (tooLong_take hx hnl.out)
                        obtain ⟨n0, n1, n2, n3, n4⟩ := hRo.out.facts hx
                        have n0 := bSome hbr n0
                        have n1 := bSome hbr n1
                        have n2 := bSome hbr n2
                        have n3 := bSome hbr n3
                        have n4 := bSome hbr n4
                        have hszr := hbr.size
                        have hb2 := hbr.alloc hbr.size (.cells #[Value.int .i64 x.kind, .int .i64 x.n, .int .i64 x.k, .int .i64 x.size, .string (bs x.text)] 82)
                        clear hx
                        by_cases q1 : x.kind = 1
                        · by_cases q2 : 2000 < x.text.length
                          · have HX2 := Lib.hid (show r = .error (101, tk.place) from by
                              have h1 := HX.out
                              rw [if_pos (tooLong_some (k := k + 1) (by rw [HT.out, q1]; simp [q2]))] at h1
                              exact some_err h1)
                            have q3 : decide ((2000 : Int) < ((bs x.text).size : Int)) = true := by rw [decide_eq_true_eq, bs_size]; omega
                            have hse := bSome hbr (hseH.out.env 101 5 (by simp [errVars]))
                            have hcp := bSome hbr (hBjH.out.cell 1 rfl)
                            rw [q1] at n0
                            rw [q1] at hb2
                            clear q1 q2 HX HT
                            have hcp2 := bSome ((Below.refl _ wr).alloc (Nat.le_refl _) (.cells #[Value.int .i64 1, .int .i64 x.n, .int .i64 x.k, .int .i64 x.size, .string (bs x.text)] 82)) hcp
                            have hse2 := bSome ((Below.refl _ wr).alloc (Nat.le_refl _) (.cells #[Value.int .i64 1, .int .i64 x.n, .int .i64 x.k, .int .i64 x.size, .string (bs x.text)] 82)) hse
                            go_upto_region 22 with fail
                            go_region
                            go_wp2_with fail
                            go_ret2
                            have hb4 := bDrew1 (hb2.alloc hb2.size (.cells #[Value.int .i64 tk.place, .iface 303 (.pointer (some (sent 101)))] 69))
                            have hbk := (Blk.new (wr.alloc (.cells #[Value.int .i64 1, .int .i64 x.n, .int .i64 x.k, .int .i64 x.size, .string (bs x.text)] 82)) [Value.int .i64 tk.place, .iface 303 (.pointer (some (sent 101)))] 69).drew
                            rw [World.size_alloc] at hbk
                            exact (POut.bad HX2.out rfl (.none _ _) (Nat.zero_le _) ⟨_, rfl, hbk, by omega⟩ (hSj.below hb4) (hKj.andBelow hb4)).after hK0
                          · have q3 : decide ((2000 : Int) < ((bs x.text).size : Int)) = false := by rw [decide_eq_false_iff_not, bs_size]; omega
                            have HT2 := Lib.hid (show tooLong (O.take (k + 1)) = false by rw [HT.out]; simp [q2])
                            rw [q1] at n0
                            rw [q1] at hb2
                            clear q1 q2 HT
                            go_wp2_with fail
                            go_roundg (n - (k + 1))
                            case measure => omega
                            case rel => exact ⟨k + 1, rfl, by omega, by go_num, hb2, HT2⟩
                        · have q3 : (x.kind == 1) = false := by rw [beq_eq_false_iff_ne]; exact q1
                          have HT2 := Lib.hid (show tooLong (O.take (k + 1)) = false by rw [HT.out]; simp [q1])
                          clear q1 HT
                          go_wp2_with fail
                          go_roundg (n - (k + 1))
                          case measure => omega
                          case rel => exact ⟨k + 1, rfl, by omega, by go_num, hb2, HT2⟩
                      · obtain rfl : k = n := by omega
                        have HX2 := Lib.hid (show r = .ok (O, e2) from by
                          have h1 := HX.out
                          have h2 := hnl.out
                          rw [List.take_of_length_le (by have := HNl.out; omega)] at h2
                          rw [h2, if_neg (by simp)] at h1
                          exact some_ok h1)
                        clear HX hnl
                        go_wp2_with fail
                        go_ret2
                        exact (POut.ok HX2.out rfl (by have h := hNo.out.below hbr; rw [HNl.out] at h; exact h) (hSj.below hbr) (hKj.andBelow hbr)).after hK0
              · have x2 : itemP ts e2 = false := by simpa using x2
                rw [x2] at HP2 ⊢
                rw [if_pos (.inl rfl)] at HP2
                have HRR := Lib.hid (some_ok HP2.out)
                have HX := Lib.hid (show (if tooLong (wordOut tk 0 M) = true then pErr 101 tk.place else pOk (wordOut tk 0 M) e2) = some r from by
                  have := HR.out
                  rw [HRR.out] at this
                  exact this)
                have hlj := len_joinP M
                clear HP2 HR HRR
                go_wp2_with fail
                refine (pJoin_any M b _ w8 (by omega) hM0 (by omega) (by omega) (by omega) (hO8.ksl hbz) hM4).mono ?_
                rintro e wj ⟨vj, rfl, hNj, hbj⟩
                have hSj := hS8.below hbj
                have hBj := hB8.below hbj
                have hKj := hK8.andBelow hbj
                have hEj := hE.kept hKj
                have hszj := hKj.size
                clear hS8 hO8 hB8 hK8 hbj
                by_cases p1 : M.length = 1
                · rw [p1]
                  have p1' : ((1 : Nat) : Int) = 1 := rfl
                  by_cases p2 : tk.kind = 18
                  · have hc0 := hBj.cell 0 rfl
                    have hc3 := hBj.cell 3 rfl
                    rw [show ((tk.kind : Nat) : Int) = 18 by rw [p2]; rfl] at hc0
                    obtain ⟨jg, jc, rfl, -⟩ := id hNj
                    go_wp2_with fail
                    refine (ptLive_any tk.text _ (by omega)).mono ?_
                    rintro e wl ⟨rfl, hbl2⟩
                    have hSl := hSj.below hbl2
                    have hBl := hBj.below hbl2
                    have hKl := hKj.andBelow hbl2
                    have hEl := hE.kept hKl
                    have hNl := hNj.below hbl2
                    have hszl := hKl.size
                    have hc3l := hBl.cell 3 rfl
                    clear hSj hBj hKj hEj hNj hbl2 hc0 hc3
                    by_cases p3 : liveP tk.text = true
                    · rw [wordOut_glob p1 p2 p3] at HX
                      rw [p3]
                      clear p1 p2 p3 hNl
                      have hcl := closedP_len tk.text
                      go_wp2_with fail
                      refine (pClosed_any tk.text _ (by omega)).mono ?_
                      rintro e wm ⟨rfl, hbm⟩
                      have hszm := hbm.size
                      go_wp2_with fail
                      refine (cNewS_any 1 1 (closedP tk.text) [] b _ wm (by omega) (KSl.nil _ _) (by simp) (by simp)).mono ?_
                      rintro e wn ⟨vn, rfl, hNn, hbn⟩
                      have hbo := bNext hbm hbn
                      have hszn := hbo.size
                      obtain ⟨ng, nc, rfl, -⟩ := id hNn
                      have HN := Lib.hid (cNewS_any 6 0 [] [newP 1 1 (closedP tk.text) []] b _ _ (by simp; omega) (KSl.new1 (w := wn) (by omega) (.inl hNn)) (by simp [newP]) (by simp))
                      go_wp2_with fail
                      refine HN.out.mono ?_
                      rintro e wk ⟨vk, rfl, hNk, hbk⟩
                      have hbq := hbo.trans ((bNextW hbk).mono hszn)
                      have hSj := hSl.below hbq
                      have hBj := hBl.below hbq
                      have hKj := hKl.andBelow hbq
                      have hEj := hE.kept hKj
                      have hszj := hKj.size
                      have hlk : (newP 6 0 [] [newP 1 1 (closedP tk.text) []]).length ≤ M.flatten.length + 100 := by simp [newP]
                      obtain ⟨O, hOj⟩ : ∃ O, newP 6 0 [] [newP 1 1 (closedP tk.text) []] = O := ⟨_, rfl⟩
                      rw [hOj] at HX hNk hlk
                      have hNj := hNk
                      have hlj := hlk
                      clear hlk hOj HN hSl hBl hKl hEl hNk hNn hbq hbk hbm hbn hbo hc3l
                      obtain ⟨og, oc, eo, o1, o2, o3, o4, o5⟩ := id hNj
                      cases eo
                      obtain ⟨n, hn⟩ : ∃ n, O.length = n := ⟨_, rfl⟩
                      have HNl := Lib.hid hn
                      have hNo := Lib.hid hNj
                      have hRo := Lib.hid o5
                      rw [hn] at o1 hlj ⊢
                      clear hn hNj o5
                      have hseH := Lib.hid hEj
                      have hBjH := Lib.hid hBj
                      have hnn : n ≤ 100000 := by omega
                      go_wp2_with fail
                      go_loopg [13, 93] n (fun m p c wr => ∃ k : Nat, m = n - k ∧ k ≤ n ∧ c = .int .i64 k ∧ Below wk.heap.size wk wr ∧ Hid (tooLong (O.take k) = false))
                      case atStart => exact ⟨0, rfl, Nat.zero_le _, rfl, Below.refl _ _, Lib.hid (by simp [tooLong])⟩
                      case round =>
                        clear hBj
                        obtain ⟨k, rfl, hkn, rfl, hbr, hnl⟩ := hrel
                        by_cases hlt : k < n
                        · obtain ⟨x, hx⟩ : ∃ x, O[k]? = some x := ⟨_, List.getElem?_eq_getElem (by have := HNl.out; omega)⟩
                          have HT := Lib.hid (tooLong_take hx hnl.out)
                          obtain ⟨n0, n1, n2, n3, n4⟩ := hRo.out.facts hx
                          have n0 := bSome hbr n0
                          have n1 := bSome hbr n1
                          have n2 := bSome hbr n2
                          have n3 := bSome hbr n3
                          have n4 := bSome hbr n4
                          have hszr := hbr.size
                          have hb2 := hbr.alloc hbr.size (.cells #[Value.int .i64 x.kind, .int .i64 x.n, .int .i64 x.k, .int .i64 x.size, .string (bs x.text)] 82)
                          clear hx
                          by_cases q1 : x.kind = 1
                          · by_cases q2 : 2000 < x.text.length
                            · have HX2 := Lib.hid (show r = .error (101, tk.place) from by
                                have h1 := HX.out
                                rw [if_pos (tooLong_some (k := k + 1) (by rw [HT.out, q1]; simp [q2]))] at h1
                                exact some_err h1)
                              have q3 : decide ((2000 : Int) < ((bs x.text).size : Int)) = true := by rw [decide_eq_true_eq, bs_size]; omega
                              have hse := bSome hbr (hseH.out.env 101 5 (by simp [errVars]))
                              have hcp := bSome hbr (hBjH.out.cell 1 rfl)
                              rw [q1] at n0
                              rw [q1] at hb2
                              clear q1 q2 HX HT
                              have hcp2 := bSome ((Below.refl _ wr).alloc (Nat.le_refl _) (.cells #[Value.int .i64 1, .int .i64 x.n, .int .i64 x.k, .int .i64 x.size, .string (bs x.text)] 82)) hcp
                              have hse2 := bSome ((Below.refl _ wr).alloc (Nat.le_refl _) (.cells #[Value.int .i64 1, .int .i64 x.n, .int .i64 x.k, .int .i64 x.size, .string (bs x.text)] 82)) hse
                              go_upto_region 22 with fail
                              go_region
                              go_wp2_with fail
                              go_ret2
                              have hb4 := bDrew1 (hb2.alloc hb2.size (.cells #[Value.int .i64 tk.place, .iface 303 (.pointer (some (sent 101)))] 69))
                              have hbk := (Blk.new (wr.alloc (.cells #[Value.int .i64 1, .int .i64 x.n, .int .i64 x.k, .int .i64 x.size, .string (bs x.text)] 82)) [Value.int .i64 tk.place, .iface 303 (.pointer (some (sent 101)))] 69).drew
                              rw [World.size_alloc] at hbk
                              exact (POut.bad HX2.out rfl (.none _ _) (Nat.zero_le _) ⟨_, rfl, hbk, by omega⟩ (hSj.below hb4) (hKj.andBelow hb4)).after hK0
                            · have q3 : decide ((2000 : Int) < ((bs x.text).size : Int)) = false := by rw [decide_eq_false_iff_not, bs_size]; omega
                              have HT2 := Lib.hid (show tooLong (O.take (k + 1)) = false by rw [HT.out]; simp [q2])
                              rw [q1] at n0
                              rw [q1] at hb2
                              clear q1 q2 HT
                              go_wp2_with fail
                              go_roundg (n - (k + 1))
                              case measure => omega
                              case rel => exact ⟨k + 1, rfl, by omega, by go_num, hb2, HT2⟩
                          · have q3 : (x.kind == 1) = false := by rw [beq_eq_false_iff_ne]; exact q1
                            have HT2 := Lib.hid (show tooLong (O.take (k + 1)) = false by rw [HT.out]; simp [q1])
                            clear q1 HT
                            go_wp2_with fail
                            go_roundg (n - (k + 1))
                            case measure => omega
                            case rel => exact ⟨k + 1, rfl, by omega, by go_num, hb2, HT2⟩
                        · obtain rfl : k = n := by omega
                          have HX2 := Lib.hid (show r = .ok (O, e2) from by
                            have h1 := HX.out
                            have h2 := hnl.out
                            rw [List.take_of_length_le (by have := HNl.out; omega)] at h2
                            rw [h2, if_neg (by simp)] at h1
                            exact some_ok h1)
                          clear HX hnl
                          go_wp2_with fail
                          go_ret2
                          exact (POut.ok HX2.out rfl (by have h := hNo.out.below hbr; rw [HNl.out] at h; exact h) (hSj.below hbr) (hKj.andBelow hbr)).after hK0
                    · have p3 : liveP tk.text = false := by simpa using p3
                      rw [wordOut_join (fun h => by rw [p3] at h; exact absurd h.2.2 (by simp))] at HX
                      rw [p3]
                      obtain ⟨O, hOj⟩ : ∃ O, joinP M = O := ⟨_, rfl⟩
                      rw [hOj] at HX hNl hlj ⊢
                      have hSj := hSl
                      have hBj := hBl
                      have hKj := hKl
                      have hEj := hEl
                      have hNj := hNl
                      have hszj := hszl
                      clear hOj hSl hBl hKl hEl hNl p1 p2 p3 hc3l
                      obtain ⟨og, oc, eo, o1, o2, o3, o4, o5⟩ := id hNj
                      cases eo
                      obtain ⟨n, hn⟩ : ∃ n, O.length = n := ⟨_, rfl⟩
                      have HNl := Lib.hid hn
                      have hNo := Lib.hid hNj
                      have hRo := Lib.hid o5
                      rw [hn] at o1 hlj ⊢
                      clear hn hNj o5
                      have hseH := Lib.hid hEj
                      have hBjH := Lib.hid hBj
                      have hnn : n ≤ 100000 := by omega
                      go_wp2_with fail
                      go_loopg [13, 93] n (fun m p c wr => ∃ k : Nat, m = n - k ∧ k ≤ n ∧ c = .int .i64 k ∧ Below wl.heap.size wl wr ∧ Hid (tooLong (O.take k) = false))
                      case atStart => exact ⟨0, rfl, Nat.zero_le _, rfl, Below.refl _ _, Lib.hid (by simp [tooLong])⟩
                      case round =>
                        clear hBj
                        obtain ⟨k, rfl, hkn, rfl, hbr, hnl⟩ := hrel
                        by_cases hlt : k < n
                        · obtain ⟨x, hx⟩ : ∃ x, O[k]? = some x := ⟨_, List.getElem?_eq_getElem (by have := HNl.out; omega)⟩
                          have HT := Lib.hid (tooLong_take hx hnl.out)
                          obtain ⟨n0, n1, n2, n3, n4⟩ := hRo.out.facts hx
                          have n0 := bSome hbr n0
                          have n1 := bSome hbr n1
                          have n2 := bSome hbr n2
                          have n3 := bSome hbr n3
                          have n4 := bSome hbr n4
                          have hszr := hbr.size
                          have hb2 := hbr.alloc hbr.size (.cells #[Value.int .i64 x.kind, .int .i64 x.n, .int .i64 x.k, .int .i64 x.size, .string (bs x.text)] 82)
                          clear hx
                          by_cases q1 : x.kind = 1
                          · by_cases q2 : 2000 < x.text.length
                            · have HX2 := Lib.hid (show r = .error (101, tk.place) from by
                                have h1 := HX.out
                                rw [if_pos (tooLong_some (k := k + 1) (by rw [HT.out, q1]; simp [q2]))] at h1
                                exact some_err h1)
                              have q3 : decide ((2000 : Int) < ((bs x.text).size : Int)) = true := by rw [decide_eq_true_eq, bs_size]; omega
                              have hse := bSome hbr (hseH.out.env 101 5 (by simp [errVars]))
                              have hcp := bSome hbr (hBjH.out.cell 1 rfl)
                              rw [q1] at n0
                              rw [q1] at hb2
                              clear q1 q2 HX HT
                              have hcp2 := bSome ((Below.refl _ wr).alloc (Nat.le_refl _) (.cells #[Value.int .i64 1, .int .i64 x.n, .int .i64 x.k, .int .i64 x.size, .string (bs x.text)] 82)) hcp
                              have hse2 := bSome ((Below.refl _ wr).alloc (Nat.le_refl _) (.cells #[Value.int .i64 1, .int .i64 x.n, .int .i64 x.k, .int .i64 x.size, .string (bs x.text)] 82)) hse
                              go_upto_region 22 with fail
                              go_region
                              go_wp2_with fail
                              go_ret2
                              have hb4 := bDrew1 (hb2.alloc hb2.size (.cells #[Value.int .i64 tk.place, .iface 303 (.pointer (some (sent 101)))] 69))
                              have hbk := (Blk.new (wr.alloc (.cells #[Value.int .i64 1, .int .i64 x.n, .int .i64 x.k, .int .i64 x.size, .string (bs x.text)] 82)) [Value.int .i64 tk.place, .iface 303 (.pointer (some (sent 101)))] 69).drew
                              rw [World.size_alloc] at hbk
                              exact (POut.bad HX2.out rfl (.none _ _) (Nat.zero_le _) ⟨_, rfl, hbk, by omega⟩ (hSj.below hb4) (hKj.andBelow hb4)).after hK0
                            · have q3 : decide ((2000 : Int) < ((bs x.text).size : Int)) = false := by rw [decide_eq_false_iff_not, bs_size]; omega
                              have HT2 := Lib.hid (show tooLong (O.take (k + 1)) = false by rw [HT.out]; simp [q2])
                              rw [q1] at n0
                              rw [q1] at hb2
                              clear q1 q2 HT
                              go_wp2_with fail
                              go_roundg (n - (k + 1))
                              case measure => omega
                              case rel => exact ⟨k + 1, rfl, by omega, by go_num, hb2, HT2⟩
                          · have q3 : (x.kind == 1) = false := by rw [beq_eq_false_iff_ne]; exact q1
                            have HT2 := Lib.hid (show tooLong (O.take (k + 1)) = false by rw [HT.out]; simp [q1])
                            clear q1 HT
                            go_wp2_with fail
                            go_roundg (n - (k + 1))
                            case measure => omega
                            case rel => exact ⟨k + 1, rfl, by omega, by go_num, hb2, HT2⟩
                        · obtain rfl : k = n := by omega
                          have HX2 := Lib.hid (show r = .ok (O, e2) from by
                            have h1 := HX.out
                            have h2 := hnl.out
                            rw [List.take_of_length_le (by have := HNl.out; omega)] at h2
                            rw [h2, if_neg (by simp)] at h1
                            exact some_ok h1)
                          clear HX hnl
                          go_wp2_with fail
                          go_ret2
                          exact (POut.ok HX2.out rfl (by have h := hNo.out.below hbr; rw [HNl.out] at h; exact h) (hSj.below hbr) (hKj.andBelow hbr)).after hK0
                  · have hc0 := hBj.cell 0 rfl
                    have k1 : ((tk.kind : Int) == 18) = false := by rw [beq_eq_false_iff_ne]; omega
                    rw [wordOut_join (fun h => p2 h.2.1)] at HX
                    obtain ⟨O, hOj⟩ : ∃ O, joinP M = O := ⟨_, rfl⟩
                    rw [hOj] at HX hNj hlj
                    clear hOj p1 p2
                    obtain ⟨og, oc, eo, o1, o2, o3, o4, o5⟩ := id hNj
                    cases eo
                    obtain ⟨n, hn⟩ : ∃ n, O.length = n := ⟨_, rfl⟩
                    have HNl := Lib.hid hn
                    have hNo := Lib.hid hNj
                    have hRo := Lib.hid o5
                    rw [hn] at o1 hlj ⊢
                    clear hn hNj o5
                    have hseH := Lib.hid hEj
                    have hBjH := Lib.hid hBj
                    have hnn : n ≤ 100000 := by omega
                    go_wp2_with fail
                    go_loopg [13, 93] n (fun m p c wr => ∃ k : Nat, m = n - k ∧ k ≤ n ∧ c = .int .i64 k ∧ Below wj.heap.size wj wr ∧ Hid (tooLong (O.take k) = false))
                    case atStart => exact ⟨0, rfl, Nat.zero_le _, rfl, Below.refl _ _, Lib.hid (by simp [tooLong])⟩
                    case round =>
                      clear hBj
                      obtain ⟨k, rfl, hkn, rfl, hbr, hnl⟩ := hrel
                      by_cases hlt : k < n
                      · obtain ⟨x, hx⟩ : ∃ x, O[k]? = some x := ⟨_, List.getElem?_eq_getElem (by have := HNl.out; omega)⟩
                        have HT := Lib.hid (tooLong_take hx hnl.out)
                        obtain ⟨n0, n1, n2, n3, n4⟩ := hRo.out.facts hx
                        have n0 := bSome hbr n0
                        have n1 := bSome hbr n1
                        have n2 := bSome hbr n2
                        have n3 := bSome hbr n3
                        have n4 := bSome hbr n4
                        have hszr := hbr.size
                        have hb2 := hbr.alloc hbr.size (.cells #[Value.int .i64 x.kind, .int .i64 x.n, .int .i64 x.k, .int .i64 x.size, .string (bs x.text)] 82)
                        clear hx
                        by_cases q1 : x.kind = 1
                        · by_cases q2 : 2000 < x.text.length
                          · have HX2 := Lib.hid (show r = .error (101, tk.place) from by
                              have h1 := HX.out
                              rw [if_pos (tooLong_some (k := k + 1) (by rw [HT.out, q1]; simp [q2]))] at h1
                              exact some_err h1)
                            have q3 : decide ((2000 : Int) < ((bs x.text).size : Int)) = true := by rw [decide_eq_true_eq, bs_size]; omega
                            have hse := bSome hbr (hseH.out.env 101 5 (by simp [errVars]))
                            have hcp := bSome hbr (hBjH.out.cell 1 rfl)
                            rw [q1] at n0
                            rw [q1] at hb2
                            clear q1 q2 HX HT
                            have hcp2 := bSome ((Below.refl _ wr).alloc (Nat.le_refl _) (.cells #[Value.int .i64 1, .int .i64 x.n, .int .i64 x.k, .int .i64 x.size, .string (bs x.text)] 82)) hcp
                            have hse2 := bSome ((Below.refl _ wr).alloc (Nat.le_refl _) (.cells #[Value.int .i64 1, .int .i64 x.n, .int .i64 x.k, .int .i64 x.size, .string (bs x.text)] 82)) hse
                            go_upto_region 22 with fail
                            go_region
                            go_wp2_with fail
                            go_ret2
                            have hb4 := bDrew1 (hb2.alloc hb2.size (.cells #[Value.int .i64 tk.place, .iface 303 (.pointer (some (sent 101)))] 69))
                            have hbk := (Blk.new (wr.alloc (.cells #[Value.int .i64 1, .int .i64 x.n, .int .i64 x.k, .int .i64 x.size, .string (bs x.text)] 82)) [Value.int .i64 tk.place, .iface 303 (.pointer (some (sent 101)))] 69).drew
                            rw [World.size_alloc] at hbk
                            exact (POut.bad HX2.out rfl (.none _ _) (Nat.zero_le _) ⟨_, rfl, hbk, by omega⟩ (hSj.below hb4) (hKj.andBelow hb4)).after hK0
                          · have q3 : decide ((2000 : Int) < ((bs x.text).size : Int)) = false := by rw [decide_eq_false_iff_not, bs_size]; omega
                            have HT2 := Lib.hid (show tooLong (O.take (k + 1)) = false by rw [HT.out]; simp [q2])
                            rw [q1] at n0
                            rw [q1] at hb2
                            clear q1 q2 HT
                            go_wp2_with fail
                            go_roundg (n - (k + 1))
                            case measure => omega
                            case rel => exact ⟨k + 1, rfl, by omega, by go_num, hb2, HT2⟩
                        · have q3 : (x.kind == 1) = false := by rw [beq_eq_false_iff_ne]; exact q1
                          have HT2 := Lib.hid (show tooLong (O.take (k + 1)) = false by rw [HT.out]; simp [q1])
                          clear q1 HT
                          go_wp2_with fail
                          go_roundg (n - (k + 1))
                          case measure => omega
                          case rel => exact ⟨k + 1, rfl, by omega, by go_num, hb2, HT2⟩
                      · obtain rfl : k = n := by omega
                        have HX2 := Lib.hid (show r = .ok (O, e2) from by
                          have h1 := HX.out
                          have h2 := hnl.out
                          rw [List.take_of_length_le (by have := HNl.out; omega)] at h2
                          rw [h2, if_neg (by simp)] at h1
                          exact some_ok h1)
                        clear HX hnl
                        go_wp2_with fail
                        go_ret2
                        exact (POut.ok HX2.out rfl (by have h := hNo.out.below hbr; rw [HNl.out] at h; exact h) (hSj.below hbr) (hKj.andBelow hbr)).after hK0
                · have k1 : ((M.length : Int) == 1) = false := by rw [beq_eq_false_iff_ne]; omega
                  rw [wordOut_join (fun h => p1 h.1)] at HX
                  obtain ⟨O, hOj⟩ : ∃ O, joinP M = O := ⟨_, rfl⟩
                  rw [hOj] at HX hNj hlj
                  clear hOj
                  generalize M.length = mlen at *
                  obtain ⟨og, oc, eo, o1, o2, o3, o4, o5⟩ := id hNj
                  cases eo
                  obtain ⟨n, hn⟩ : ∃ n, O.length = n := ⟨_, rfl⟩
                  have HNl := Lib.hid hn
                  have hNo := Lib.hid hNj
                  have hRo := Lib.hid o5
                  rw [hn] at o1 hlj ⊢
                  clear hn hNj o5
                  have hseH := Lib.hid hEj
                  have hBjH := Lib.hid hBj
                  have hnn : n ≤ 100000 := by omega
                  go_wp2_with fail
                  go_loopg [13, 93] n (fun m p c wr => ∃ k : Nat, m = n - k ∧ k ≤ n ∧ c = .int .i64 k ∧ Below wj.heap.size wj wr ∧ Hid (tooLong (O.take k) = false))
                  case atStart => exact ⟨0, rfl, Nat.zero_le _, rfl, Below.refl _ _, Lib.hid (by simp [tooLong])⟩
                  case round =>
                    clear hBj
                    obtain ⟨k, rfl, hkn, rfl, hbr, hnl⟩ := hrel
                    by_cases hlt : k < n
                    · obtain ⟨x, hx⟩ : ∃ x, O[k]? = some x := ⟨_, List.getElem?_eq_getElem (by have := HNl.out; omega)⟩
                      have HT := Lib.hid (tooLong_take hx hnl.out)
                      obtain ⟨n0, n1, n2, n3, n4⟩ := hRo.out.facts hx
                      have n0 := bSome hbr n0
                      have n1 := bSome hbr n1
                      have n2 := bSome hbr n2
                      have n3 := bSome hbr n3
                      have n4 := bSome hbr n4
                      have hszr := hbr.size
                      have hb2 := hbr.alloc hbr.size (.cells #[Value.int .i64 x.kind, .int .i64 x.n, .int .i64 x.k, .int .i64 x.size, .string (bs x.text)] 82)
                      clear hx
                      by_cases q1 : x.kind = 1
                      · by_cases q2 : 2000 < x.text.length
                        · have HX2 := Lib.hid (show r = .error (101, tk.place) from by
                            have h1 := HX.out
                            rw [if_pos (tooLong_some (k := k + 1) (by rw [HT.out, q1]; simp [q2]))] at h1
                            exact some_err h1)
                          have q3 : decide ((2000 : Int) < ((bs x.text).size : Int)) = true := by rw [decide_eq_true_eq, bs_size]; omega
                          have hse := bSome hbr (hseH.out.env 101 5 (by simp [errVars]))
                          have hcp := bSome hbr (hBjH.out.cell 1 rfl)
                          rw [q1] at n0
                          rw [q1] at hb2
                          clear q1 q2 HX HT
                          have hcp2 := bSome ((Below.refl _ wr).alloc (Nat.le_refl _) (.cells #[Value.int .i64 1, .int .i64 x.n, .int .i64 x.k, .int .i64 x.size, .string (bs x.text)] 82)) hcp
                          have hse2 := bSome ((Below.refl _ wr).alloc (Nat.le_refl _) (.cells #[Value.int .i64 1, .int .i64 x.n, .int .i64 x.k, .int .i64 x.size, .string (bs x.text)] 82)) hse
                          go_upto_region 22 with fail
                          go_region
                          go_wp2_with fail
                          go_ret2
                          have hb4 := bDrew1 (hb2.alloc hb2.size (.cells #[Value.int .i64 tk.place, .iface 303 (.pointer (some (sent 101)))] 69))
                          have hbk := (Blk.new (wr.alloc (.cells #[Value.int .i64 1, .int .i64 x.n, .int .i64 x.k, .int .i64 x.size, .string (bs x.text)] 82)) [Value.int .i64 tk.place, .iface 303 (.pointer (some (sent 101)))] 69).drew
                          rw [World.size_alloc] at hbk
                          exact (POut.bad HX2.out rfl (.none _ _) (Nat.zero_le _) ⟨_, rfl, hbk, by omega⟩ (hSj.below hb4) (hKj.andBelow hb4)).after hK0
                        · have q3 : decide ((2000 : Int) < ((bs x.text).size : Int)) = false := by rw [decide_eq_false_iff_not, bs_size]; omega
                          have HT2 := Lib.hid (show tooLong (O.take (k + 1)) = false by rw [HT.out]; simp [q2])
                          rw [q1] at n0
                          rw [q1] at hb2
                          clear q1 q2 HT
                          go_wp2_with fail
                          go_roundg (n - (k + 1))
                          case measure => omega
                          case rel => exact ⟨k + 1, rfl, by omega, by go_num, hb2, HT2⟩
                      · have q3 : (x.kind == 1) = false := by rw [beq_eq_false_iff_ne]; exact q1
                        have HT2 := Lib.hid (show tooLong (O.take (k + 1)) = false by rw [HT.out]; simp [q1])
                        clear q1 HT
                        go_wp2_with fail
                        go_roundg (n - (k + 1))
                        case measure => omega
                        case rel => exact ⟨k + 1, rfl, by omega, by go_num, hb2, HT2⟩
                    · obtain rfl : k = n := by omega
                      have HX2 := Lib.hid (show r = .ok (O, e2) from by
                        have h1 := HX.out
                        have h2 := hnl.out
                        rw [List.take_of_length_le (by have := HNl.out; omega)] at h2
                        rw [h2, if_neg (by simp)] at h1
                        exact some_ok h1)
                      clear HX hnl
                      go_wp2_with fail
                      go_ret2
                      exact (POut.ok HX2.out rfl (by have h := hNo.out.below hbr; rw [HNl.out] at h; exact h) (hSj.below hbr) (hKj.andBelow hbr)).after hK0
      · have x0 : itemP ts k = false := by simpa using x0
        rw [x0, if_pos rfl] at HP
        rw [x0]
        have HX := Lib.hid (form_code HP.out)
        have HX2 := Lib.hid (show r = .error (if isK ts k [0] = true then 109 else 108, (tkAt ts k).place) from by
          have := HR.out
          rw [HX.out] at this
          exact some_err this)
        clear HP HR HX
        go_wp2_with fail
        refine (pForm_any F hS2 hk sent hE2.env).mono ?_
        rintro e w6 ⟨eb, rfl, hE7, hl7, hb7⟩
        go_wp2_with fail
        go_ret2
        exact (POut.bad HX2.out rfl (.none _ _) (Nat.zero_le _) ⟨eb, rfl, hE7, by omega⟩ (hS2.below hb7) (hK2.andBelow hb7)).after hK0

set_option maxHeartbeats 16000000 in
set_option maxRecDepth 100000 in
theorem pWord_walk1 {b g cap : Nat} {ts : List BTok} {sent : Nat → Addr} (T : PTs cap ts) (f : Nat) (ih : ∀ f' < f, DoesO b g cap ts sent f') (w : World) (i d : Nat) (r : Except (Nat × Nat) (Prog × Nat)) (hd : d ≤ 31) (hi : i < ts.length) (hS : PSt w b g cap ts i d) (hE : EnvB w b sent) (hr : Hid (pWord ts f d i 1 = some r)) :
    Calls Tryz.prog 240 #[.pointer (some ⟨b, 0, none⟩), .int .i64 1] w (POut w b g cap ts d (60000 * (32 - d)) sent r) := by
  have hbl := hS.blt
  have hgl := hS.glt
  have F := T.fix
  have hcap := F.num
  obtain ⟨k0, hk0, hk1, hk2, hk3⟩ := info_parts infoNodes
  have hf4 := tok_f4
  obtain ⟨f, rfl⟩ : ∃ q, f = q + 1 := by
    cases f with
    | zero => have := hr.out; rw [pWord] at this; cases this
    | succ q => exact ⟨q, rfl⟩
  have IH := Lib.hid ih
  clear ih
  have HR := Lib.hid hr.out
  rw [pWord] at HR
  clear hr
  obtain ⟨tk, htk⟩ : ∃ tk, tkAt ts i = tk := ⟨_, rfl⟩
  have htx := F.good.text i
  rw [htk] at HR htx
  cases hq : pWordR ts f d i 1 [] with
  | none =>
    rw [hq] at HR
    exact (go_none HR.out).elim
  | some rr =>
    rw [hq] at HR
    have HQ := Lib.hid hq
    clear hq
    go_enter Tryz.func240, Tryz.ntmps240
    go_wp2_with fail
    refine (pNow_any F hS hi).mono ?_
    rintro e w1 ⟨rfl, hb1⟩
    rw [htk]
    unfold BTok.cells
    have hB2 := Blk.new w1 [Value.int .i64 tk.kind, .int .i64 tk.place, .int .i64 tk.num, .string (bs tk.text), .bool tk.glue] 107
    have hb2 := bNext hb1 ((Below.refl _ w1).alloc (Nat.le_refl _) (.cells #[Value.int .i64 tk.kind, .int .i64 tk.place, .int .i64 tk.num, .string (bs tk.text), .bool tk.glue] 107))
    have hS2 := hS.below hb2
    have hK2 := (Kept.refl (At b) w).andBelow hb2
    have hE2 := hE.kept hK2
    have hsz1 := hb1.size
    clear hS hb1 hb2 htk hE
    go_upto_region 2 with fail
    refine wp_world (fun w9 => Blk w9 w1.heap.size [Value.int .i64 tk.kind, .int .i64 tk.place, .int .i64 tk.num, .string (bs tk.text), .bool tk.glue] ∧ PSt w9 b g cap ts i d ∧ Kept (At b) w w9 ∧ EnvB w9 b sent) ⟨hB2, hS2, hK2, hE2⟩ ?_
    clear hB2 hS2 hK2 hE2
    intro wz ⟨hB2, hS2, hK0, hE⟩
    have htb := hB2.lt
    obtain ⟨tb, htbb⟩ : ∃ tb, w1.heap.size = tb := ⟨_, rfl⟩
    rw [htbb] at htb hsz1 hB2 ⊢
    have hsz0 := hK0.size
    have hbz : b < wz.heap.size := by omega
    have hgz := hS2.glt
    clear htbb hgl
    go_wp2_with fail
    go_loopg [7, 8, 9, 10] (ts.length - i) (fun m v t x er wr => ∃ (k fk : Nat) (L : List Prog), m = ts.length - k ∧ k < ts.length ∧ fk ≤ f ∧ L.length ≤ k ∧ L.flatten.length ≤ 6 * k ∧ txP L.flatten ≤ 30000 * k ∧ Hid (∀ l ∈ L, 0 < l.length) ∧ Kept (At b) wz wr ∧ PSt wr b g cap ts k d ∧ KOwn wr wz.heap.size b v L ∧ Blk wr tb [Value.int .i64 tk.kind, .int .i64 tk.place, .int .i64 tk.num, .string (bs tk.text), .bool tk.glue] ∧ Hid (pWordR ts fk d k 1 L = some rr))
    case atStart => exact ⟨i, f, [], rfl, hi, Nat.le_refl _, by simp, by simp, by simp [txP_nil], Lib.hid (fun _ h => nomatch h), Kept.refl _ _, hS2, KOwn.nil _ _ _, hB2, HQ⟩
    case round =>
      clear hS2 HQ hi hB2
      obtain ⟨k, fk, L, rfl, hk, hfk, hL1, hL2, hL3, hL4, hK, hS, hO, hB, hr⟩ := hrel
      obtain ⟨fk, rfl⟩ : ∃ q, fk = q + 1 := by
        cases fk with
        | zero => have := hr.out; rw [pWordR] at this; cases this
        | succ q => exact ⟨q, rfl⟩
      obtain ⟨ao, acap, rfl⟩ := hO.form
      have HP := Lib.hid hr.out
      rw [pWordR] at HP
      clear hr
      go_wp2_with fail
      refine (pItem_any F hS hk).mono ?_
      rintro e w2 ⟨rfl, hb2⟩
      have hS2 := hS.below hb2
      have hO2 := hO.below hbz hb2
      have hB2 := hB.below hb2
      have hK2 := hK.andBelow hb2
      have hE2 := hE.kept hK2
      have hsz2 := hK2.size
      clear hS hO hK hb2 hB
      by_cases x0 : itemP ts k = true
      · rw [if_neg (by rw [x0]; simp)] at HP
        rw [x0]
        go_wp2_with fail
        refine (pNow_any F hS2 hk).mono ?_
        rintro e w3 ⟨rfl, hb3⟩
        unfold BTok.cells
        have hT4 := Blk.new w3 [Value.int .i64 (tkAt ts k).kind, .int .i64 (tkAt ts k).place, .int .i64 (tkAt ts k).num, .string (bs (tkAt ts k).text), .bool (tkAt ts k).glue] 107
        have hb4 := bNext hb3 ((Below.refl _ w3).alloc (Nat.le_refl _) (.cells #[Value.int .i64 (tkAt ts k).kind, .int .i64 (tkAt ts k).place, .int .i64 (tkAt ts k).num, .string (bs (tkAt ts k).text), .bool (tkAt ts k).glue] 107))
        have hS4 := hS2.below hb4
        have hO4 := hO2.below hbz hb4
        have hB4 := hB2.below hb4
        have hK4 := hK2.andBelow hb4
        have hE4 := hE.kept hK4
        have hsz4 := hK4.size
        have hbt : b < w3.heap.size := Nat.lt_of_lt_of_le (by omega) hb3.size
        clear hS2 hO2 hB2 hK2 hE2 hb3 hb4
        cases hq : pOne ts fk d k with
        | none =>
          rw [hq] at HP
          exact (go_none HP.out).elim
        | some rc =>
          rw [hq] at HP
          have HD := Lib.hid (IH.out fk (by omega) _ k d rc hd hk x0 hS4 hE4 (Lib.hid hq))
          clear hS4 hE4
          go_wp2_with fail
          refine HD.out.mono ?_
          cases rc with
          | error e0 =>
            obtain ⟨c0, p0⟩ := e0
            have HX := Lib.hid (some_err HP.out)
            have HX2 := Lib.hid (show r = .error (c0, p0) from by
              have := HR.out
              rw [HX.out] at this
              exact some_err this)
            clear HP hq HD HR HX
            rintro e w5 ⟨hK5, v, u, j', l0, rfl, h0, -, ⟨eb, rfl, q2, q3⟩, hS5⟩
            obtain ⟨va, vc, rfl⟩ := h0.form
            go_wp2_with fail
            go_ret2
            exact (POut.bad HX2.out rfl (.none _ _) (Nat.zero_le _) ⟨eb, rfl, q2, by omega⟩ hS5 (hK4.same hK5)).after hK0
          | ok q =>
            obtain ⟨x, e2⟩ := q
            obtain ⟨z1, z2, z3, z4, z5⟩ := one_facts T hk x0 hq
            rintro e w5 ⟨hK5, v5, rfl, hN, hS5⟩
            have hK6 := hK4.same hK5
            have hB5 := hB4.kept hK5 (fun e => by unfold At at e; omega)
            have hT5 := hT4.kept hK5 (fun e => by unfold At at e; omega)
            have hO5 := hO4.kept hbz hK5
            have hsz5 := hK6.size
            clear hO4 hK4 hK5 hB4 hT4 HD x0
            have HP2 := Lib.hid (show (if isK ts e2 [15] = true then pWordR ts fk d (skP ts e2) 1 (L ++ [aliveP (tkAt ts k) x]) else if itemP ts e2 = false ∨ (tkAt ts e2).glue = false then pOk (L ++ [aliveP (tkAt ts k) x]) e2 else pWordR ts fk d e2 1 (L ++ [aliveP (tkAt ts k) x])) = some rr from HP.out)
            have htk := F.good.text k
            have hal := aliveP_len (tkAt ts k) x htk
            have HA := Lib.hid (pAlive_any (tkAt ts k) x v5 b w5 (by omega) htk hN (by omega))
            unfold BTok.cells at HA
            have tc0 := hT5.cell 0 rfl
            have tc1 := hT5.cell 1 rfl
            have tc2 := hT5.cell 2 rfl
            have tc3 := hT5.cell 3 rfl
            have tc4 := hT5.cell 4 rfl
            have tf0 := hT5.free 0
            have tf1 := hT5.free 1
            have tf2 := hT5.free 2
            have tf3 := hT5.free 3
            have tf4 := hT5.free 4
            obtain ⟨ga, gc0, rfl, -⟩ := id hN
            go_wp2_with fail
            refine HA.out.mono ?_
            rintro e w7 ⟨v7, rfl, hNx, hb7⟩
            have hS7 := hS5.below hb7
            have hO7 := hO5.below hbz hb7
            have hB7 := hB5.below hb7
            have hKx := hK6.andBelow hb7
            have hsx := hKx.size
            clear hS5 hO5 hB5 hK6 hb7 HA tc0 tc1 tc2 tc3 tc4 tf0 tf1 tf2 tf3 tf4 hT5 HP hq hN
            have z6 := alive_pos (tkAt ts k) x
            obtain ⟨y, hy⟩ : ∃ y, aliveP (tkAt ts k) x = y := ⟨_, rfl⟩
            rw [hy] at HP2 hal hNx z6
            have hM1 : (L ++ [y]).length ≤ e2 := by rw [List.length_append, List.length_cons, List.length_nil]; omega
            have hM2 : (L ++ [y]).flatten.length ≤ 6 * e2 := by rw [flat_snoc, List.length_append]; omega
            have hM3 : txP (L ++ [y]).flatten ≤ 30000 * e2 := by rw [flat_snoc, txP_append]; omega
            have hM4 := Lib.hid (snoc_all hL4.out z6)
            obtain ⟨gc, cc, rfl, -⟩ := id hNx
            clear hy hal
            have hBx := hB7
            clear hB7
            obtain ⟨us, u1, u2, u3⟩ := hO7
            have hOA : ∀ o, (w7.alloc o).ownsRow wz.heap.size 23 1 _ L.length us := fun o => ownsRow_kept u2 (Kept.ofBelow (S := Nowhere) ((Below.refl _ w7).alloc (Nat.le_refl _) o)) (fun _ _ _ e => e)
            go_wp2_with (at_builtin; refine wpList_append_own _ rfl _ _ 39 rfl wz.heap.size 23 k0 _ 1 24 Tryz.underlying39 hk0 hk1 hk2 hk3 rfl (by decide) _ _ _ rfl (hOA _) ⟨w7.heap.size, 0, none⟩ 1 1 [.slice (some ⟨gc, 0, none⟩) y.length cc] rfl rfl (cells_new (by simp)) (by intro u hu; simp at hu; subst hu; rfl) (by unfold maxLen; omega) (by omega) (by simp; omega) ?_; intro v6 w6 hown' hgrow _)
            obtain ⟨hO6, hb6⟩ := KOwn.grown hsx u1 u2 u3 hNx hown' hgrow
            have hS6 := hS7.belowB hb6 hbz hgz
            have hK6 := hKx.belowB hb6 (Nat.le_refl _)
            have hB6 := hBx.of_heap (hb6.block tb htb)
            have hsz6 := hK6.size
            obtain ⟨M, hM⟩ : ∃ M, L ++ [y] = M := ⟨_, rfl⟩
            rw [hM] at HP2 hM1 hM2 hM3 hM4 hO6
            have hM0 : 0 < M.length := by rw [← hM]; simp
            clear hM hS7 hKx hBx hb6 hown' hgrow hOA u1 u2 u3 hNx
            obtain ⟨mo, mcap, rfl⟩ := hO6.form
            go_wp2_with fail
            refine (pIs_any F (hS6.alloc _) z2 [15] _ _ (by decide) (show Blk _ _ [Value.int .i64 15] from Blk.new w6 _ _)).mono ?_
            rintro e w7 ⟨rfl, hb7⟩
            have hb8 := bNext ((Below.refl _ w6).alloc (Nat.le_refl _) _) hb7
            have hS7 := hS6.below hb8
            have hO7 := hO6.below hbz hb8
            have hB7 := hB6.below hb8
            have hK7 := hK6.andBelow hb8
            have hsz7 := hK7.size
            clear hS6 hO6 hB6 hK6 hb7 hb8
            by_cases x1 : isK ts e2 [15] = true
            · rw [if_pos x1] at HP2
              rw [x1]
              have hj := (skP_le (ts := ts) z2)
              obtain ⟨j, hjj⟩ : ∃ j, skP ts e2 = j := ⟨_, rfl⟩
              rw [hjj] at HP2 hj
              clear x1
              go_wp2_with fail
              refine (pSkip_any F hS7 z2).mono ?_
              rintro e w8 ⟨rfl, hS8, hK8⟩
              rw [hjj] at hS8
              have hO8 := hO7.kept hbz hK8
              have hB8 := hB7.kept hK8 (fun e => by unfold At at e; omega)
              have hK9 := hK7.same hK8
              go_wp2_with fail
              go_roundg (ts.length - j)
              case measure => omega
              case rel => exact ⟨j, fk, M, rfl, hj.2, by omega, by omega, by omega, by omega, hM4, hK9, hS8, hO8, hB8, HP2⟩
            · have x1 : isK ts e2 [15] = false := by simpa using x1
              rw [x1, if_neg (by simp)] at HP2
              rw [x1]
              go_wp2_with fail
              refine (pItem_any F hS7 z2).mono ?_
              rintro e w8 ⟨rfl, hb8⟩
              have hS8 := hS7.below hb8
              have hO8 := hO7.below hbz hb8
              have hB8 := hB7.below hb8
              have hK8 := hK7.andBelow hb8
              have hsz8 := hK8.size
              clear hS7 hO7 hB7 hK7 hb8 x1
              by_cases x2 : itemP ts e2 = true
              · rw [x2] at HP2 ⊢
                go_wp2_with fail
                refine (pNow_any F hS8 z2).mono ?_
                rintro e w9 ⟨rfl, hb9⟩
                unfold BTok.cells
                have hS9 := hS8.below hb9
                have hO9 := hO8.below hbz hb9
                have hB9 := hB8.below hb9
                have hK9 := hK8.andBelow hb9
                have hsz9 := hK9.size
                clear hS8 hO8 hB8 hK8 hb9 x2
                by_cases x3 : (tkAt ts e2).glue = true
                · rw [x3] at HP2 ⊢
                  rw [if_neg (by simp)] at HP2
                  go_wp2_with fail
                  go_roundg (ts.length - e2)
                  case measure => omega
                  case rel => exact ⟨e2, fk, M, rfl, z2, by omega, by omega, by omega, by omega, hM4, hK9, hS9, hO9, hB9, HP2⟩
                · have x3 : (tkAt ts e2).glue = false := by simpa using x3
                  rw [x3] at HP2 ⊢
                  rw [if_pos (.inr rfl)] at HP2
                  have HRR := Lib.hid (some_ok HP2.out)
                  have HX := Lib.hid (show (if tooLong (joinP M) = true then pErr 101 tk.place else pOk (joinP M) e2) = some r from by
                    have := HR.out
                    rw [HRR.out] at this
                    rw [← wordOut_live tk M]
                    exact this)
                  have hlj := len_joinP M
                  clear HP2 HR HRR
                  go_wp2_with fail
                  refine (pJoin_any M b _ w9 (by omega) hM0 (by omega) (by omega) (by omega) (hO9.ksl hbz) hM4).mono ?_
                  rintro e wj ⟨vj, rfl, hNj, hbj⟩
                  have hSj := hS9.below hbj
                  have hBj := hB9.below hbj
                  have hKj := hK9.andBelow hbj
                  have hEj := hE.kept hKj
                  have hszj := hKj.size
                  obtain ⟨O, hOj⟩ : ∃ O, joinP M = O := ⟨_, rfl⟩
                  rw [hOj] at HX hNj hlj
                  clear hOj hS9 hO9 hB9 hK9 hbj
                  obtain ⟨og, oc, eo, o1, o2, o3, o4, o5⟩ := id hNj
                  cases eo
                  obtain ⟨n, hn⟩ : ∃ n, O.length = n := ⟨_, rfl⟩
                  have HNl := Lib.hid hn
                  have hNo := Lib.hid hNj
                  have hRo := Lib.hid o5
                  rw [hn] at o1 hlj ⊢
                  clear hn hNj o5
                  have hseH := Lib.hid hEj
                  have hBjH := Lib.hid hBj
                  have hnn : n ≤ 100000 := by omega
                  go_wp2_with fail
                  go_loopg [13, 93] n (fun m p c wr => ∃ k : Nat, m = n - k ∧ k ≤ n ∧ c = .int .i64 k ∧ Below wj.heap.size wj wr ∧ Hid (tooLong (O.take k) = false))
                  case atStart => exact ⟨0, rfl, Nat.zero_le _, rfl, Below.refl _ _, Lib.hid (by simp [tooLong])⟩
                  case round =>
                    clear hBj
                    obtain ⟨k, rfl, hkn, rfl, hbr, hnl⟩ := hrel
                    by_cases hlt : k < n
                    · obtain ⟨x, hx⟩ : ∃ x, O[k]? = some x := ⟨_, List.getElem?_eq_getElem (by have := HNl.out; omega)⟩
                      have HT := Lib.hid (tooLong_take hx hnl.out)
                      obtain ⟨n0, n1, n2, n3, n4⟩ := hRo.out.facts hx
                      have n0 := bSome hbr n0
                      have n1 := bSome hbr n1
                      have n2 := bSome hbr n2
                      have n3 := bSome hbr n3
                      have n4 := bSome hbr n4
                      have hszr := hbr.size
                      have hb2 := hbr.alloc hbr.size (.cells #[Value.int .i64 x.kind, .int .i64 x.n, .int .i64 x.k, .int .i64 x.size, .string (bs x.text)] 82)
                      clear hx
                      by_cases q1 : x.kind = 1
                      · by_cases q2 : 2000 < x.text.length
                        · have HX2 := Lib.hid (show r = .error (101, tk.place) from by
                            have h1 := HX.out
                            rw [if_pos (tooLong_some (k := k + 1) (by rw [HT.out, q1]; simp [q2]))] at h1
                            exact some_err h1)
                          have q3 : decide ((2000 : Int) < ((bs x.text).size : Int)) = true := by rw [decide_eq_true_eq, bs_size]; omega
                          have hse := bSome hbr (hseH.out.env 101 5 (by simp [errVars]))
                          have hcp := bSome hbr (hBjH.out.cell 1 rfl)
                          rw [q1] at n0
                          rw [q1] at hb2
                          clear q1 q2 HX HT
                          have hcp2 := bSome ((Below.refl _ wr).alloc (Nat.le_refl _) (.cells #[Value.int .i64 1, .int .i64 x.n, .int .i64 x.k, .int .i64 x.size, .string (bs x.text)] 82)) hcp
                          have hse2 := bSome ((Below.refl _ wr).alloc (Nat.le_refl _) (.cells #[Value.int .i64 1, .int .i64 x.n, .int .i64 x.k, .int .i64 x.size, .string (bs x.text)] 82)) hse
                          go_upto_region 22 with fail
                          go_region
                          go_wp2_with fail
                          go_ret2
                          have hb4 := bDrew1 (hb2.alloc hb2.size (.cells #[Value.int .i64 tk.place, .iface 303 (.pointer (some (sent 101)))] 69))
                          have hbk := (Blk.new (wr.alloc (.cells #[Value.int .i64 1, .int .i64 x.n, .int .i64 x.k, .int .i64 x.size, .string (bs x.text)] 82)) [Value.int .i64 tk.place, .iface 303 (.pointer (some (sent 101)))] 69).drew
                          rw [World.size_alloc] at hbk
                          exact (POut.bad HX2.out rfl (.none _ _) (Nat.zero_le _) ⟨_, rfl, hbk, by omega⟩ (hSj.below hb4) (hKj.andBelow hb4)).after hK0
                        · have q3 : decide ((2000 : Int) < ((bs x.text).size : Int)) = false := by rw [decide_eq_false_iff_not, bs_size]; omega
                          have HT2 := Lib.hid (show tooLong (O.take (k + 1)) = false by rw [HT.out]; simp [q2])
                          rw [q1] at n0
                          rw [q1] at hb2
                          clear q1 q2 HT
                          go_wp2_with fail
                          go_roundg (n - (k + 1))
                          case measure => omega
                          case rel => exact ⟨k + 1, rfl, by omega, by go_num, hb2, HT2⟩
                      · have q3 : (x.kind == 1) = false := by rw [beq_eq_false_iff_ne]; exact q1
                        have HT2 := Lib.hid (show tooLong (O.take (k + 1)) = false by rw [HT.out]; simp [q1])
                        clear q1 HT
                        go_wp2_with fail
                        go_roundg (n - (k + 1))
                        case measure => omega
                        case rel => exact ⟨k + 1, rfl, by omega, by go_num, hb2, HT2⟩
                    · obtain rfl : k = n := by omega
                      have HX2 := Lib.hid (show r = .ok (O, e2) from by
                        have h1 := HX.out
                        have h2 := hnl.out
                        rw [List.take_of_length_le (by have := HNl.out; omega)] at h2
                        rw [h2, if_neg (by simp)] at h1
                        exact some_ok h1)
                      clear HX hnl
                      go_wp2_with fail
                      go_ret2
                      exact (POut.ok HX2.out rfl (by have h := hNo.out.below hbr; rw [HNl.out] at h; exact h) (hSj.below hbr) (hKj.andBelow hbr)).after hK0
              · have x2 : itemP ts e2 = false := by simpa using x2
                rw [x2] at HP2 ⊢
                rw [if_pos (.inl rfl)] at HP2
                have HRR := Lib.hid (some_ok HP2.out)
                have HX := Lib.hid (show (if tooLong (joinP M) = true then pErr 101 tk.place else pOk (joinP M) e2) = some r from by
                  have := HR.out
                  rw [HRR.out] at this
                  rw [← wordOut_live tk M]
                  exact this)
                have hlj := len_joinP M
                clear HP2 HR HRR
                go_wp2_with fail
                refine (pJoin_any M b _ w8 (by omega) hM0 (by omega) (by omega) (by omega) (hO8.ksl hbz) hM4).mono ?_
                rintro e wj ⟨vj, rfl, hNj, hbj⟩
                have hSj := hS8.below hbj
                have hBj := hB8.below hbj
                have hKj := hK8.andBelow hbj
                have hEj := hE.kept hKj
                have hszj := hKj.size
                obtain ⟨O, hOj⟩ : ∃ O, joinP M = O := ⟨_, rfl⟩
                rw [hOj] at HX hNj hlj
                clear hOj hS8 hO8 hB8 hK8 hbj
                obtain ⟨og, oc, eo, o1, o2, o3, o4, o5⟩ := id hNj
                cases eo
                obtain ⟨n, hn⟩ : ∃ n, O.length = n := ⟨_, rfl⟩
                have HNl := Lib.hid hn
                have hNo := Lib.hid hNj
                have hRo := Lib.hid o5
                rw [hn] at o1 hlj ⊢
                clear hn hNj o5
                have hseH := Lib.hid hEj
                have hBjH := Lib.hid hBj
                have hnn : n ≤ 100000 := by omega
                go_wp2_with fail
                go_loopg [13, 93] n (fun m p c wr => ∃ k : Nat, m = n - k ∧ k ≤ n ∧ c = .int .i64 k ∧ Below wj.heap.size wj wr ∧ Hid (tooLong (O.take k) = false))
                case atStart => exact ⟨0, rfl, Nat.zero_le _, rfl, Below.refl _ _, Lib.hid (by simp [tooLong])⟩
                case round =>
                  clear hBj
                  obtain ⟨k, rfl, hkn, rfl, hbr, hnl⟩ := hrel
                  by_cases hlt : k < n
                  · obtain ⟨x, hx⟩ : ∃ x, O[k]? = some x := ⟨_, List.getElem?_eq_getElem (by have := HNl.out; omega)⟩
                    have HT := Lib.hid (tooLong_take hx hnl.out)
                    obtain ⟨n0, n1, n2, n3, n4⟩ := hRo.out.facts hx
                    have n0 := bSome hbr n0
                    have n1 := bSome hbr n1
                    have n2 := bSome hbr n2
                    have n3 := bSome hbr n3
                    have n4 := bSome hbr n4
                    have hszr := hbr.size
                    have hb2 := hbr.alloc hbr.size (.cells #[Value.int .i64 x.kind, .int .i64 x.n, .int .i64 x.k, .int .i64 x.size, .string (bs x.text)] 82)
                    clear hx
                    by_cases q1 : x.kind = 1
                    · by_cases q2 : 2000 < x.text.length
                      · have HX2 := Lib.hid (show r = .error (101, tk.place) from by
                          have h1 := HX.out
                          rw [if_pos (tooLong_some (k := k + 1) (by rw [HT.out, q1]; simp [q2]))] at h1
                          exact some_err h1)
                        have q3 : decide ((2000 : Int) < ((bs x.text).size : Int)) = true := by rw [decide_eq_true_eq, bs_size]; omega
                        have hse := bSome hbr (hseH.out.env 101 5 (by simp [errVars]))
                        have hcp := bSome hbr (hBjH.out.cell 1 rfl)
                        rw [q1] at n0
                        rw [q1] at hb2
                        clear q1 q2 HX HT
                        have hcp2 := bSome ((Below.refl _ wr).alloc (Nat.le_refl _) (.cells #[Value.int .i64 1, .int .i64 x.n, .int .i64 x.k, .int .i64 x.size, .string (bs x.text)] 82)) hcp
                        have hse2 := bSome ((Below.refl _ wr).alloc (Nat.le_refl _) (.cells #[Value.int .i64 1, .int .i64 x.n, .int .i64 x.k, .int .i64 x.size, .string (bs x.text)] 82)) hse
                        go_upto_region 22 with fail
                        go_region
                        go_wp2_with fail
                        go_ret2
                        have hb4 := bDrew1 (hb2.alloc hb2.size (.cells #[Value.int .i64 tk.place, .iface 303 (.pointer (some (sent 101)))] 69))
                        have hbk := (Blk.new (wr.alloc (.cells #[Value.int .i64 1, .int .i64 x.n, .int .i64 x.k, .int .i64 x.size, .string (bs x.text)] 82)) [Value.int .i64 tk.place, .iface 303 (.pointer (some (sent 101)))] 69).drew
                        rw [World.size_alloc] at hbk
                        exact (POut.bad HX2.out rfl (.none _ _) (Nat.zero_le _) ⟨_, rfl, hbk, by omega⟩ (hSj.below hb4) (hKj.andBelow hb4)).after hK0
                      · have q3 : decide ((2000 : Int) < ((bs x.text).size : Int)) = false := by rw [decide_eq_false_iff_not, bs_size]; omega
                        have HT2 := Lib.hid (show tooLong (O.take (k + 1)) = false by rw [HT.out]; simp [q2])
                        rw [q1] at n0
                        rw [q1] at hb2
                        clear q1 q2 HT
                        go_wp2_with fail
                        go_roundg (n - (k + 1))
                        case measure => omega
                        case rel => exact ⟨k + 1, rfl, by omega, by go_num, hb2, HT2⟩
                    · have q3 : (x.kind == 1) = false := by rw [beq_eq_false_iff_ne]; exact q1
                      have HT2 := Lib.hid (show tooLong (O.take (k + 1)) = false by rw [HT.out]; simp [q1])
                      clear q1 HT
                      go_wp2_with fail
                      go_roundg (n - (k + 1))
                      case measure => omega
                      case rel => exact ⟨k + 1, rfl, by omega, by go_num, hb2, HT2⟩
                  · obtain rfl : k = n := by omega
                    have HX2 := Lib.hid (show r = .ok (O, e2) from by
                      have h1 := HX.out
                      have h2 := hnl.out
                      rw [List.take_of_length_le (by have := HNl.out; omega)] at h2
                      rw [h2, if_neg (by simp)] at h1
                      exact some_ok h1)
                    clear HX hnl
                    go_wp2_with fail
                    go_ret2
                    exact (POut.ok HX2.out rfl (by have h := hNo.out.below hbr; rw [HNl.out] at h; exact h) (hSj.below hbr) (hKj.andBelow hbr)).after hK0
      · have x0 : itemP ts k = false := by simpa using x0
        rw [x0, if_pos rfl] at HP
        rw [x0]
        have HX := Lib.hid (form_code HP.out)
        have HX2 := Lib.hid (show r = .error (if isK ts k [0] = true then 109 else 108, (tkAt ts k).place) from by
          have := HR.out
          rw [HX.out] at this
          exact some_err this)
        clear HP HR HX
        go_wp2_with fail
        refine (pForm_any F hS2 hk sent hE2.env).mono ?_
        rintro e w6 ⟨eb, rfl, hE7, hl7, hb7⟩
        go_wp2_with fail
        go_ret2
        exact (POut.bad HX2.out rfl (.none _ _) (Nat.zero_le _) ⟨eb, rfl, hE7, by omega⟩ (hS2.below hb7) (hK2.andBelow hb7)).after hK0

theorem pWord_walk {b g cap : Nat} {ts : List BTok} {sent : Nat → Addr} (T : PTs cap ts) (f : Nat) (ih : ∀ f' < f, DoesO b g cap ts sent f') : DoesW b g cap ts sent f := by
  intro w i d how r hd hh hi hS hE hr
  have h : how = 0 ∨ how = 1 := by omega
  rcases h with rfl | rfl
  · exact pWord_walk0 T f ih w i d r hd hi hS hE hr
  · exact pWord_walk1 T f ih w i d r hd hi hS hE hr

end Go.Proofs.YtepebnblbheegaaGreatDoor
