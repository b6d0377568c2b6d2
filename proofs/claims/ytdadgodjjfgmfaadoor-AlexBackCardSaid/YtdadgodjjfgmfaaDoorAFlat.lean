/- patoislaw10.same and flat. -/
import Derived.Test.YtdadgodjjfgmfaaDoorAPrint
namespace Go.Proofs.YtdadgodjjfgmfaaDoor
open Go Go.RowKit

set_option maxHeartbeats 8000000 in
set_option maxRecDepth 100000 in
theorem aSame_any (va vb : Value) (P Q : List APart) (w : World) (hA : PSl w va P) (hB : PSl w vb Q) (hk : Hid (P.map akey = Q.map akey)) :
    Calls Tryd.prog 43 #[va, vb] w fun e w' => e = .returned (.bool true) ∧ Below w.heap.size w w' := by
  obtain ⟨ao, ca, rfl, ha1, ha2, ha3⟩ := hA
  obtain ⟨bo, cb, rfl, hb1, hb2, hb3⟩ := hB
  have hlen : P.length = Q.length := by have := congrArg List.length hk.out; simpa using this
  obtain ⟨n, hn⟩ : ∃ n, P.length = n := ⟨_, rfl⟩
  have HNP := Lib.hid hn
  have HNQ := Lib.hid (hlen.symm.trans hn)
  rw [← hlen]
  rw [← hlen] at hb1 hb3
  rw [hn] at ha1 ha3 hb1 hb3 ⊢
  have hnb : n ≤ 9223372036854775807 := by unfold maxLen at ha2; omega
  have HA3 := Lib.hid ha3
  have HB3 := Lib.hid hb3
  clear ha3 hb3 hlen hn
  go_enter Tryd.func43, Tryd.ntmps43
  go_wp2_with fail
  go_loopg [5] n (fun m x w5 => ∃ k : Nat, m = n - k ∧ k ≤ n ∧ x = .int .i64 k ∧ Below w.heap.size w w5)
  case atStart => exact ⟨0, rfl, Nat.zero_le _, rfl, Below.refl _ _⟩
  case round =>
    obtain ⟨k, rfl, hkn, rfl, hb⟩ := hrel
    by_cases hlt : k < n
    · obtain ⟨ga, rfl, _, hX⟩ := HA3.out (by omega)
      obtain ⟨gb, rfl, _, hY⟩ := HB3.out (by omega)
      obtain ⟨a, ha⟩ : ∃ a, P[k]? = some a := ⟨_, List.getElem?_eq_getElem (by have := HNP.out; omega)⟩
      obtain ⟨b, hbq⟩ : ∃ b, Q[k]? = some b := ⟨_, List.getElem?_eq_getElem (by have := HNQ.out; omega)⟩
      have he : akey a = akey b := by
        have h1 := congrArg (fun l => l[k]?) hk.out
        simp only [List.getElem?_map, ha, hbq, Option.map_some, Option.some.injEq] at h1
        exact h1
      unfold akey at he
      simp only [Prod.mk.injEq] at he
      obtain ⟨e1, e2, e3, e4⟩ := he
      obtain ⟨x0, x1, x2, x3, x4⟩ := (hX.below hb).facts k a ha
      obtain ⟨y0, y1, y2, y3, y4⟩ := (hY.below hb).facts k b hbq
      rw [← e1] at y0
      rw [← e2] at y2
      rw [← e3] at y3
      rw [← e4] at y4
      have g0 := cell_regrown x0
      have g2 := cell_regrown x2
      have g3 := cell_regrown x3
      have g4 := cell_regrown x4
      have h0 := cell_regrown y0
      have h2 := cell_regrown y2
      have h3 := cell_regrown y3
      have h4 := cell_regrown y4
      clear ha hbq hX hY e1 e2 e3 e4 x1 y1
      generalize bs a.text = bt at *
      go_upto_region 6 with fail
      refine wp_region_quiet_below (by kernel_rfl) (by kernel_rfl) ?_
      repeat (go_big_quiet_step (fail))
      refine wpQuiet_nil ?_
      intro w3 hw'
      have hb : Below wr.heap.size wr w3 := below_of_regrown hw'
      clear hw'
      have hB3 := bNext ‹Below w.heap.size w wr› hb
      go_wp2_with fail
      go_roundg (n - (k + 1))
      case measure => omega
      case rel => exact ⟨k + 1, rfl, by omega, by go_num, hB3⟩
    · go_wp2_with fail
      go_ret
      exact ⟨rfl, hb⟩

theorem dead_in : ∀ (P : List APart) (k : Nat) (p : APart), P[k]? = some p → p.text.length ≤ (deadText P).length
  | [], k, p, h => by simp at h
  | q :: P, 0, p, h => by
    cases h
    rw [deadText, List.length_append]
    omega
  | q :: P, k + 1, p, h => by
    have := dead_in P k p (by simpa using h)
    rw [deadText, List.length_append]
    omega

/-- A word's parts, neighbouring texts of one kind as one, empty ones left out. -/
def pushA (acc : List APart) (p : APart) : List APart :=
  if (p.kind = 1 ∨ p.kind = 2) ∧ p.text = [] then acc
  else match acc.getLast? with
    | none => acc ++ [p]
    | some x => if (p.kind = 1 ∨ p.kind = 2) ∧ x.kind = p.kind then acc.dropLast ++ [{ x with text := x.text ++ p.text }] else acc ++ [p]
def flatA (P : List APart) : List APart := P.foldl pushA []
theorem pushA_key (acc : List APart) (p : APart) : (pushA acc p).map akey = pushK (acc.map akey) (akey p) := by
  unfold pushA pushK
  by_cases h0 : (p.kind = 1 ∨ p.kind = 2) ∧ p.text = []
  · rw [if_pos h0, if_pos (by exact h0)]
  · rw [if_neg h0, if_neg (by exact h0), List.getLast?_map]
    cases hq : acc.getLast? with
    | none => simp
    | some x =>
      simp only [Option.map_some]
      obtain ⟨Q, rfl⟩ := List.getLast?_eq_some_iff.1 hq
      by_cases h1 : (p.kind = 1 ∨ p.kind = 2) ∧ x.kind = p.kind
      · rw [if_pos h1, if_pos (by exact h1)]
        simp [akey]
      · rw [if_neg h1, if_neg (by exact h1)]
        simp
theorem flatA_key (P : List APart) : (flatA P).map akey = foldK [] P := by
  unfold flatA foldK
  have : ∀ (P acc : List APart), (P.foldl pushA acc).map akey = (P.map akey).foldl pushK (acc.map akey) := by
    intro P
    induction P with
    | nil => intro acc; rfl
    | cons p P ih => intro acc; rw [List.foldl_cons, ih, pushA_key]; rfl
  exact this P []
theorem flatA_take (P : List APart) (k : Nat) (p : APart) (h : P[k]? = some p) : flatA (P.take (k + 1)) = pushA (flatA (P.take k)) p := by
  obtain ⟨hk, e⟩ := List.getElem?_eq_some_iff.1 h
  rw [List.take_succ_eq_append_getElem hk, e]
  simp [flatA]
/-- How much there is in it. -/
theorem pushA_small (acc : List APart) (p : APart) (n m : Nat) (h : acc.length ≤ n ∧ ∀ x ∈ acc, x.text.length ≤ m) : (pushA acc p).length ≤ n + 1 ∧ ∀ x ∈ pushA acc p, x.text.length ≤ m + p.text.length := by
  have hnew : (acc ++ [p]).length ≤ n + 1 ∧ ∀ x ∈ acc ++ [p], x.text.length ≤ m + p.text.length := by
    refine ⟨by simp; omega, fun x hx => ?_⟩
    rcases List.mem_append.1 hx with hx | hx
    · have := h.2 x hx; omega
    · rw [List.mem_singleton] at hx; subst hx; omega
  unfold pushA
  split
  · exact ⟨by omega, fun x hx => by have := h.2 x hx; omega⟩
  · split
    · exact hnew
    · rename_i x hq
      split
      · obtain ⟨Q, rfl⟩ := List.getLast?_eq_some_iff.1 hq
        rw [List.dropLast_concat]
        refine ⟨by have := h.1; simp at this ⊢; omega, fun y hy => ?_⟩
        rcases List.mem_append.1 hy with hy | hy
        · have := h.2 y (by simp [hy]); omega
        · rw [List.mem_singleton] at hy
          subst hy
          have := h.2 x (by simp)
          show (x.text ++ p.text).length ≤ _
          rw [List.length_append]
          omega
      · exact hnew
theorem flatA_small (P : List APart) (k : Nat) (hk : k ≤ P.length) : (flatA (P.take k)).length ≤ k ∧ ∀ x ∈ flatA (P.take k), x.text.length ≤ (deadText P).length := by
  have : ∀ k, k ≤ P.length → (flatA (P.take k)).length ≤ k ∧ ∀ x ∈ flatA (P.take k), x.text.length ≤ (deadText (P.take k)).length := by
    intro k
    induction k with
    | zero => intro _; simp [flatA]
    | succ k ih =>
      intro hk
      obtain ⟨p, hp⟩ : ∃ p, P[k]? = some p := ⟨_, List.getElem?_eq_getElem (by omega)⟩
      rw [flatA_take P k p hp]
      have hd : deadText (P.take (k + 1)) = deadText (P.take k) ++ p.text := by
        obtain ⟨h1, e⟩ := List.getElem?_eq_some_iff.1 hp
        rw [List.take_succ_eq_append_getElem h1, e, deadText_append]
        simp [deadText]
      rw [hd, List.length_append]
      exact pushA_small _ _ _ _ (ih (by omega))
  have h1 := this k hk
  refine ⟨h1.1, fun x hx => ?_⟩
  have h2 := h1.2 x hx
  have h3 := congrArg (fun l => (deadText l).length) (List.take_append_drop k P)
  simp only [deadText_append, List.length_append] at h3
  omega

set_option maxHeartbeats 8000000 in
set_option maxRecDepth 100000 in
theorem aFlat_any (kd pl : Nat) (v : Value) (P : List APart) (w : World) (hV : PSl w v P) (hP : P.length ≤ 10000) (hT : (deadText P).length ≤ 100000) :
    Calls Tryd.prog 44 #[.agg #[.int .i64 kd, .int .i64 pl, v]] w fun e w' => ∃ v', e = .returned v' ∧ PartsAt w' w.heap.size v' (flatA P) ∧ Below w.heap.size w w' := by
  obtain ⟨i0, hi0, hz0, hz1, hz2⟩ := info_parts infoAPart
  obtain ⟨ap, cp, rfl, hc1, hc2, hc3⟩ := hV
  obtain ⟨v, hv⟩ : ∃ v, v = Value.slice ap P.length cp := ⟨_, rfl⟩
  obtain ⟨n, hn⟩ : ∃ n, P.length = n := ⟨_, rfl⟩
  have HN := Lib.hid hn
  have HC3 := Lib.hid hc3
  rw [hn] at hv hc1 hP ⊢
  clear hn hc3
  have hB0 : Blk (w.alloc (.cells #[.int .i64 kd, .int .i64 pl, .slice ap n cp] 59)) w.heap.size [.int .i64 kd, .int .i64 pl, .slice ap n cp] := Blk.new w _ _
  go_enter Tryd.func44, Tryd.ntmps44
  go_wp2_with fail
  rw [← hv] at hB0
  go_loopg [3, 4] n (fun m x y w5 => ∃ (k : Nat) (vo : Value), m = n - k ∧ k ≤ n ∧ x = vo ∧ y = .int .i64 k ∧ PartsAt w5 (w.heap.size + 1) vo (flatA (P.take k)) ∧ Below w.heap.size w w5 ∧ Blk w5 w.heap.size [.int .i64 kd, .int .i64 pl, v])
  case atStart => exact ⟨0, _, rfl, Nat.zero_le _, rfl, rfl, PartsAt.nil _ _, (Below.refl _ _).alloc (Nat.le_refl _) _, by rw [hv] at hB0 ⊢; exact hB0⟩
  case round =>
    clear hB0
    obtain ⟨k, vo, rfl, hk, rfl, rfl, hO, hb, hB⟩ := hrel
    obtain ⟨ao, cap, rfl⟩ := hO.form
    obtain ⟨hs1, hs2⟩ := flatA_small P k (by have := HN.out; omega)
    have b2 := hB.cell 2 rfl
    rw [hv] at b2
    by_cases hlt : k < n
    · obtain ⟨gp, rfl, hgp, hX⟩ := HC3.out (by have := HN.out; omega)
      obtain ⟨p, hp⟩ : ∃ p, P[k]? = some p := ⟨_, List.getElem?_eq_getElem (by have := HN.out; omega)⟩
      have HFT := Lib.hid (flatA_take P k p hp)
      have hX' : PRow wr gp P := fun i b hb' j u hu => (hb.cell (p := ⟨gp, i * 5 + j, none⟩) hgp).trans (hX i b hb' j u hu)
      obtain ⟨x0, x1, x2, x3, x4⟩ := hX'.facts k p hp
      have hpt : p.text.length ≤ 100000 := by
        have := dead_in P k p hp
        omega
      have hlw := hB.lt
      have hlast := Lib.hid fun (Q : List APart) (x : APart) (e : flatA (P.take k) = Q ++ [x]) => (show PartsAt wr (w.heap.size + 1) _ (Q ++ [x]) from e ▸ hO).last
      clear hX hX' hp
      go_upto_region 6 with fail
      refine wp_world (fun w5 => PartsAt w5 (w.heap.size + 1) (.slice ao (flatA (P.take k)).length cap) (flatA (P.take k)) ∧ Below w.heap.size w w5 ∧ Blk w5 w.heap.size [.int .i64 kd, .int .i64 pl, v] ∧ Blk w5 wr.heap.size [.int .i64 p.kind, .int .i64 p.place, .int .i64 p.num, .bool p.quoted, .string (bs p.text)]) ⟨hO.alloc _, hb.alloc hb.size _, hB.alloc _, Blk.new wr _ _⟩ ?_
      clear hO hb hB x0 x1 x2 x3 x4 b2
      generalize wr.heap.size = pb at *
      intro w5 ⟨hO5, hb5, hB5, hC5⟩
      have y0 := hC5.cell 0 rfl
      have y1 := hC5.cell 1 rfl
      have y2 := hC5.cell 2 rfl
      have y3 := hC5.cell 3 rfl
      have y4 := hC5.cell 4 rfl
      obtain ⟨tx, htx⟩ : ∃ tx, decide (p.kind = 1 ∨ p.kind = 2) = tx := ⟨_, rfl⟩
      go_cut [6] (fun s6 w7 => s6 = .bool tx ∧ w7 = w5)
      case first =>
        by_cases hk1 : p.kind = 1
        · rw [hk1] at y0
          have : tx = true := by rw [← htx]; simp [hk1]
          subst this
          go_wp2_with fail
          go_meet
          case rel => exact ⟨rfl, rfl⟩
        · by_cases hk2 : p.kind = 2
          · rw [hk2] at y0
            have : tx = true := by rw [← htx]; simp [hk2]
            subst this
            go_wp2_with fail
            go_meet
            case rel => exact ⟨rfl, rfl⟩
          · have : tx = false := by rw [← htx]; simp [hk1, hk2]
            subst this
            have d1 : ((p.kind : Int) == 1) = false := by rw [beq_eq_false_iff_ne]; omega
            have d2 : ((p.kind : Int) == 2) = false := by rw [beq_eq_false_iff_ne]; omega
            go_wp2_with fail
            go_meet
            case rel => exact ⟨rfl, rfl⟩
      case rest =>
        obtain ⟨rfl, rfl⟩ := hcut
        cases tx with
        | false =>
          have hkn : ¬ (p.kind = 1 ∨ p.kind = 2) := by simpa using htx
          have HF : Hid (flatA (P.take (k + 1)) = flatA (P.take k) ++ [p]) := Lib.hid (by
            rw [HFT.out]
            unfold pushA
            rw [if_neg (fun e => hkn e.1)]
            split
            · rfl
            · rw [if_neg (fun e => hkn e.1)])
          clear htx hkn HFT hlast
          obtain ⟨w5, rfl⟩ : ∃ w5, w5 = wc := ⟨_, rfl⟩
          have g0 := cell_regrown y0
          skip
          go_upto_region 9 with fail
          refine wp_region_quiet_below (by kernel_rfl) (by kernel_rfl) ?_
          repeat (go_big_quiet_step (fail))
          refine wpQuiet_nil ?_
          intro w6 hw'
          have hb : Below w5.heap.size w5 w6 := below_of_regrown hw'
          clear hw'
          skip
          have hO6 := hO5.below hb
          have hb6 := bNext hb5 hb
          have hB6 := hB5.below hb
          have hC6 := hC5.below hb
          clear hO5 hb5 hB5 hC5 hb y0 y1 y2 y3 y4
          have y0 := hC6.cell 0 rfl
          have y1 := hC6.cell 1 rfl
          have y2 := hC6.cell 2 rfl
          have y3 := hC6.cell 3 rfl
          have y4 := hC6.cell 4 rfl
          have hl6 := hB6.lt
          have hOA : ∀ o1, PartsAt (w6.alloc o1) (w.heap.size + 1) (.slice (ao) (flatA (P.take k)).length cap) (flatA (P.take k)) := fun o1 => hO6.alloc o1
          have hown6 : ∀ k', (Value.slice (ao) (flatA (P.take k)).length cap).ownBlock = some k' → w.heap.size + 1 ≤ k' ∧ k' < w6.heap.size := hO6.lt
          go_wp2_with (at_builtin; refine wpList_append_own _ rfl _ _ 57 rfl (w.heap.size + 1) 61 i0 _ 5 48 Tryd.underlying57 hi0 hz0 hz1 hz2 rfl (by decide) _ _ _ rfl (hOA _) ⟨w6.heap.size, 0, none⟩ 1 1 [.int .i64 p.kind, .int .i64 p.place, .int .i64 p.num, .bool p.quoted, .string (bs p.text)] rfl rfl ?c1 ?c2 ?c3 ?c4 ?c5 ?_)
          case c1 => exact cells_new (by simp)
          case c2 =>
            intro u hu
            simp at hu
            rcases hu with rfl | rfl | rfl | rfl | rfl <;> rfl
          case c3 => unfold maxLen; omega
          case c4 => omega
          case c5 => simp; omega
          intro v' w7 hown' hgrow _
          have hO7 : PartsAt w7 (w.heap.size + 1) v' (flatA (P.take (k + 1))) := by
            rw [HF.out]
            unfold PartsAt
            rw [List.length_append, List.flatMap_append]
            exact hown'
          have hK7 : Kept (fun k' => some k' = (Value.slice (ao) (flatA (P.take k)).length cap).ownBlock) w6 w7 := ((Kept.refl _ _).alloc _).grown hgrow (fun k' h _ => h.symm)
          have hb7 : Below w.heap.size w w7 := hb6.trans (hK7.below hb6.size (fun i hi e => by have := hown6 _ e.symm; omega))
          have hB7 : Blk w7 w.heap.size [.int .i64 kd, .int .i64 pl, v] := hB6.kept hK7 (fun e => by have := hown6 _ e.symm; omega)
          go_wp2_with fail
          go_roundg (n - (k + 1))
          case measure => omega
          case rel => exact ⟨k + 1, v', rfl, by omega, rfl, by go_num, hO7, hb7, hB7⟩
        | true =>
          have hkt : p.kind = 1 ∨ p.kind = 2 := by simpa using htx
          obtain ⟨w5, rfl⟩ : ∃ w5, w5 = wc := ⟨_, rfl⟩
          by_cases hpe : p.text = []
          · have HF : Hid (flatA (P.take (k + 1)) = flatA (P.take k)) := Lib.hid (by
              rw [HFT.out]
              unfold pushA
              rw [if_pos ⟨hkt, hpe⟩])
            have e1 : (bs p.text).toList = [] := by rw [Lib.toList_data, bs_list, hpe]
            have e2 : (bs p.text).toList.isEmpty = true := by rw [e1]; rfl
            clear htx hkt HFT hlast hpe
            go_wp2_with fail
            go_roundg (n - (k + 1))
            case measure => omega
            case rel => exact ⟨k + 1, _, rfl, by omega, rfl, by go_num, by rw [HF.out]; exact hO5, hb5, hB5⟩
          · have hz : 0 < (bs p.text).size := by
              rw [bs_size]
              cases h : p.text with
              | nil => exact absurd h hpe
              | cons _ _ => simp
            obtain ⟨e1, e2⟩ := ne_empty _ hz
            cases hq : (flatA (P.take k)).getLast? with
            | none =>
              have hnil : flatA (P.take k) = [] := List.getLast?_eq_none_iff.1 hq
              have HF : Hid (flatA (P.take (k + 1)) = flatA (P.take k) ++ [p]) := Lib.hid (by
                rw [HFT.out]
                unfold pushA
                rw [if_neg (fun e => hpe e.2), hq])
              have hl0 : (flatA (P.take k)).length = 0 := by rw [hnil]; rfl
              have q1 : decide ((0 : Int) ≤ ((flatA (P.take k)).length : Int) - 1) = false := by rw [decide_eq_false_iff_not]; omega
              have q2 : decide (1 ≤ (flatA (P.take k)).length) = false := by rw [decide_eq_false_iff_not]; omega
              have q3 : decide ((1 : Int) ≤ ((flatA (P.take k)).length : Int)) = false := by rw [decide_eq_false_iff_not]; omega
              clear htx hkt HFT hlast hpe hq hnil hl0
              have g0 := cell_regrown y0
              skip
              go_upto_region 9 with fail
              refine wp_region_quiet_below (by kernel_rfl) (by kernel_rfl) ?_
              repeat (go_big_quiet_step (fail))
              refine wpQuiet_nil ?_
              intro w6 hw'
              have hb : Below w5.heap.size w5 w6 := below_of_regrown hw'
              clear hw'
              skip
              have hO6 := hO5.below hb
              have hb6 := bNext hb5 hb
              have hB6 := hB5.below hb
              have hC6 := hC5.below hb
              clear hO5 hb5 hB5 hC5 hb y0 y1 y2 y3 y4
              have y0 := hC6.cell 0 rfl
              have y1 := hC6.cell 1 rfl
              have y2 := hC6.cell 2 rfl
              have y3 := hC6.cell 3 rfl
              have y4 := hC6.cell 4 rfl
              clear q1 q2 q3
              have hl6 := hB6.lt
              have hOA : ∀ o1, PartsAt (w6.alloc o1) (w.heap.size + 1) (.slice (ao) (flatA (P.take k)).length cap) (flatA (P.take k)) := fun o1 => hO6.alloc o1
              have hown6 : ∀ k', (Value.slice (ao) (flatA (P.take k)).length cap).ownBlock = some k' → w.heap.size + 1 ≤ k' ∧ k' < w6.heap.size := hO6.lt
              go_wp2_with (at_builtin; refine wpList_append_own _ rfl _ _ 57 rfl (w.heap.size + 1) 61 i0 _ 5 48 Tryd.underlying57 hi0 hz0 hz1 hz2 rfl (by decide) _ _ _ rfl (hOA _) ⟨w6.heap.size, 0, none⟩ 1 1 [.int .i64 p.kind, .int .i64 p.place, .int .i64 p.num, .bool p.quoted, .string (bs p.text)] rfl rfl ?c1 ?c2 ?c3 ?c4 ?c5 ?_)
              case c1 => exact cells_new (by simp)
              case c2 =>
                intro u hu
                simp at hu
                rcases hu with rfl | rfl | rfl | rfl | rfl <;> rfl
              case c3 => unfold maxLen; omega
              case c4 => omega
              case c5 => simp; omega
              intro v' w7 hown' hgrow _
              have hO7 : PartsAt w7 (w.heap.size + 1) v' (flatA (P.take (k + 1))) := by
                rw [HF.out]
                unfold PartsAt
                rw [List.length_append, List.flatMap_append]
                exact hown'
              have hK7 : Kept (fun k' => some k' = (Value.slice (ao) (flatA (P.take k)).length cap).ownBlock) w6 w7 := ((Kept.refl _ _).alloc _).grown hgrow (fun k' h _ => h.symm)
              have hb7 : Below w.heap.size w w7 := hb6.trans (hK7.below hb6.size (fun i hi e => by have := hown6 _ e.symm; omega))
              have hB7 : Blk w7 w.heap.size [.int .i64 kd, .int .i64 pl, v] := hB6.kept hK7 (fun e => by have := hown6 _ e.symm; omega)
              go_wp2_with fail
              go_roundg (n - (k + 1))
              case measure => omega
              case rel => exact ⟨k + 1, v', rfl, by omega, rfl, by go_num, hO7, hb7, hB7⟩
            | some x =>
              obtain ⟨Q, hQ⟩ := List.getLast?_eq_some_iff.1 hq
              obtain ⟨g, cap', hvE, hnc, hcm, hBg, hgl, hfz, hcell⟩ := (show PartsAt w5 (w.heap.size + 1) _ (Q ++ [x]) from hQ ▸ hO5).last
              obtain ⟨g', cap2, hvE', _, _, _, hgl', _, _⟩ := hlast.out Q x hQ
              have hgg : g < pb := by
                rw [hvE] at hvE'
                injection hvE' with e1 _ _
                injection e1 with e1
                injection e1 with e1
                omega
              injection hvE with e3 e4 e5
              subst e3
              subst e5
              have e4' : (flatA (P.take k)).length = Q.length + 1 := by rw [hQ]; simp
              clear e4
              have hqz : 1 ≤ (flatA (P.take k)).length := by rw [e4']; omega
              have k0 := hcell 0 _ rfl
              have k4 := hcell 4 _ rfl
              have z4 := hfz (Q.length * 5 + 4)
              rw [Nat.add_zero] at k0
              have hlen10 : (flatA (P.take k)).length ≤ 10000 := by omega
              have q1 : decide ((0 : Int) ≤ ((flatA (P.take k)).length : Int) - 1) = true := by rw [decide_eq_true_eq]; omega
              have q2 : decide (1 ≤ (flatA (P.take k)).length) = true := by rw [decide_eq_true_eq]; omega
              have q3 : decide ((1 : Int) ≤ ((flatA (P.take k)).length : Int)) = true := by rw [decide_eq_true_eq]; omega
              have q4 : (((flatA (P.take k)).length : Int) - 1).toNat = Q.length := by omega
              have q5 : wrap64 (((flatA (P.take k)).length : Int) - 1) = ((flatA (P.take k)).length : Int) - 1 := by unfold wrap64; omega
              have hq1 : 1 ≤ (flatA (P.take k)).length := by omega
              by_cases hkk : x.kind = p.kind
              · have HF : Hid (flatA (P.take (k + 1)) = Q ++ [{ x with text := x.text ++ p.text }]) := Lib.hid (by
                  rw [HFT.out]
                  unfold pushA
                  rw [if_neg (fun e => hpe e.2), hq]
                  dsimp only
                  rw [if_pos ⟨hkt, hkk⟩, hQ, List.dropLast_concat])
                have HR5 := Lib.hid (show PartsAt w5 (w.heap.size + 1) (.slice (some ⟨g, 0, none⟩) (flatA (P.take k)).length cap) (Q ++ [x]) from hQ ▸ hO5)
                have hxt : x.text.length ≤ 100000 := by
                  have := hs2 x (by rw [hQ]; simp)
                  omega
                have hz1 := bs_size x.text
                have hz2 := bs_size p.text
                rw [hkk] at k0
                clear htx hkt HFT hlast hpe hq hQ hcell hfz hvE' e4'
                have g0 := cell_regrown y0
                have g1 := cell_regrown k0
                go_upto_region 9 with fail
                refine wp_region_quiet_below (by kernel_rfl) (by kernel_rfl) ?_
                repeat (go_big_quiet_step (fail))
                refine wpQuiet_nil ?_
                intro w6 hw'
                have hb : Below w5.heap.size w5 w6 := below_of_regrown hw'
                clear hw'
                (have k46 := bSome hb k4; have z46 := bFree hb k4 z4; have HR6 := Lib.hid (HR5.out.below hb))
                have hO6 := hO5.below hb
                have hb6 := bNext hb5 hb
                have hB6 := hB5.below hb
                have hC6 := hC5.below hb
                clear hO5 hb5 hB5 hC5 hb y0 y1 y2 y3 y4
                have y0 := hC6.cell 0 rfl
                have y1 := hC6.cell 1 rfl
                have y2 := hC6.cell 2 rfl
                have y3 := hC6.cell 3 rfl
                have y4 := hC6.cell 4 rfl
                clear k0 k4 z4 HR5 hO6
                go_upto_region 10 with fail
                go_region
                all_goals
                  have hK7 : Kept (At g) w6 (w6.drew.setCell ⟨g, Q.length * 5 + 4, none⟩ (.string (bs x.text ++ bs p.text))) := ((Kept.refl (At g) w6).drew).setCell (p := ⟨g, Q.length * 5 + 4, none⟩) (fun _ => rfl) _
                  have hb7 := hb6.trans (hK7.below hb6.size (fun i hi e => by unfold At at e; omega))
                  have hB7 := hB6.kept hK7 (fun e => by unfold At at e; omega)
                  have hO7 := Lib.hid ((PartsAt.below HR6.out (⟨rfl, rfl, rfl, Nat.le_refl _, fun _ _ => rfl⟩ : Below w6.heap.size w6 w6.drew)).setText (x.text ++ p.text))
                  rw [← bsAppA] at hO7
                  go_wp2_with fail
                  go_roundg (n - (k + 1))
                  case measure => omega
                  case rel => exact ⟨k + 1, _, rfl, by omega, rfl, by go_num, by rw [HF.out]; exact hO7.out, hb7, hB7⟩
              · have HF : Hid (flatA (P.take (k + 1)) = flatA (P.take k) ++ [p]) := Lib.hid (by
                  rw [HFT.out]
                  unfold pushA
                  rw [if_neg (fun e => hpe e.2), hq]
                  dsimp only
                  rw [if_neg (fun e => hkk e.2)])
                have d1 : ((x.kind : Int) == p.kind) = false := by rw [beq_eq_false_iff_ne]; omega
                clear htx hkt HFT hlast hpe hq hQ hcell hfz hvE' hkk e4'
                have g0 := cell_regrown y0
                have g1 := cell_regrown k0
                go_upto_region 9 with fail
                refine wp_region_quiet_below (by kernel_rfl) (by kernel_rfl) ?_
                repeat (go_big_quiet_step (fail))
                refine wpQuiet_nil ?_
                intro w6 hw'
                have hb : Below w5.heap.size w5 w6 := below_of_regrown hw'
                clear hw'
                skip
                have hO6 := hO5.below hb
                have hb6 := bNext hb5 hb
                have hB6 := hB5.below hb
                have hC6 := hC5.below hb
                clear hO5 hb5 hB5 hC5 hb y0 y1 y2 y3 y4
                have y0 := hC6.cell 0 rfl
                have y1 := hC6.cell 1 rfl
                have y2 := hC6.cell 2 rfl
                have y3 := hC6.cell 3 rfl
                have y4 := hC6.cell 4 rfl
                clear q1 q2 q3 q4 q5 k0 k4 z4 hq1
                have hl6 := hB6.lt
                have hOA : ∀ o1, PartsAt (w6.alloc o1) (w.heap.size + 1) (.slice (some ⟨g, 0, none⟩) (flatA (P.take k)).length cap) (flatA (P.take k)) := fun o1 => hO6.alloc o1
                have hown6 : ∀ k', (Value.slice (some ⟨g, 0, none⟩) (flatA (P.take k)).length cap).ownBlock = some k' → w.heap.size + 1 ≤ k' ∧ k' < w6.heap.size := hO6.lt
                go_wp2_with (at_builtin; refine wpList_append_own _ rfl _ _ 57 rfl (w.heap.size + 1) 61 i0 _ 5 48 Tryd.underlying57 hi0 hz0 hz1 hz2 rfl (by decide) _ _ _ rfl (hOA _) ⟨w6.heap.size, 0, none⟩ 1 1 [.int .i64 p.kind, .int .i64 p.place, .int .i64 p.num, .bool p.quoted, .string (bs p.text)] rfl rfl ?c1 ?c2 ?c3 ?c4 ?c5 ?_)
                case c1 => exact cells_new (by simp)
                case c2 =>
                  intro u hu
                  simp at hu
                  rcases hu with rfl | rfl | rfl | rfl | rfl <;> rfl
                case c3 => unfold maxLen; omega
                case c4 => omega
                case c5 => simp; omega
                intro v' w7 hown' hgrow _
                have hO7 : PartsAt w7 (w.heap.size + 1) v' (flatA (P.take (k + 1))) := by
                  rw [HF.out]
                  unfold PartsAt
                  rw [List.length_append, List.flatMap_append]
                  exact hown'
                have hK7 : Kept (fun k' => some k' = (Value.slice (some ⟨g, 0, none⟩) (flatA (P.take k)).length cap).ownBlock) w6 w7 := ((Kept.refl _ _).alloc _).grown hgrow (fun k' h _ => h.symm)
                have hb7 : Below w.heap.size w w7 := hb6.trans (hK7.below hb6.size (fun i hi e => by have := hown6 _ e.symm; omega))
                have hB7 : Blk w7 w.heap.size [.int .i64 kd, .int .i64 pl, v] := hB6.kept hK7 (fun e => by have := hown6 _ e.symm; omega)
                go_wp2_with fail
                go_roundg (n - (k + 1))
                case measure => omega
                case rel => exact ⟨k + 1, v', rfl, by omega, rfl, by go_num, hO7, hb7, hB7⟩
    · have hle : (flatA (P.take k)) = flatA P := by rw [List.take_of_length_le (l := P) (i := k) (by have := HN.out; omega)]
      rw [hle] at hO
      have HO := Lib.hid (hO.mono (B' := w.heap.size) (by omega))
      rw [hle]
      clear hO
      go_wp2_with fail
      go_ret
      exact ⟨_, rfl, HO.out, hb⟩

end Go.Proofs.YtdadgodjjfgmfaaDoor
