/- alex.Print. -/
import Derived.Test.YtdadgodjjfgmfaaDoorShown
import Derived.Test.YtdadgodjjfgmfaaDoorBuilder2
import Derived.Deep.DeepCutAuto
import Derived.Deep.RegionWith
namespace Go.Proofs.YtdadgodjjfgmfaaDoor
open Go Go.RowKit

/-- Tokens in a block, each with its parts, all of them below a block. -/
def ATRowB (w : World) (B g : Nat) (ts : List ATok) : Prop := ∀ (i : Nat) (t : ATok), ts[i]? = some t → w.cell? ⟨g, i * 3, none⟩ = some (.int .i64 t.kind) ∧ w.cell? ⟨g, i * 3 + 1, none⟩ = some (.int .i64 t.place) ∧
  ∃ ao cap, w.cell? ⟨g, i * 3 + 2, none⟩ = some (.slice ao t.parts.length cap) ∧ t.parts.length ≤ cap ∧ cap ≤ maxLen ∧ (0 < t.parts.length → ∃ gp, ao = some ⟨gp, 0, none⟩ ∧ gp < B ∧ PRow w gp t.parts)
theorem ATRow.bound {w : World} {g : Nat} {ts : List ATok} (h : ATRow w g ts) : ATRowB w w.heap.size g ts := fun i t ht => by
  obtain ⟨h1, h2, v2, h3, ao, cap, rfl, h4, h5, h6⟩ := h i t ht
  exact ⟨h1, h2, ao, cap, h3, h4, h5, h6⟩
theorem ATRowB.kept {w w' : World} {B g : Nat} {ts : List ATok} {S : Nat → Prop} (h : ATRowB w B g ts) (hK : Kept S w w') (hg : g < B) (hS : ∀ k, k < B → ¬ S k) : ATRowB w' B g ts := fun i t ht => by
  obtain ⟨h1, h2, ao, cap, h3, h4, h5, h6⟩ := h i t ht
  refine ⟨hK.cell h1 (hS g hg), hK.cell h2 (hS g hg), ao, cap, hK.cell h3 (hS g hg), h4, h5, fun h0 => ?_⟩
  obtain ⟨gp, e1, e2, e3⟩ := h6 h0
  exact ⟨gp, e1, e2, fun i a ha j u hu => hK.cell (e3 i a ha j u hu) (hS gp e2)⟩

/-- The world within Print's loops. -/
structure APSt (w wr : World) (g : Nat) (ts : List ATok) (mx : Int) (acc : List UInt8) : Prop where
  row : ATRowB wr w.heap.size g ts
  mxc : wr.cell? ⟨4, 0, none⟩ = some (.int .i64 mx)
  bld : Bld wr w.heap.size acc
  low : Below w.heap.size w wr
theorem APSt.below {w wr w' : World} {g : Nat} {ts : List ATok} {mx : Int} {acc : List UInt8} (h : APSt w wr g ts mx acc) (hg : g < w.heap.size) (hb : Below wr.heap.size wr w') : APSt w w' g ts mx acc :=
  ⟨h.row.kept (Kept.ofBelow hb : Kept Nowhere wr w') hg (fun _ _ e => e), bSome hb h.mxc, h.bld.below hb, bNext h.low hb⟩
theorem APSt.write {w wr w' : World} {g : Nat} {ts : List ATok} {mx : Int} {acc acc' : List UInt8} (h : APSt w wr g ts mx acc) (hg : g < w.heap.size) (hm : 4 < w.heap.size) (hB : Bld w' w.heap.size acc') (hK : Kept (OfBytes wr w.heap.size w.heap.size) wr w') : APSt w w' g ts mx acc' :=
  ⟨h.row.kept hK hg (fun k hk e => by have := e.1; omega), hK.cell h.mxc (fun e => by have := e.1; simp only [] at this; omega), hB, h.low.trans (hK.below h.low.size (fun k hk e => by have := e.1; omega))⟩
theorem APSt.as {w wr : World} {g : Nat} {ts : List ATok} {mx : Int} {acc acc' : List UInt8} (h : APSt w wr g ts mx acc) (e : acc = acc') : APSt w wr g ts mx acc' := e ▸ h
theorem APSt.drew {w wr : World} {g : Nat} {ts : List ATok} {mx : Int} {acc : List UInt8} (h : APSt w wr g ts mx acc) (hg : g < w.heap.size) : APSt w wr.drew g ts mx acc := h.below hg ⟨rfl, rfl, rfl, Nat.le_refl _, fun _ _ => rfl⟩

/-- A block of cells that are no bytes. -/
def CBlk (w : World) (b : Nat) (cs : List Value) (ty : TypeId) : Prop := w.heap[b]? = some (.cells cs.toArray ty (0, 0))
theorem CBlk.new (w : World) (cs : List Value) (ty : TypeId) : CBlk (w.alloc (.cells cs.toArray ty)) w.heap.size cs ty := by
  show (w.heap.push _)[w.heap.size]? = _
  rw [Array.getElem?_push, if_pos rfl]
theorem CBlk.below {w w' : World} {b : Nat} {cs : List Value} {ty : TypeId} (h : CBlk w b cs ty) (hb : Below w.heap.size w w') : CBlk w' b cs ty := (hb.block b (lt_of_block h)).trans h
theorem CBlk.write {w w' : World} {tb b : Nat} {cs : List Value} {ty : TypeId} (h : CBlk w tb cs ty) (hty : ty ≠ 5) (hne : tb ≠ b) (hK : Kept (OfBytes w b b) w w') : CBlk w' tb cs ty := by
  refine (hK.block tb (lt_of_block h) ?_).trans h
  rintro ⟨_, e | ⟨c, fz, e⟩⟩
  · exact hne e
  · rw [show w.heap[tb]? = _ from h] at e
    simp only [Option.some.injEq, Obj.cells.injEq] at e
    exact hty e.2.1
theorem CBlk.blk {w : World} {b : Nat} {cs : List Value} {ty : TypeId} (h : CBlk w b cs ty) : Blk w b cs := ⟨_, h⟩

theorem printA_snoc (t : ATok) : ∀ (ts : List ATok) (first : Bool), printA first (ts ++ [t]) = printA first ts ++ ((if (first = false ∨ ts ≠ []) ∧ t.kind ≠ 0 then [32] else []) ++ tokP t)
  | [], first => by simp [printA]
  | u :: ts, first => by
    rw [List.cons_append, printA, printA, printA_snoc t ts false]
    simp
theorem printA_take (ts : List ATok) (k : Nat) (t : ATok) (h : ts[k]? = some t) : printA true (ts.take (k + 1)) = printA true (ts.take k) ++ ((if k ≠ 0 ∧ t.kind ≠ 0 then [32] else []) ++ tokP t) := by
  obtain ⟨hk, e⟩ := List.getElem?_eq_some_iff.1 h
  rw [List.take_succ_eq_append_getElem hk, e, printA_snoc]
  have : (true = false ∨ ts.take k ≠ []) ↔ k ≠ 0 := by
    constructor
    · rintro (h | h)
      · cases h
      · intro e
        exact h (by rw [e]; rfl)
    · intro h0
      right
      intro e
      have := congrArg List.length e
      rw [List.length_take, List.length_nil] at this
      omega
  simp only [this]
theorem wordP_take (P : List APart) (m : Nat) (p : APart) (h : P[m]? = some p) : wordP (P.take (m + 1)) = wordP (P.take m) ++ shownA p := by
  obtain ⟨hk, e⟩ := List.getElem?_eq_some_iff.1 h
  rw [List.take_succ_eq_append_getElem hk, e]
  simp [wordP]
theorem wordP_le (P : List APart) (m : Nat) : (wordP (P.take m)).length ≤ (wordP P).length := by
  have h := congrArg (fun l => (wordP l).length) (List.take_append_drop m P)
  simp only [wordP, List.flatMap_append, List.length_append] at h ⊢
  omega

set_option maxHeartbeats 8000000 in
set_option maxRecDepth 100000 in
theorem aPrint_any (g n cap : Nat) (hn : n ≤ cap) (hn2 : cap ≤ maxLen) (ts : List ATok) (hts : ts.length = n) (w : World) (mx : Int) (hR : ATRow w g ts) (hmx : w.cell? ⟨4, 0, none⟩ = some (.int .i64 mx)) (hg : g < w.heap.size)
    (hfine : Hid (∀ t ∈ ts, t.kind ≤ 13 ∧ ∀ p ∈ t.parts, (1 ≤ p.kind ∧ p.kind ≤ 6) ∧ (p.kind = 5 → 1 ≤ p.num ∧ p.num ≤ 9) ∧ p.text.length ≤ 10000)) (hlen : Hid (∀ k, (printA true (ts.take k)).length ≤ 10000)) :
    Calls Tryd.prog 42 #[.slice (some ⟨g, 0, none⟩) n cap] w fun e w' => e = .returned (.string (bs (printA true ts))) ∧ Below w.heap.size w w' := by
  have hm : 4 < w.heap.size := block_lt_of_cell hmx
  have hn3 : (n : Int) ≤ 9223372036854775807 := by unfold maxLen at hn2; omega
  have hRB := hR.bound
  go_enter Tryd.func42, Tryd.ntmps42
  go_wp2_with fail
  go_loopg [10] (n) (fun m c wr => ∃ k : Nat, m = n - k ∧ k ≤ n ∧ c = .int .i64 k ∧ APSt w wr g ts mx (printA true (ts.take k)))
  case atStart => exact ⟨0, rfl, Nat.zero_le _, rfl, ⟨hRB.kept (Kept.ofBelow ((Below.refl _ _).alloc (Nat.le_refl _) _) : Kept Nowhere _ _) hg (fun _ _ e => e), bSome ((Below.refl _ _).alloc (Nat.le_refl _) _) hmx, Bld.newAt rfl, (Below.refl _ _).alloc (Nat.le_refl _) _⟩⟩
  case round =>
    clear hR hRB hmx
    obtain ⟨k, rfl, hk, rfl, hP⟩ := hrel
    by_cases hlt : k < n
    · obtain ⟨a, ha⟩ : ∃ a, ts[k]? = some a := ⟨_, List.getElem?_eq_getElem (by omega)⟩
      obtain ⟨a0, a1, ao, cp, a2, hc1, hc2, hc3⟩ := hP.row k a ha
      have HPW : Hid (0 < a.parts.length → ∃ gp, ao = some ⟨gp, 0, none⟩ ∧ gp < w.heap.size ∧ PRow w gp a.parts) := Lib.hid fun h0 => by
        obtain ⟨gp, e1, e2, e3⟩ := hc3 h0
        exact ⟨gp, e1, e2, fun i b hb j u hu => (hP.low.cell (p := ⟨gp, i * 5 + j, none⟩) e2).symm.trans (e3 i b hb j u hu)⟩
      clear hc3
      have htb : w.heap.size < wr.heap.size := hP.bld.lt
      have HA := Lib.hid ha
      clear ha
      go_upto_region 5 with fail
      refine wp_world (fun w1 => APSt w w1 g ts mx (printA true (ts.take k)) ∧ CBlk w1 wr.heap.size [.int .i64 a.kind, .int .i64 a.place, .slice ao a.parts.length cp] 59) ⟨hP.below hg ((Below.refl _ _).alloc (Nat.le_refl _) _), CBlk.new wr _ _⟩ ?_
      clear hP a0 a1 
      generalize wr.heap.size = tb at *
      intro w1 ⟨hP1, hT1⟩
      have t0 := hT1.blk.cell 0 rfl
      go_cut [21] (fun s21 w2 => s21 = .bool (decide (k ≠ 0 ∧ a.kind ≠ 0)) ∧ APSt w w2 g ts mx (printA true (ts.take k)) ∧ CBlk w2 tb [.int .i64 a.kind, .int .i64 a.place, .slice ao a.parts.length cp] 59)
      case first =>
        by_cases hk0 : k = 0
        · subst hk0
          go_wp2_with fail
          go_meet
          case rel => exact ⟨by simp, hP1, hT1⟩
        · have hk1 : (0 : Int) < k := by omega
          go_wp2_with fail
          go_meet
          case rel => exact ⟨by by_cases hz : a.kind = 0 <;> simp [hk0, hz] <;> omega, hP1, hT1⟩
      case rest =>
        clear hP1 hT1 t0
        obtain ⟨rfl, hP2, hT2⟩ := hcut
        go_upto_if 21 with fail
        go_cut [] (fun w3 => APSt w w3 g ts mx (printA true (ts.take k) ++ (if k ≠ 0 ∧ a.kind ≠ 0 then [32] else [])) ∧ CBlk w3 tb [.int .i64 a.kind, .int .i64 a.place, .slice ao a.parts.length cp] 59)
        case first =>
          by_cases hs : k ≠ 0 ∧ a.kind ≠ 0
          · rw [decide_eq_true hs]
            go_wp2_with fail
            refine (Bld.writeByteK _ (printA true (ts.take k)) 32 _ hP2.bld (by have := hlen.out k; omega)).mono ?_
            rintro e w4 ⟨rfl, hB4, hK4⟩
            have hP4 := hP2.write hg hm hB4 hK4
            have hT4 := hT2.write (by decide) (by omega) hK4
            clear hP2 hT2 hB4 hK4
            go_wp2_with fail
            go_meet
            case rel => exact ⟨hP4.as (by rw [if_pos hs]), hT4⟩
          · rw [decide_eq_false hs]
            go_wp2_with fail
            go_meet
            case rel => exact ⟨hP2.as (by rw [if_neg hs, List.append_nil]), hT2⟩
        case rest =>
          clear hP2 hT2
          obtain ⟨hP3, hT3⟩ := hcut
          obtain ⟨hf1, hf2⟩ := hfine.out a (List.mem_of_getElem? HA.out)
          have HF := Lib.hid hf2
          clear hf2
          have hacc : (printA true (ts.take k) ++ (if k ≠ 0 ∧ a.kind ≠ 0 then [32] else [])).length ≤ 10001 := by
            have h1 := hlen.out k
            have h2 : (if k ≠ 0 ∧ a.kind ≠ 0 then [32] else ([] : List UInt8)).length ≤ 1 := by split <;> simp
            rw [List.length_append]
            omega
          have HN : Hid (printA true (ts.take (k + 1)) = (printA true (ts.take k) ++ (if k ≠ 0 ∧ a.kind ≠ 0 then [32] else [])) ++ tokP a) := Lib.hid (by
            rw [printA_take ts k a HA.out, List.append_assoc])
          have HL := Lib.hid (hlen.out (k + 1))
          rw [HN.out, List.length_append] at HL
          generalize printA true (ts.take k) ++ (if k ≠ 0 ∧ a.kind ≠ 0 then [32] else []) = acc at *
          have t0 := hT3.blk.cell 0 rfl
          have t2 := hT3.blk.cell 2 rfl
          by_cases h13 : a.kind = 13
          · have HX : Hid (tokP a = wordP a.parts) := Lib.hid (by unfold tokP; rw [if_pos h13])
            rw [h13] at t0
            obtain ⟨M, hM⟩ : ∃ M, a.parts.length = M := ⟨_, rfl⟩
            have HM := Lib.hid hM
            rw [hM] at t2 hc1
            have hMb : M ≤ 9223372036854775807 := by unfold maxLen at hc2; omega
            clear hM
            go_wp2_with fail
            go_loopg [30] M (fun n' x w5 => ∃ m : Nat, n' = M - m ∧ m ≤ M ∧ x = .int .i64 m ∧ APSt w w5 g ts mx (acc ++ wordP (a.parts.take m)))
            case atStart => exact ⟨0, rfl, Nat.zero_le _, rfl, hP3.as (by simp [wordP])⟩
            case round =>
              clear hP3 hT3 t0 t2
              obtain ⟨m, rfl, hm', rfl, hP⟩ := hrel
              by_cases hlm : m < M
              · obtain ⟨gp, rfl, hgp, hX⟩ := HPW.out (by rw [HM.out]; omega)
                obtain ⟨p, hp⟩ : ∃ p, a.parts[m]? = some p := ⟨_, List.getElem?_eq_getElem (by have := HM.out; omega)⟩
                have hX' : PRow wr gp a.parts := fun i b hb j u hu => (hP.low.cell (p := ⟨gp, i * 5 + j, none⟩) hgp).trans (hX i b hb j u hu)
                obtain ⟨x0, x1, x2, x3, x4⟩ := hX'.facts m p hp
                obtain ⟨f1, f2, f3⟩ := HF.out p (List.mem_of_getElem? hp)
                have HS := Lib.hid fun w1 h => aShown_any p w1 mx h f1 f2 f3 _ (Lib.hid rfl)
                have HW := Lib.hid (wordP_take a.parts m p hp)
                have hz : (acc ++ wordP (a.parts.take m)).length + (bs (shownA p)).size ≤ 30000 := by
                  have h1 := wordP_le a.parts (m + 1)
                  rw [HW.out, List.length_append, ← HX.out] at h1
                  have h2 := HL.out
                  rw [List.length_append, bs_size]
                  omega
                unfold APart.cells at HS
                clear hX hX' hp f1 f2 f3
                go_upto_region 11 with fail
                refine wp_world (fun w6 => APSt w w6 g ts mx (acc ++ wordP (a.parts.take m)) ∧ CBlk w6 wr.heap.size [.int .i64 p.kind, .int .i64 p.place, .int .i64 p.num, .bool p.quoted, .string (bs p.text)] 61) ⟨hP.below hg ((Below.refl _ _).alloc (Nat.le_refl _) _), CBlk.new wr _ _⟩ ?_
                clear hP x0 x1 x2 x3 x4
                generalize wr.heap.size = pb at *
                intro w6 ⟨hP6, hT6⟩
                have y0 := hT6.blk.cell 0 rfl
                have y1 := hT6.blk.cell 1 rfl
                have y2 := hT6.blk.cell 2 rfl
                have y3 := hT6.blk.cell 3 rfl
                have y4 := hT6.blk.cell 4 rfl
                have HSP : Hid ((bs (shownA p)).data.toList = shownA p) := Lib.hid (bs_list _)
                generalize bs (shownA p) = sp at *
                go_wp2_with (first
                  | (go_at_call 62; refine (HS.out _ hP6.mxc).mono ?_; rintro e w7 ⟨rfl, hb7⟩; have hP7 := hP6.below hg hb7)
                  | (go_at_call 58; refine (Bld.writeStringK _ _ _ _ hP7.bld (by omega)).mono ?_; rintro e w8 ⟨rfl, hB8, hK8⟩; have hP8 := hP7.write hg hm hB8 hK8))
                go_roundg (M - (m + 1))
                case measure => omega
                case rel => exact ⟨m + 1, rfl, by omega, by go_num, hP8.as (by rw [HW.out, HSP.out, List.append_assoc])⟩
              · go_wp2_with fail
                go_roundg (n - (k + 1))
                case measure => omega
                case rel => exact ⟨k + 1, rfl, by omega, by go_num, hP.as (by rw [HN.out, HX.out, List.take_of_length_le (by have := HM.out; omega)])⟩
          · by_cases h0 : a.kind = 0
            · have HX : Hid (tokP a = []) := Lib.hid (by unfold tokP; rw [h0]; rfl)
              rw [h0] at t0
              go_wp2_with fail
              go_roundg (n - (k + 1))
              case measure => omega
              case rel => exact ⟨k + 1, rfl, by omega, by go_num, hP3.as (by rw [HN.out, HX.out, List.append_nil])⟩
            · obtain ⟨o, ho⟩ : ∃ o, opsA[a.kind]? = some o := ⟨_, List.getElem?_eq_getElem (by show a.kind < 13; omega)⟩
              have HX : Hid (tokP a = o) := Lib.hid (by
                unfold tokP
                rw [if_neg h13, List.getD_eq_getElem?_getD, ho]
                rfl)
              have hol : o.length ≤ 3 := by
                have hall : ∀ o ∈ opsA, o.length ≤ 3 := by decide
                exact hall o (List.mem_of_getElem? ho)
              have hcell : ∀ w1 : World, ∀ b : Nat, Blk w1 b (opsA.map fun l => .string (bs l)) → w1.cell? ⟨b, a.kind, none⟩ = some (.string (bs o)) := fun w1 b h => h.cell a.kind (by rw [List.getElem?_map, ho]; rfl)
              have HC := Lib.hid hcell
              clear hcell ho HF
              obtain ⟨kd, hkd⟩ : ∃ kd, a.kind = kd := ⟨_, rfl⟩
              rw [hkd] at t0 HC h13 h0 hf1
              have d1 : ((kd : Int) == 13) = false := by rw [beq_eq_false_iff_ne]; omega
              have hk1 : 1 ≤ kd := by omega
              have hk2 : kd < 13 := by omega
              clear hkd h13 h0 hf1
              obtain ⟨ob, hob⟩ : ∃ ob, bs o = ob := ⟨_, rfl⟩
              have hobs : ob.size ≤ 3 := by rw [← hob, bs_size]; exact hol
              have HO : Hid (ob.data.toList = o) := Lib.hid (by rw [← hob, bs_list])
              rw [hob] at HC
              clear hob
              have hPd := hP3.drew hg
              go_wp2_with fail
              go_region_with (first
                | (go_at_call 63; refine (aOps_any _).mono ?_; rintro e w5 ⟨rfl, hO5, hb5⟩; have hc5 : w5.cell? ⟨wc.heap.size, kd, none⟩ = some (.string ob) := HC.out _ _ hO5; have hP5 := hPd.below hg hb5; have t05 : w5.cell? ⟨tb, 0, none⟩ = some (.int .i64 kd) := bSome hb5 (p := ⟨tb, 0, none⟩) (v := .int .i64 kd) t0)
                | (go_at_call 58; refine (Bld.writeStringK _ acc ob _ hP5.bld (by omega)).mono ?_; rintro e w4 ⟨rfl, hB4, hK4⟩; have hP4 := hP5.write hg hm hB4 hK4))
              all_goals
                go_wp2_with fail
                go_roundg (n - (k + 1))
                case measure => omega
                case rel => exact ⟨k + 1, rfl, by omega, by go_num, hP4.as (by rw [HN.out, HX.out, HO.out])⟩
    · have hP' := hP
      rw [List.take_of_length_le (l := ts) (i := k) (by omega)] at hP'
      go_wp2_with fail
      refine (Bld.string _ _ _ hP'.bld).mono ?_
      rintro e w4 ⟨rfl, hb4⟩
      go_wp2_with fail
      go_ret
      exact ⟨rfl, hP'.low.trans hb4⟩

end Go.Proofs.YtdadgodjjfgmfaaDoor
