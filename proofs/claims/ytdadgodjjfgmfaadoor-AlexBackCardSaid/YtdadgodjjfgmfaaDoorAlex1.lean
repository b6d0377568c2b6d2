/- Dialect A's reader: bytes ahead, parts added. -/
import Derived.Test.YtdadgodjjfgmfaaDoorAlexKit
import Derived.Deep.RegionHeld3
import Derived.Deep.DeepCutAuto
import Derived.Deep.RegionLawGrows
namespace Go.Proofs.YtdadgodjjfgmfaaDoor
open Go Go.RowKit

theorem ARdr.kept {w w' : World} {r q B : Nat} {s : ByteArray} {i : Nat} {v : Value} {P : List APart} {j : Bool} (h : ARdr w r q B s i v P j) (hk : Kept Nowhere w w') : ARdr w' r q B s i v P j := h.below hk.toBelow

theorem aMore_any (r q B : Nat) (s : ByteArray) (i : Nat) (v : Value) (P : List APart) (j : Bool) (w : World) (_hs : s.size ≤ 1000000) (_hi : i ≤ 1000000) (hR : ARdr w r q B s i v P j) :
    Calls Tryd.prog 78 #[.pointer (some ⟨r, 0, none⟩)] w fun e w' => e = .returned (.bool (decide (i < s.size))) ∧ Below w.heap.size w w' := by
  have g0 := cell_regrown hR.c0
  have g1 := cell_regrown hR.c1
  have g2 := cell_regrown hR.cs
  go_enter Tryd.func78, Tryd.ntmps78
  go_wp2_with fail
  refine wp_region_quiet_below (by kernel_rfl) (by kernel_rfl) ?_
  repeat (go_big_quiet_step ((go_at_call 35; exact Calls.regrown_of (bLen_any s _))))
  refine wpQuiet_nil ?_
  intro w2 hw'
  have hb : Below w.heap.size w w2 := below_of_regrown hw'
  clear hw'
  go_wp2_with fail
  go_ret
  exact ⟨by first | rfl | simp, hb⟩

theorem aPeek_any (r q B : Nat) (s : ByteArray) (i : Nat) (v : Value) (P : List APart) (j : Bool) (n : Nat) (w : World) (hs : s.size ≤ 1000000) (hi : i ≤ 1000000) (hn : n ≤ 1) (hR : ARdr w r q B s i v P j) :
    Calls Tryd.prog 79 #[.pointer (some ⟨r, 0, none⟩), .int .i64 n] w fun e w' => e = .returned (.int .u8 (bat s (i + n)).toNat) ∧ Below w.heap.size w w' := by
  have g0 := cell_regrown hR.c0
  have g1 := cell_regrown hR.c1
  have g2 := cell_regrown hR.cs
  by_cases hlt : i + n < s.size
  · have hB := Lib.hid fun w1 => bByte_in s (i + n) w1 hs hlt
    rw [show ((i + n : Nat) : Int) = (i : Int) + (n : Int) from by omega] at hB
    generalize (bat s (i + n)).toNat = bv at *
    go_enter Tryd.func79, Tryd.ntmps79
    go_wp2_with fail
    refine wp_region_quiet_below (by kernel_rfl) (by kernel_rfl) ?_
    repeat (go_big_quiet_step ((go_at_call 27; exact Calls.regrown_of (hB.out _))))
    refine wpQuiet_nil ?_
    intro w2 hw'
    have hb : Below w.heap.size w w2 := below_of_regrown hw'
    clear hw'
    go_wp2_with fail
    go_ret
    exact ⟨rfl, hb⟩
  · have hB := Lib.hid fun w1 => bByte_high s ((i : Int) + (n : Int)) w1 hs (by omega)
    have hz : bat s (i + n) = 0 := by
      unfold bat
      rw [List.getD_eq_getElem?_getD, List.getElem?_eq_none (by rw [size_eq]; omega)]
      rfl
    rw [hz]
    go_enter Tryd.func79, Tryd.ntmps79
    go_wp2_with fail
    refine wp_region_quiet_below (by kernel_rfl) (by kernel_rfl) ?_
    repeat (go_big_quiet_step ((go_at_call 27; exact Calls.regrown_of (hB.out _))))
    refine wpQuiet_nil ?_
    intro w2 hw'
    have hb : Below w.heap.size w w2 := below_of_regrown hw'
    clear hw'
    go_wp2_with fail
    go_ret
    exact ⟨rfl, hb⟩

/-- append to a row that the call owns, as one step of a region that draws. -/
theorem step_append_own {P : Program} {ops : Array Oper} {o : Oper} {a : Act} {w : World} {K : Act → World → Prop} {Q : Exit → Act → World → Prop} {E : Prop}
    (hg : o.guard = none) (s x : Operand) (t : TypeId) (hop : o.op = Op.call { callee := Callee.builtin Builtin.append, args := #[s, x], argTypes := #[t, t] })
    (e : TypeId) (i : TypeInfo) (z : Value) (size bytes : Nat) (h1 : P.underlying t = some (.slice e)) (h2 : P.info? e = some i) (h3 : i.zero = some z) (h4 : i.size = size) (h5 : i.bytes = bytes) (h6 : z.cells.size = size) (h7 : 0 < size)
    (B : Nat) (v : Value) (n : Nat) (olds : List Value) (hs : a.eval s = v) (hown : w.ownsRow B e size v n olds) (hB : B ≤ w.heap.size)
    (ad : Addr) (m c : Nat) (news : List Value) (hx : a.eval x = .slice (some ad) m c) (hn : news.length = m * size) (hc : ∀ j u, news[j]? = some u → w.cell? (ad.add j) = some u) (h1c : ∀ u ∈ news, u.oneCell' = true)
    (b1 : n + m ≤ maxLen) (b2 : (n + m) * bytes ≤ 140737488355328)
    (hK : ∀ v' w', w'.ownsRow B e size v' (n + m) (olds ++ news) → w.grownBy w' v.ownBlock → K (a.put o.dst v') w') :
    if Region.wanted o (yielded ops a.tmps) = true then Oper.wp P o a w K Q else E := by
  have hw : Region.wanted o (yielded ops a.tmps) = true := by simp [Region.wanted, hg]
  rw [if_pos hw]
  obtain ⟨v', w', hrun, r1, r2, _⟩ := run_append_own (P := P) w B t o.type e i z size bytes h1 h2 h3 h4 h5 h6 h7 v n olds hown ad m c news hn hc h1c b1 b2 hB
  unfold Oper.wp
  simp [execOp, hop, resolve, invoke, builtin, hs, hx, hrun, Result.andThen]
  exact hK v' w' r1 r2

set_option maxHeartbeats 4000000 in
set_option maxRecDepth 100000 in
theorem aAdd_any (r q B : Nat) (s : ByteArray) (i : Nat) (v : Value) (P : List APart) (j : Bool) (p : APart) (jn : Bool) (w : World) (hP : P.length ≤ 100000) (hBw : B ≤ w.heap.size) (hR : ARdr w r q B s i v P j) :
    Calls Tryd.prog 91 #[.pointer (some ⟨r, 0, none⟩), .agg p.cells.toArray, .bool jn] w fun e w' => e = .returned (.tuple #[]) ∧ (∃ v', ARdr w' r q B s i v' (P ++ [p]) jn) ∧ Kept (RB r B) w w' := by
  obtain ⟨i0, hi0, hz0, hz1, hz2⟩ := info_parts infoAPart
  have c0 := hR.c0
  have c2 := hR.c2
  have c3 := hR.c3
  have f2 := hR.fr 2
  have f3 := hR.fr 3
  have hlr := hR.here.lt
  have hlq := hR.src.lt
  have hform := hR.row.form
  obtain ⟨ao, cap, rfl⟩ := hform
  have hner : ∀ k, some k = (Value.slice ao P.length cap).ownBlock → B ≤ k := fun k e => (hR.row.lt k e.symm).1
  have hrlt := hR.rlt
  have hrq := hR.ne
  have hqlt := hR.qlt
  have hrow : ∀ o1 o2 : Obj, PartsAt ((w.alloc o1).drew.alloc o2) B (.slice ao P.length cap) P := fun o1 o2 => (PartsAt.below (hR.row.alloc o1) ⟨rfl, rfl, rfl, Nat.le_refl _, fun _ _ => rfl⟩).alloc o2
  unfold APart.cells
  go_enter Tryd.func91, Tryd.ntmps91
  go_wp2_with fail
  go_region_law (refine step_append_own rfl _ _ 57 rfl 61 i0 _ 5 48 Tryd.underlying57 hi0 hz0 hz1 hz2 rfl (by decide) B _ P.length (P.flatMap APart.cells) rfl (hrow _ _) ?_ ⟨w.heap.size + 1, 0, none⟩ 1 1 [.int .i64 p.kind, .int .i64 p.place, .int .i64 p.num, .bool p.quoted, .string (bs p.text)] rfl rfl ?_ ?_ ?_ ?_ ?_; (focus (first | (simp; done) | (simp; omega))); (focus (exact cells_new (by simp))); (focus (intro u hu; simp at hu; rcases hu with rfl | rfl | rfl | rfl | rfl <;> rfl)); (focus (unfold maxLen; omega)); (focus (first | omega | (simp; done))); (intro v' w5 hown' hgrow; have hP5 : PartsAt w5 B v' (P ++ [p]) := (by unfold PartsAt; rw [List.length_append, List.flatMap_append]; exact hown'); obtain ⟨ao', cap', rfl⟩ := hP5.form; have hH5 : Blk w5 r [.pointer (some ⟨q, 0, none⟩), .int .i64 i, .slice ao P.length cap, .bool j] := ((hR.here.alloc _).alloc _).of_heap (hgrow.block r (by first | (simp; done) | (simp; omega)) (fun e => by have := hner _ e; omega)); have hS5 : Blk w5 q [.string s] := ((hR.src.alloc _).alloc _).of_heap (hgrow.block q (by first | (simp; done) | (simp; omega)) (fun e => by have := hner _ e; omega)); have d2 := hH5.cell 2 rfl; have d3 := hH5.cell 3 rfl; have e2 := hH5.free 2; have e3 := hH5.free 3))
  all_goals
    have hK5 : Kept (RB r B) w w5 := Kept.grown (by repeat (first | exact Kept.refl _ _ | with_reducible refine Kept.alloc ?_ _ | with_reducible refine Kept.drew ?_)) hgrow (fun k hk _ => .inr (hner k hk.symm))
    have hP6 : PartsAt w5 B (.slice ao' (P.length + 1) cap') (P ++ [p]) := by
      have e : (P ++ [p]).length = P.length + 1 := by simp
      rw [e] at hP5
      exact hP5
    refine bodyPost_end (results_none rfl _ _ _) rfl ?_
    refine ⟨rfl, ⟨.slice ao' (P.length + 1) cap', ?_, ?_, ?_, hR.ne, hR.rlt, hR.qlt⟩, ?_⟩
    · apply Blk.as
      repeat (first | (with_reducible assumption) | ((with_reducible apply Blk.newAt); (focus (simp; done))) | (with_reducible apply Blk.set) | ((with_reducible apply Blk.other); (case hp => first | omega | (simp; omega) | simp)) | (with_reducible apply Blk.alloc) | (with_reducible apply Blk.drewN) | (with_reducible apply Blk.drew))
      rfl
    · apply Blk.as
      repeat (first | (with_reducible assumption) | ((with_reducible apply Blk.newAt); (focus (simp; done))) | (with_reducible apply Blk.set) | ((with_reducible apply Blk.other); (case hp => first | omega | (simp; omega) | simp)) | (with_reducible apply Blk.alloc) | (with_reducible apply Blk.drewN) | (with_reducible apply Blk.drew))
      rfl
    · repeat (first | (with_reducible assumption) | ((with_reducible refine PartsAt.other ?_ ?_ _); rotate_left; (focus (first | omega | simpa using hrlt))))
    · repeat (first | (with_reducible assumption) | ((with_reducible refine Kept.setCell ?_ ?_ _); rotate_left; (focus (exact fun _ => .inl rfl))))

end Go.Proofs.YtdadgodjjfgmfaaDoor
