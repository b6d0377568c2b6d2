/- What the statements' helper sees of an error: contracts. -/
import Derived.Test.YtdadgodjjfgmfaaDoorSents
import Derived.LaidEql
import Derived.Deep.RegionHeld3
namespace Go.Proofs.YtdadgodjjfgmfaaDoor
open Go Go.RowKit

theorem compErr : (Tryd.prog.info? 151).map (·.comparable) = some true := by kernel_rfl
theorem sizeErr : (Tryd.prog.info? 165).map (·.size) = some 1 := by kernel_rfl

set_option maxRecDepth 100000 in
theorem seeAlike_same (a : Addr) (w : World) :
    Calls Tryd.prog 87 #[.iface 151 (.pointer (some a)), .iface 151 (.pointer (some a))] w fun e w' => e = .returned (.bool true) ∧ w = w' := by
  obtain ⟨i, hi, hcmp⟩ := Option.map_eq_some_iff.1 compErr
  obtain ⟨j, hj, _⟩ := Option.map_eq_some_iff.1 sizeErr
  go_enter Tryd.func87, Tryd.ntmps87
  go_wp2
  rw [run_eql_iface_ptr_same w a Tryd.underlying25 Tryd.underlying151 hi hcmp hj]
  go_wp2
  go_ret
  exact ⟨rfl, rfl⟩

set_option maxRecDepth 100000 in
theorem seeAlike_other (a b : Addr) (ca cb : Array Value) (ta tb : TypeId) (w : World) (hne : a ≠ b) (ha : w.heap[a.block]? = some (.cells ca ta (0, 0))) (hb : w.heap[b.block]? = some (.cells cb tb (0, 0))) :
    Calls Tryd.prog 87 #[.iface 151 (.pointer (some a)), .iface 151 (.pointer (some b))] w fun e w' => e = .returned (.bool false) ∧ w = w' := by
  obtain ⟨i, hi, hcmp⟩ := Option.map_eq_some_iff.1 compErr
  obtain ⟨j, hj, hjs⟩ := Option.map_eq_some_iff.1 sizeErr
  go_enter Tryd.func87, Tryd.ntmps87
  go_wp2
  rw [run_eql_iface_ptr_other w Tryd.underlying25 Tryd.underlying151 hi hcmp hj (by rw [hjs]; decide) hne ha hb]
  go_wp2
  go_ret
  exact ⟨rfl, rfl⟩

def sentV (sent : Nat → Addr) (c : Nat) : Value := .iface 151 (.pointer (some (sent c)))
def sentVals (sent : Nat → Addr) : List Value := [sentV sent 101, sentV sent 102, sentV sent 103, sentV sent 104, sentV sent 105, sentV sent 106, sentV sent 107, sentV sent 108, sentV sent 109, sentV sent 110, sentV sent 111, sentV sent 112, sentV sent 113, sentV sent 114, sentV sent 115, sentV sent 116, sentV sent 117]

theorem seeSentinels_any (w : World) (sent : Nat → Addr) (hE : Env w sent) :
    Calls Tryd.prog 86 #[] w fun e w' => e = .returned (.slice (some ⟨w.heap.size, 0, none⟩) 17 17) ∧ Blk w' w.heap.size (sentVals sent) ∧ Below w.heap.size w w' := by
  have h1 := hE 101 _ (by decide : (101, 0) ∈ errVars)
  have h2 := hE 102 _ (by decide : (102, 5) ∈ errVars)
  have h3 := hE 103 _ (by decide : (103, 2) ∈ errVars)
  have h4 := hE 104 _ (by decide : (104, 6) ∈ errVars)
  have h5 := hE 105 _ (by decide : (105, 7) ∈ errVars)
  have h6 := hE 106 _ (by decide : (106, 3) ∈ errVars)
  have h7 := hE 107 _ (by decide : (107, 1) ∈ errVars)
  have h8 := hE 108 _ (by decide : (108, 8) ∈ errVars)
  have h9 := hE 109 _ (by decide : (109, 9) ∈ errVars)
  have h10 := hE 110 _ (by decide : (110, 10) ∈ errVars)
  have h11 := hE 111 _ (by decide : (111, 11) ∈ errVars)
  have h12 := hE 112 _ (by decide : (112, 12) ∈ errVars)
  have h13 := hE 113 _ (by decide : (113, 13) ∈ errVars)
  have h14 := hE 114 _ (by decide : (114, 14) ∈ errVars)
  have h15 := hE 115 _ (by decide : (115, 15) ∈ errVars)
  have h16 := hE 116 _ (by decide : (116, 16) ∈ errVars)
  have h17 := hE 117 _ (by decide : (117, 17) ∈ errVars)
  go_enter Tryd.func86, Tryd.ntmps86
  go_wp2
  go_ret
  exact ⟨rfl, Blk.new w (sentVals sent) _, (Below.refl _ _).alloc (Nat.le_refl _) _⟩

theorem sentVals_get (sent : Nat → Addr) (k : Nat) (h : k < 17) : (sentVals sent)[k]? = some (.iface 151 (.pointer (some (sent (101 + k))))) := by
  have e : sentVals sent = (List.range 17).map (fun k => sentV sent (101 + k)) := rfl
  rw [e, List.getElem?_map, List.getElem?_range h]
  rfl

set_option maxRecDepth 100000 in
theorem seeSentinel_any (w : World) (sent : Nat → Addr) (hS : Sents w sent) (c : Nat) (h1 : 101 ≤ c) (h2 : c ≤ 117) :
    Calls Tryd.prog 71 #[.iface 151 (.pointer (some (sent c)))] w fun e w' => e = .returned (.int .i64 c) ∧ Below w.heap.size w w' := by
  go_enter Tryd.func71, Tryd.ntmps71
  go_wp2_with fail
  refine (seeSentinels_any w sent hS.env).mono ?_
  rintro e w1 ⟨rfl, hB, hb⟩
  have hS1 := hS.below hb
  clear hS
  obtain ⟨q, hq⟩ : ∃ q, w.heap.size = q := ⟨_, rfl⟩
  rw [hq] at hB hb ⊢
  go_wp2_with fail
  go_loopg [4] (17) (fun m x wr => ∃ k : Nat, m = 17 - k ∧ k ≤ c - 101 ∧ x = .int .i64 k ∧ Blk wr q (sentVals sent) ∧ Sents wr sent ∧ Below q w wr)
  case atStart => exact ⟨0, rfl, Nat.zero_le _, rfl, hB, hS1, hb⟩
  case round =>
    clear hB hS1 hb
    obtain ⟨k, rfl, hk, rfl, hB, hS, hb⟩ := hrel
    have hcell := hB.cell k (sentVals_get sent k (by omega))
    by_cases hlt : k = c - 101
    · obtain rfl : c = 101 + k := by omega
      clear hlt
      go_wp2_with fail
      refine (seeAlike_same _ _).mono ?_
      rintro e w3 ⟨rfl, rfl⟩
      go_wp2_with fail
      go_ret
      exact ⟨by simp, hq ▸ hb⟩
    · obtain ⟨ca, ta, ea⟩ := hS.blk c h1 h2
      obtain ⟨cb, tb, eb⟩ := hS.blk (101 + k) (by omega) (by omega)
      have hne := hS.ne c (101 + k) h1 h2 (by omega) (by omega) (by omega)
      go_wp2_with fail
      refine (seeAlike_other _ _ ca cb ta tb _ hne ea eb).mono ?_
      rintro e w3 ⟨rfl, rfl⟩
      go_wp2_with fail
      go_roundg (17 - (k + 1))
      case measure => omega
      case rel => exact ⟨k + 1, rfl, by omega, by go_num, hB, hS, hb⟩

/-- patoisref.Fault, as a value. -/
def faultV (c : Int) (l : Value) : Value := .agg #[.int .i64 c, l]

/-- A result that is a struct which lies in memory. -/
theorem results_blk1 {P : Program} {fn : Func} {p : Tmp} {ty : TypeId} (h : fn.results = #[.cell p ty]) (tmps : Array Value) (w : World) (g : Nat) (cs : List Value) (d : TypeDesc)
    (hp : tmps.getD p undef = .pointer (some ⟨g, 0, none⟩)) (hg : Blk w g cs) (hu : P.underlying ty = some d) (hd : (match d with | .struct _ | .array _ _ => true | _ => false) = true) (hi : (P.info? ty).map (·.size) = some cs.length) :
    (results fn tmps).run P w = .ok (.agg cs.toArray) w := by
  obtain ⟨t, hg⟩ := hg
  exact results_cell_row h tmps w g t cs.toArray (0, 0) d hp hg hu hd (by simpa using hi)

theorem asAt_no (x : Addr) (w : World) : (Instr.typeAssert (.iface 151 (.pointer (some x))) 25 102 true).run Tryd.prog w = .ok (.tuple #[.pointer none, .bool false]) w := by kernel_rfl
theorem asAt_yes (x : Addr) (w : World) : (Instr.typeAssert (.iface 102 (.pointer (some x))) 25 102 true).run Tryd.prog w = .ok (.tuple #[.pointer (some x), .bool true]) w := by kernel_rfl

theorem rBare_any (c : Int) (w : World) :
    Calls Tryd.prog 69 #[.int .i64 c] w fun e w' => e = .returned (faultV c (.slice none 0 0)) ∧ Below w.heap.size w w' := by
  go_enter Tryd.func69, Tryd.ntmps69
  go_wp2
  refine bodyPost_ret (results_blk1 (p := 2) (g := w.heap.size) (cs := [.int .i64 c, .slice none 0 0]) rfl _ _ _ rfl (Blk.newAt _ _ rfl) Tryd.underlying33 rfl (by kernel_rfl)) rfl ?_
  exact ⟨rfl, (Below.refl _ _).alloc (Nat.le_refl _) _⟩

set_option maxRecDepth 100000 in
theorem seefault_sent (w : World) (sent : Nat → Addr) (hS : Sents w sent) (c : Nat) (h1 : 101 ≤ c) (h2 : c ≤ 117) (n : Nat) (hn : 1 ≤ n) (hn9 : n ≤ 9) :
    Calls Tryd.prog 49 #[.iface 151 (.pointer (some (sent c))), .int .i64 n] w fun e w' => e = .returned (faultV c (.slice none 0 0)) ∧ Below w.heap.size w w' := by
  have hA := asAt_no (sent c)
  have hn0 : ((n : Int) == 0) = false := by rw [beq_eq_false_iff_ne]; omega
  have hb0 := (Below.refl w.heap.size w).alloc (Nat.le_refl _) (Obj.cells #[Value.int IntKind.i64 0, Value.slice none 0 0] 33)
  have hS1 := hS.below hb0
  have B0 := Blk.newAt (w := w) [Value.int IntKind.i64 0, Value.slice none 0 0] 33 rfl
  go_enter Tryd.func49, Tryd.ntmps49
  go_wp2_with fail
  refine (seeSentinel_any _ sent hS1 c h1 h2).mono ?_
  rintro e w1 ⟨rfl, hb1⟩
  have B1 := B0.below hb1
  have hB1 := bNext hb0 hb1
  clear hS1 B0 hb0 hb1
  go_wp2_with fail
  refine (rBare_any _ _).mono ?_
  rintro e w2 ⟨rfl, hb2⟩
  have B2 := B1.below hb2
  have hB2 := bNext hB1 hb2
  have c0 := B2.cell 0 rfl
  have c1 := B2.cell 1 rfl
  have f0 := B2.free 0
  have f1 := B2.free 1
  have hK := (Kept.ofBelow hB2 : Kept Nowhere w w2)
  clear B1 hB1 hb2
  unfold faultV
  go_wp2_with fail
  (try simp only [Exit.inBlock, Exit.then])
  refine bodyPost_ret (results_blk1 (p := 4) (g := w.heap.size) (cs := [.int .i64 c, .slice none 0 0]) rfl _ _ _ rfl ?_ Tryd.underlying33 rfl (by kernel_rfl)) rfl ⟨rfl, ?_⟩
  · apply Blk.as
    repeat (first | (with_reducible assumption) | ((with_reducible apply Blk.newAt); (focus (simp; done))) | (with_reducible apply Blk.set) | ((with_reducible apply Blk.other); (case hp => first | omega | (simp; omega) | simp)) | (with_reducible apply Blk.alloc) | (with_reducible apply Blk.drewN) | (with_reducible apply Blk.drew))
    rfl
  · apply Kept.toBelow
    repeat (first | (with_reducible assumption) | (with_reducible exact Kept.refl _ _) | ((with_reducible refine Kept.setCell ?_ ?_ _); rotate_left; (focus (first | exact fun _ => rfl | exact fun h => absurd h (by first | omega | (simp; omega) | simp)))) | (with_reducible refine Kept.alloc ?_ _) | (with_reducible refine Kept.drewN ?_ _) | (with_reducible refine Kept.drew ?_))

end Go.Proofs.YtdadgodjjfgmfaaDoor
