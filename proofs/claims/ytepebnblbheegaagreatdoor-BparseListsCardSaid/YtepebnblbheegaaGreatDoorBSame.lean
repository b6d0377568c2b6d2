/- core.Has, core.Same: what they answer. -/
import Derived.Test.YtepebnblbheegaaGreatDoorBLookG
import Derived.Laws.StructEq
namespace Go.Proofs.YtepebnblbheegaaGreatDoor
open Go Go.RowKit

set_option maxHeartbeats 4000000 in
set_option maxRecDepth 100000 in
theorem cHas1_any (x : PNode) (Bs kb c : Nat) (ks : List Nat) (w : World) (hks : ks.length ≤ 100) (hk : Blk w kb (ks.map fun (k : Nat) => Value.int .i64 (k : Int))) (hB : w.cell? ⟨Bs, 0, none⟩ = some (.slice (some ⟨kb, 0, none⟩) ks.length c)) :
    Calls Tryz.prog 54 #[.agg #[.int .i64 x.kind, .int .i64 x.n, .int .i64 x.k, .int .i64 x.size, .string (bs x.text)], .pointer (some ⟨Bs, 0, none⟩)] w fun e w' => e = .returned (.bool (((ks.map fun (k : Nat) => (k : Int)).take ks.length).contains x.kind)) ∧ Below w.heap.size w w' := by
  have hb0 := (Below.refl w.heap.size w).alloc (Nat.le_refl _) (.cells #[.int .i64 x.kind, .int .i64 x.n, .int .i64 x.k, .int .i64 x.size, .string (bs x.text)] 82)
  have HK := Lib.hid (ints_cells (hk.below hb0))
  have c0 := bSome hb0 hB
  obtain ⟨r, hr⟩ : ∃ r, ((ks.map fun (k : Nat) => (k : Int)).take ks.length).contains x.kind = r := ⟨_, rfl⟩
  have HR := Lib.hid hr
  rw [hr]
  clear hk hB hr
  go_enter Tryz.func54, Tryz.ntmps54
  go_wp2_with fail
  refine (Tryz.slices_Contains_int kb 0 ks.length c (ks.map fun (k : Nat) => (k : Int)) _ _ (by simp) (by omega) HK.out).mono ?_
  rintro e w2 ⟨rfl, rfl⟩
  rw [HR.out]
  go_wp2_with fail
  go_ret
  exact ⟨rfl, hb0⟩

set_option maxHeartbeats 4000000 in
set_option maxRecDepth 100000 in
theorem slIndexFuncN_no (l : Prog) (b Bs kb c : Nat) (ks : List Nat) (v : Value) (w : World) (hN : NSl w b v l) (hl : l.length ≤ 100000000) (hks : ks.length ≤ 100) (hk : Blk w kb (ks.map fun (k : Nat) => Value.int .i64 (k : Int))) (hB : w.cell? ⟨Bs, 0, none⟩ = some (.slice (some ⟨kb, 0, none⟩) ks.length c))
    (hno : ∀ x ∈ l, ((ks.map fun (k : Nat) => (k : Int)).take ks.length).contains x.kind = false) :
    Calls Tryz.prog 95 #[v, .func (.func 54) #[] #[.pointer (some ⟨Bs, 0, none⟩)]] w fun e w' => e = .returned (.int .i64 (-1)) ∧ Below w.heap.size w w' := by
  obtain ⟨g, cap, rfl, h1, h2, h3, h4, h5⟩ := hN
  have HR := Lib.hid h5
  have HNO := Lib.hid hno
  obtain ⟨n, hn⟩ : ∃ n, l.length = n := ⟨_, rfl⟩
  have HN := Lib.hid hn
  have HK := Lib.hid hk
  have HB := Lib.hid hB
  rw [hn] at hl h1 ⊢
  clear h5 hno hn hk hB h3
  go_enter Tryz.func95, Tryz.ntmps95
  go_wp2_with fail
  go_loopg [8] n (fun m x wr => ∃ k : Nat, m = n - k ∧ k ≤ n ∧ x = .int .i64 k ∧ Below w.heap.size w wr)
  case atStart => exact ⟨0, rfl, Nat.zero_le _, rfl, Below.refl _ _⟩
  case round =>
    obtain ⟨k, rfl, hkn, rfl, hb⟩ := hrel
    by_cases hlt : k < n
    · obtain ⟨x, hx⟩ : ∃ x, l[k]? = some x := ⟨_, List.getElem?_eq_getElem (by have := HN.out; omega)⟩
      obtain ⟨n0, n1, n2, n3, n4⟩ := NRow.facts2 HR.out hx
      have m0 := bSome hb n0
      have m1 := bSome hb n1
      have m2 := bSome hb n2
      have m3 := bSome hb n3
      have m4 := bSome hb n4
      have HX := Lib.hid (cHas1_any x Bs kb c ks wr hks (HK.out.below hb) (bSome hb HB.out))
      have HF := Lib.hid (HNO.out x (List.mem_of_getElem? hx))
      clear n0 n1 n2 n3 n4 hx
      go_wp2_with fail
      refine HX.out.mono ?_
      rintro e w2 ⟨rfl, hb2⟩
      rw [HF.out]
      have hb3 := bNext hb hb2
      go_wp2_with fail
      go_roundg (n - (k + 1))
      case measure => omega
      case rel => exact ⟨k + 1, rfl, by omega, by go_num, hb3⟩
    · obtain rfl : k = n := by omega
      go_wp2_with fail
      go_ret
      exact ⟨rfl, hb⟩

set_option maxHeartbeats 4000000 in
set_option maxRecDepth 100000 in
/-- No node is of these kinds. -/
theorem cHas_no (l : Prog) (b kb c : Nat) (ks : List Nat) (v : Value) (w : World) (hN : NSl w b v l) (hl : l.length ≤ 100000000) (hks : ks.length ≤ 100) (hk : Blk w kb (ks.map fun (k : Nat) => Value.int .i64 (k : Int)))
    (hno : ∀ x ∈ l, ((ks.map fun (k : Nat) => (k : Int)).take ks.length).contains x.kind = false) :
    Calls Tryz.prog 27 #[v, .slice (some ⟨kb, 0, none⟩) ks.length c] w fun e w' => e = .returned (.bool false) ∧ Below w.heap.size w w' := by
  have hmf : ∀ (fn : Fn) (first cap : Array Value) (w : World), (Instr.makeFunc fn first cap).run Tryz.prog w = .ok (.func fn first cap) w := fun _ _ _ _ => rfl
  have hb0 := (Below.refl w.heap.size w).alloc (Nat.le_refl _) (.cells #[.slice (some ⟨kb, 0, none⟩) ks.length c] 28)
  have HI : Hid (Calls Tryz.prog 53 #[v, .func (.func 54) #[] #[.pointer (some ⟨w.heap.size, 0, none⟩)]] (w.alloc (.cells #[.slice (some ⟨kb, 0, none⟩) ks.length c] 28)) fun e w' => e = .returned (.bool false) ∧ Below (w.alloc (.cells #[.slice (some ⟨kb, 0, none⟩) ks.length c] 28)).heap.size (w.alloc (.cells #[.slice (some ⟨kb, 0, none⟩) ks.length c] 28)) w') := Lib.hid (by
    have hc := (Blk.new w [Value.slice (some ⟨kb, 0, none⟩) ks.length c] 28).cell 0 rfl
    have HX := Lib.hid (slIndexFuncN_no l b w.heap.size kb c ks v _ (hN.below hb0) hl hks (hk.below hb0) hc hno)
    obtain ⟨g, cap, rfl, -⟩ := hN
    clear hc hno hk hmf
    generalize w.alloc (.cells #[.slice (some ⟨kb, 0, none⟩) ks.length c] 28) = w1 at *
    generalize l.length = n at *
    go_enter Tryz.func53, Tryz.ntmps53
    go_wp2_with fail
    refine HX.out.mono ?_
    rintro e w2 ⟨rfl, hb2⟩
    go_wp2_with fail
    go_ret
    exact ⟨rfl, hb2⟩)
  obtain ⟨g, cap, rfl, -⟩ := hN
  generalize l.length = n at *
  clear hno hk
  go_enter Tryz.func27, Tryz.ntmps27
  go_wp2_with fail
  refine HI.out.mono ?_
  rintro e w2 ⟨rfl, hb2⟩
  go_wp2_with fail
  go_ret
  exact ⟨rfl, bNext hb0 hb2⟩

theorem run_neq_node (w : World) (a b c d : Int) (s : ByteArray) : (binOp .neq 82 (.agg #[.int .i64 a, .int .i64 b, .int .i64 c, .int .i64 d, .string s]) (.agg #[.int .i64 a, .int .i64 b, .int .i64 c, .int .i64 d, .string s])).run Tryz.prog w = .ok (.bool false) w := by
  have hS : Tryz.prog.underlying 82 = some (.struct (Tryz.prog.fieldsOf 82)) := by kernel_rfl
  have hp : Tryz.prog.stoodInHeld 82 = false := by kernel_rfl
  have u3 := Tryz.underlying3
  have a3 := Tryz.isAgg3
  have z3 := Tryz.sizeOf3
  have u4 := Tryz.underlying9
  have a4 := Tryz.isAgg9
  have z4 := Tryz.sizeOf9
  rw [run_neq_struct, show (10000 : Nat) = 9999 + 1 from rfl, run_equalIn_agg w 9999 82 _ _ hS hp]
  simp only [Program.fieldsOf, Tryz.underlying82]
  go_simp

set_option maxHeartbeats 4000000 in
set_option maxRecDepth 100000 in
theorem slEqualN_eq (l : Prog) (b b2 : Nat) (v u : Value) (w : World) (hN : NSl w b v l) (hM : NSl w b2 u l) (hl : l.length ≤ 100000000) :
    Calls Tryz.prog 51 #[v, u] w fun e w' => e = .returned (.bool true) ∧ Below w.heap.size w w' := by
  obtain ⟨g, cap, rfl, h1, h2, h3, h4, h5⟩ := hN
  obtain ⟨g2, cap2, rfl, k1, k2, k3, k4, k5⟩ := hM
  have HR := Lib.hid h5
  have HR2 := Lib.hid k5
  obtain ⟨n, hn⟩ : ∃ n, l.length = n := ⟨_, rfl⟩
  have HN := Lib.hid hn
  rw [hn] at hl h1 k1 ⊢
  have qN := run_neq_node
  clear h5 k5 hn h3 k3
  go_enter Tryz.func51, Tryz.ntmps51
  go_wp2_with fail
  go_loopg [13] n (fun m x wr => ∃ k : Nat, m = n - k ∧ k ≤ n ∧ x = .int .i64 k ∧ Below w.heap.size w wr)
  case atStart => exact ⟨0, rfl, Nat.zero_le _, rfl, Below.refl _ _⟩
  case round =>
    obtain ⟨k, rfl, hkn, rfl, hb⟩ := hrel
    by_cases hlt : k < n
    · obtain ⟨x, hx⟩ : ∃ x, l[k]? = some x := ⟨_, List.getElem?_eq_getElem (by have := HN.out; omega)⟩
      obtain ⟨n0, n1, n2, n3, n4⟩ := NRow.facts2 HR.out hx
      obtain ⟨q0, q1, q2, q3, q4⟩ := NRow.facts2 HR2.out hx
      have m0 := bSome hb n0
      have m1 := bSome hb n1
      have m2 := bSome hb n2
      have m3 := bSome hb n3
      have m4 := bSome hb n4
      have r0 := bSome hb q0
      have r1 := bSome hb q1
      have r2 := bSome hb q2
      have r3 := bSome hb q3
      have r4 := bSome hb q4
      clear n0 n1 n2 n3 n4 q0 q1 q2 q3 q4 hx
      go_wp2_with fail
      go_region
      go_wp2_with fail
      go_roundg (n - (k + 1))
      case measure => omega
      case rel => exact ⟨k + 1, rfl, by omega, by go_num, bDrew1 hb⟩
    · obtain rfl : k = n := by omega
      go_wp2_with fail
      go_ret
      exact ⟨rfl, hb⟩

set_option maxHeartbeats 4000000 in
set_option maxRecDepth 100000 in
/-- The same program. -/
theorem cSame_eq (l : Prog) (b b2 : Nat) (v u : Value) (w : World) (hN : NSl w b v l) (hM : NSl w b2 u l) (hl : l.length ≤ 100000000) :
    Calls Tryz.prog 24 #[v, u] w fun e w' => e = .returned (.bool true) ∧ Below w.heap.size w w' := by
  have HX := Lib.hid (slEqualN_eq l b b2 v u w hN hM hl)
  obtain ⟨g, cap, rfl, -⟩ := hN
  obtain ⟨g2, cap2, rfl, -⟩ := hM
  generalize l.length = n at *
  go_enter Tryz.func24, Tryz.ntmps24
  go_wp2_with fail
  refine HX.out.mono ?_
  rintro e w2 ⟨rfl, hb2⟩
  go_wp2_with fail
  go_ret
  exact ⟨rfl, hb2⟩

end Go.Proofs.YtepebnblbheegaaGreatDoor
