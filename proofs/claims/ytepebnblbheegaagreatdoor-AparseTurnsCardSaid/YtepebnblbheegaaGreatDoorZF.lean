/- What patoislaw13.spells answers. -/
import Derived.Test.YtepebnblbheegaaGreatDoorBParseG
import Derived.Test.YtepebnblbheegaaGreatDoorRef5H
import Derived.Test.YtepebnblbheegaaGreatDoorZE
import Derived.Test.YtepebnblbheegaaGreatDoorZB
import Derived.Test.YtepebnblbheegaaGreatDoorParseG
import Derived.Test.YtepebnblbheegaaGreatDoorZK
import Derived.Laws.StructEq
namespace Go.Proofs.YtepebnblbheegaaGreatDoor
open Go Go.RowKit
theorem checkP_none {l : Prog} (h : checkP l = none) : 0 < l.length ∧ l.length ≤ 3000 ∧ lookP l (3 * l.length) 0 l.length 1 false true = some none := by
 unfold checkP at h
 by_cases h0 : l.length = 0 ∨ 3000 < l.length
 ·rw [if_pos h0] at h
  cases h
 ·rw [if_neg h0] at h
  refine ⟨by omega, by omega, ?_⟩
  cases hq : lookP l (3 * l.length) 0 l.length 1 false true with
  | none => rw [hq] at h; cases h
  | some r =>
   cases r with
   | none => rfl
   | some q =>
    rw [hq] at h
    cases h
theorem fault_f0 (a b : Value) (w : World) : (Instr.field 30 (.agg #[a, b]) 0).run Tryz.prog w = .ok a w := by kernel_rfl
end Go.Proofs.YtepebnblbheegaaGreatDoor
namespace Go.Proofs.YtepebnblbheegaaGreatDoor
open Go Go.RowKit
theorem nfix_list {l : Prog} (hl : l.length ≤ 400000) (h : ∀ x ∈ l, x.text.length ≤ 100000 ∧ (-9223372036854775808 ≤ x.k ∧ x.k < 9223372036854775808) ∧ -9223372036854775808 ≤ x.size ∧ x.size < 9223372036854775808) : NFix l := by
 have hd : ∀ i, ndAt l i ∈ l ∨ ndAt l i = ⟨0, 0, 0, 0, []⟩ := fun i => by
  unfold ndAt
  rw [List.getD_eq_getElem?_getD]
  by_cases hi : i < l.length
  ·rw [List.getElem?_eq_getElem hi]
   exact .inl (List.getElem_mem hi)
  ·rw [List.getElem?_eq_none (by omega)]
   exact .inr rfl
 have hf : ∀ i, (ndAt l i).text.length ≤ 100000 ∧ (-9223372036854775808 ≤ (ndAt l i).k ∧ (ndAt l i).k < 9223372036854775808) ∧ -9223372036854775808 ≤ (ndAt l i).size ∧ (ndAt l i).size < 9223372036854775808 := fun i => by
  rcases hd i with h1 | h1
  ·exact h _ h1
  ·rw [h1]; simp
 exact ⟨hl, fun i => (hf i).1, fun i => (hf i).2.1, fun i => (hf i).2.2⟩
def KidsP (kids : List Prog) (ts : List (List UInt8)) : Prop := ∀ (j : Nat) (kid : Prog) (t : List UInt8), kids[j]? = some kid → ts[j]? = some t → Prints kid t
theorem KidsP.nil : KidsP [] [] := fun j kid t h => by simp at h
theorem KidsP.cons {p : Prog} {t : List UInt8} {ps : List Prog} {ts : List (List UInt8)} (h : Prints p t) (hr : KidsP ps ts) : KidsP (p :: ps) (t :: ts) := fun j kid u h1 h2 => by
 cases j with
 | zero =>
  simp only [List.getElem?_cons_zero, Option.some.injEq] at h1 h2
  subst h1
  subst h2
  exact h
 | succ j => exact hr j kid u (by simpa using h1) (by simpa using h2)
end Go.Proofs.YtepebnblbheegaaGreatDoor

namespace Go.Proofs.YtepebnblbheegaaGreatDoor
set_option maxRecDepth 100000
open Go Go.RowKit
theorem and63n (n : Int) : bits .and .i64 n 63 = n % 64 := by
 have h127 : (BitVec.ofInt 64 63).toNat = 2 ^ 6 - 1 := by decide
 have key : (BitVec.ofInt 64 n &&& BitVec.ofInt 64 63).toNat = (n % ((2 ^ 64 : Nat) : Int)).toNat % 2 ^ 6 := by
  rw [BitVec.toNat_and, BitVec.toNat_ofInt, h127, Nat.and_two_pow_sub_one_eq_mod]
 show IntKind.i64.wrap ((BitVec.ofInt 64 n &&& BitVec.ofInt 64 63).toNat : Nat) = n % 64
 rw [key, IntKind.wrap_i64]
 omega
theorem seeFault_nil (w : World) : Calls Tryz.prog 22 #[.nilIface] w fun e w' => e = .returned (.agg #[.int .i64 0, .slice none 0 0]) ∧ Below w.heap.size w w' := by
 go_enter Tryz.func22, Tryz.ntmps22
 have hb0 := (Below.refl w.heap.size w).alloc (Nat.le_refl _) (Obj.cells #[Value.int IntKind.i64 0, Value.slice none 0 0] 30)
 go_wp2_with fail
 refine (rNone_any9 _).mono ?_
 rintro e w2 ⟨rfl, hb2⟩
 have B2 := (Blk.newAt (w := w) [Value.int IntKind.i64 0, Value.slice none 0 0] 30 rfl).below hb2
 have hB2 := bNext hb0 hb2
 have c0 := B2.cell 0 rfl
 have c1 := B2.cell 1 rfl
 have f0 := B2.free 0
 have f1 := B2.free 1
 have hK := (Kept.ofBelow hB2 : Kept Nowhere w w2)
 clear hb2 hb0
 go_wp2_with fail
 (try simp only [Exit.inBlock, Exit.then])
 refine bodyPost_ret (results_blk1 (p := 2) (g := w.heap.size) (cs := [.int .i64 0, .slice none 0 0]) rfl _ _ _ rfl ?_ Tryz.underlying30 rfl (by kernel_rfl)) rfl ⟨rfl, ?_⟩
 ·apply Blk.as
  repeat (first | (with_reducible assumption) | ((with_reducible apply Blk.newAt); (focus (simp; done))) | (with_reducible apply Blk.set) | ((with_reducible apply Blk.other); (case hp => first | omega | (simp; omega) | simp)) | (with_reducible apply Blk.alloc) | (with_reducible apply Blk.drewN) | (with_reducible apply Blk.drew))
  rfl
 ·apply Kept.toBelow
  repeat (first | (with_reducible assumption) | (with_reducible exact Kept.refl _ _) | ((with_reducible refine Kept.setCell ?_ ?_ _); rotate_left; (focus (first | exact fun _ => rfl | exact fun h => absurd h (by first | omega | (simp; omega) | simp)))) | (with_reducible refine Kept.alloc ?_ _) | (with_reducible refine Kept.drewN ?_ _) | (with_reducible refine Kept.drew ?_))
end Go.Proofs.YtepebnblbheegaaGreatDoor

namespace Go.Proofs.YtepebnblbheegaaGreatDoor
set_option maxHeartbeats 4000000
set_option maxRecDepth 100000
open Go Go.RowKit
theorem cHas1_any (x : PNode) (Bs kb c : Nat) (ks : List Nat) (w : World) (hks : ks.length ≤ 100) (hk : Blk w kb (ks.map fun (k : Nat) => Value.int .i64 (k : Int))) (hB : w.cell? ⟨Bs, 0, none⟩ = some (.slice (some ⟨kb, 0, none⟩) ks.length c)) :
  Calls Tryz.prog 54 #[.agg #[.int .i64 x.kind, .int .i64 x.n, .int .i64 x.k, .int .i64 x.size, .string (bs x.text)], .pointer (some ⟨Bs, 0, none⟩)] w fun e w' => e = .returned (.bool (((ks.map fun (k : Nat) => (k : Int)).take ks.length).contains x.kind)) ∧ Below w.heap.size w w' := by
 have hb0 := (Below.refl w.heap.size w).alloc (Nat.le_refl _) (.cells #[.int .i64 x.kind, .int .i64 x.n, .int .i64 x.k, .int .i64 x.size, .string (bs x.text)] 82)
 have HK := Lib.hid (ints_cells (hk.below hb0))
 have c0 := bSome hb0 hB
 obtain ⟨r, hr⟩ : ∃ r, ((ks.map fun (k : Nat) => (k : Int)).take ks.length).contains x.kind = r := ⟨_, rfl⟩
 have HR := Lib.hid hr
 rw [hr]
 clear hk hB hr
 go_enter Tryz.func54, Tryz.ntmps54
 go_wp2_with fail
 refine (Tryz.slices_Contains_int kb 0 ks.length c (ks.map fun (k : Nat) => (k : Int)) _ _ (by simp) (by omega) HK.out).mono ?_
 rintro e w2 ⟨rfl, rfl⟩
 rw [HR.out]
 go_wp2_with fail
 go_ret
 exact ⟨rfl, hb0⟩
theorem slIndexFuncN_no (l : Prog) (b Bs kb c : Nat) (ks : List Nat) (v : Value) (w : World) (hN : NSl w b v l) (hl : l.length ≤ 100000000) (hks : ks.length ≤ 100) (hk : Blk w kb (ks.map fun (k : Nat) => Value.int .i64 (k : Int))) (hB : w.cell? ⟨Bs, 0, none⟩ = some (.slice (some ⟨kb, 0, none⟩) ks.length c))
  (hno : ∀ x ∈ l, ((ks.map fun (k : Nat) => (k : Int)).take ks.length).contains x.kind = false) :
  Calls Tryz.prog 95 #[v, .func (.func 54) #[] #[.pointer (some ⟨Bs, 0, none⟩)]] w fun e w' => e = .returned (.int .i64 (-1)) ∧ Below w.heap.size w w' := by
 obtain ⟨g, cap, rfl, h1, h2, h3, h4, h5⟩ := hN
 have HR := Lib.hid h5
 have HNO := Lib.hid hno
 obtain ⟨n, hn⟩ : ∃ n, l.length = n := ⟨_, rfl⟩
 have HN := Lib.hid hn
 have HK := Lib.hid hk
 have HB := Lib.hid hB
 rw [hn] at hl h1 ⊢
 clear h5 hno hn hk hB h3
 go_enter Tryz.func95, Tryz.ntmps95
 go_wp2_with fail
 go_loopg [8] n (fun m x wr => ∃ k : Nat, m = n - k ∧ k ≤ n ∧ x = .int .i64 k ∧ Below w.heap.size w wr)
 case atStart => exact ⟨0, rfl, Nat.zero_le _, rfl, Below.refl _ _⟩
 case round =>
  obtain ⟨k, rfl, hkn, rfl, hb⟩ := hrel
  by_cases hlt : k < n
  ·obtain ⟨x, hx⟩ : ∃ x, l[k]? = some x := ⟨_, List.getElem?_eq_getElem (by have := HN.out; omega)⟩
   obtain ⟨n0, n1, n2, n3, n4⟩ := NRow.facts2 HR.out hx
   have m0 := bSome hb n0
   have m1 := bSome hb n1
   have m2 := bSome hb n2
   have m3 := bSome hb n3
   have m4 := bSome hb n4
   have HX := Lib.hid (cHas1_any x Bs kb c ks wr hks (HK.out.below hb) (bSome hb HB.out))
   have HF := Lib.hid (HNO.out x (List.mem_of_getElem? hx))
   clear n0 n1 n2 n3 n4 hx
   go_wp2_with fail
   refine HX.out.mono ?_
   rintro e w2 ⟨rfl, hb2⟩
   rw [HF.out]
   have hb3 := bNext hb hb2
   go_wp2_with fail
   go_roundg (n - (k + 1))
   case measure => omega
   case rel => exact ⟨k + 1, rfl, by omega, by go_num, hb3⟩
  ·obtain rfl : k = n := by omega
   go_wp2_with fail
   go_ret
   exact ⟨rfl, hb⟩
theorem cHas_no (l : Prog) (b kb c : Nat) (ks : List Nat) (v : Value) (w : World) (hN : NSl w b v l) (hl : l.length ≤ 100000000) (hks : ks.length ≤ 100) (hk : Blk w kb (ks.map fun (k : Nat) => Value.int .i64 (k : Int)))
  (hno : ∀ x ∈ l, ((ks.map fun (k : Nat) => (k : Int)).take ks.length).contains x.kind = false) :
  Calls Tryz.prog 27 #[v, .slice (some ⟨kb, 0, none⟩) ks.length c] w fun e w' => e = .returned (.bool false) ∧ Below w.heap.size w w' := by
 have hmf : ∀ (fn : Fn) (first cap : Array Value) (w : World), (Instr.makeFunc fn first cap).run Tryz.prog w = .ok (.func fn first cap) w := fun _ _ _ _ => rfl
 have hb0 := (Below.refl w.heap.size w).alloc (Nat.le_refl _) (.cells #[.slice (some ⟨kb, 0, none⟩) ks.length c] 28)
 have HI : Hid (Calls Tryz.prog 53 #[v, .func (.func 54) #[] #[.pointer (some ⟨w.heap.size, 0, none⟩)]] (w.alloc (.cells #[.slice (some ⟨kb, 0, none⟩) ks.length c] 28)) fun e w' => e = .returned (.bool false) ∧ Below (w.alloc (.cells #[.slice (some ⟨kb, 0, none⟩) ks.length c] 28)).heap.size (w.alloc (.cells #[.slice (some ⟨kb, 0, none⟩) ks.length c] 28)) w') := Lib.hid (by
  have hc := (Blk.new w [Value.slice (some ⟨kb, 0, none⟩) ks.length c] 28).cell 0 rfl
  have HX := Lib.hid (slIndexFuncN_no l b w.heap.size kb c ks v _ (hN.below hb0) hl hks (hk.below hb0) hc hno)
  obtain ⟨g, cap, rfl, -⟩ := hN
  clear hc hno hk hmf
  generalize w.alloc (.cells #[.slice (some ⟨kb, 0, none⟩) ks.length c] 28) = w1 at *
  generalize l.length = n at *
  go_enter Tryz.func53, Tryz.ntmps53
  go_wp2_with fail
  refine HX.out.mono ?_
  rintro e w2 ⟨rfl, hb2⟩
  go_wp2_with fail
  go_ret
  exact ⟨rfl, hb2⟩)
 obtain ⟨g, cap, rfl, -⟩ := hN
 generalize l.length = n at *
 clear hno hk
 go_enter Tryz.func27, Tryz.ntmps27
 go_wp2_with fail
 refine HI.out.mono ?_
 rintro e w2 ⟨rfl, hb2⟩
 go_wp2_with fail
 go_ret
 exact ⟨rfl, bNext hb0 hb2⟩
theorem run_neq_node (w : World) (a b c d : Int) (s : ByteArray) : (binOp .neq 82 (.agg #[.int .i64 a, .int .i64 b, .int .i64 c, .int .i64 d, .string s]) (.agg #[.int .i64 a, .int .i64 b, .int .i64 c, .int .i64 d, .string s])).run Tryz.prog w = .ok (.bool false) w := by
 have hS : Tryz.prog.underlying 82 = some (.struct (Tryz.prog.fieldsOf 82)) := by kernel_rfl
 have hp : Tryz.prog.stoodInHeld 82 = false := by kernel_rfl
 have u3 := Tryz.underlying3
 have a3 := Tryz.isAgg3
 have z3 := Tryz.sizeOf3
 have u4 := Tryz.underlying9
 have a4 := Tryz.isAgg9
 have z4 := Tryz.sizeOf9
 rw [run_neq_struct, show (10000 : Nat) = 9999 + 1 from rfl, run_equalIn_agg w 9999 82 _ _ hS hp]
 simp only [Program.fieldsOf, Tryz.underlying82]
 go_simp
theorem slEqualN_eq (l : Prog) (b b2 : Nat) (v u : Value) (w : World) (hN : NSl w b v l) (hM : NSl w b2 u l) (hl : l.length ≤ 100000000) :
  Calls Tryz.prog 51 #[v, u] w fun e w' => e = .returned (.bool true) ∧ Below w.heap.size w w' := by
 obtain ⟨g, cap, rfl, h1, h2, h3, h4, h5⟩ := hN
 obtain ⟨g2, cap2, rfl, k1, k2, k3, k4, k5⟩ := hM
 have HR := Lib.hid h5
 have HR2 := Lib.hid k5
 obtain ⟨n, hn⟩ : ∃ n, l.length = n := ⟨_, rfl⟩
 have HN := Lib.hid hn
 rw [hn] at hl h1 k1 ⊢
 have qN := run_neq_node
 clear h5 k5 hn h3 k3
 go_enter Tryz.func51, Tryz.ntmps51
 go_wp2_with fail
 go_loopg [13] n (fun m x wr => ∃ k : Nat, m = n - k ∧ k ≤ n ∧ x = .int .i64 k ∧ Below w.heap.size w wr)
 case atStart => exact ⟨0, rfl, Nat.zero_le _, rfl, Below.refl _ _⟩
 case round =>
  obtain ⟨k, rfl, hkn, rfl, hb⟩ := hrel
  by_cases hlt : k < n
  ·obtain ⟨x, hx⟩ : ∃ x, l[k]? = some x := ⟨_, List.getElem?_eq_getElem (by have := HN.out; omega)⟩
   obtain ⟨n0, n1, n2, n3, n4⟩ := NRow.facts2 HR.out hx
   obtain ⟨q0, q1, q2, q3, q4⟩ := NRow.facts2 HR2.out hx
   have m0 := bSome hb n0
   have m1 := bSome hb n1
   have m2 := bSome hb n2
   have m3 := bSome hb n3
   have m4 := bSome hb n4
   have r0 := bSome hb q0
   have r1 := bSome hb q1
   have r2 := bSome hb q2
   have r3 := bSome hb q3
   have r4 := bSome hb q4
   clear n0 n1 n2 n3 n4 q0 q1 q2 q3 q4 hx
   go_wp2_with fail
   go_region
   go_wp2_with fail
   go_roundg (n - (k + 1))
   case measure => omega
   case rel => exact ⟨k + 1, rfl, by omega, by go_num, bDrew1 hb⟩
  ·obtain rfl : k = n := by omega
   go_wp2_with fail
   go_ret
   exact ⟨rfl, hb⟩
theorem cSame_eq (l : Prog) (b b2 : Nat) (v u : Value) (w : World) (hN : NSl w b v l) (hM : NSl w b2 u l) (hl : l.length ≤ 100000000) :
  Calls Tryz.prog 24 #[v, u] w fun e w' => e = .returned (.bool true) ∧ Below w.heap.size w w' := by
 have HX := Lib.hid (slEqualN_eq l b b2 v u w hN hM hl)
 obtain ⟨g, cap, rfl, -⟩ := hN
 obtain ⟨g2, cap2, rfl, -⟩ := hM
 generalize l.length = n at *
 go_enter Tryz.func24, Tryz.ntmps24
 go_wp2_with fail
 refine HX.out.mono ?_
 rintro e w2 ⟨rfl, hb2⟩
 go_wp2_with fail
 go_ret
 exact ⟨rfl, hb2⟩
end Go.Proofs.YtepebnblbheegaaGreatDoor

namespace Go.Proofs.YtepebnblbheegaaGreatDoor
set_option maxRecDepth 100000
open Go Go.RowKit
theorem seeFault_sent (w : World) (sent : Nat → Addr) (hS : Sents w sent) (c : Nat) (h1 : 101 ≤ c) (h2 : c ≤ 117) :
  Calls Tryz.prog 22 #[.iface 303 (.pointer (some (sent c)))] w fun e w' => e = .returned (faultV c (.slice none 0 0)) ∧ Below w.heap.size w w' := by
 have hb0 := (Below.refl w.heap.size w).alloc (Nat.le_refl _) (Obj.cells #[Value.int IntKind.i64 0, Value.slice none 0 0] 30)
 have hS1 := hS.below hb0
 go_enter Tryz.func22, Tryz.ntmps22
 go_wp2_with fail
 refine (seefault_sent _ sent hS1 c h1 h2 9 (by omega) (by omega)).mono ?_
 rintro e w2 ⟨rfl, hb2⟩
 have B2 := (Blk.newAt (w := w) [Value.int IntKind.i64 0, Value.slice none 0 0] 30 rfl).below hb2
 have hB2 := bNext hb0 hb2
 have c0 := B2.cell 0 rfl
 have c1 := B2.cell 1 rfl
 have f0 := B2.free 0
 have f1 := B2.free 1
 have hK := (Kept.ofBelow hB2 : Kept Nowhere w w2)
 clear hb2 hS1 hb0
 unfold faultV
 go_wp2_with fail
 (try simp only [Exit.inBlock, Exit.then])
 refine bodyPost_ret (results_blk1 (p := 2) (g := w.heap.size) (cs := [.int .i64 c, .slice none 0 0]) rfl _ _ _ rfl ?_ Tryz.underlying30 rfl (by kernel_rfl)) rfl ⟨rfl, ?_⟩
 ·apply Blk.as
  repeat (first | (with_reducible assumption) | ((with_reducible apply Blk.newAt); (focus (simp; done))) | (with_reducible apply Blk.set) | ((with_reducible apply Blk.other); (case hp => first | omega | (simp; omega) | simp)) | (with_reducible apply Blk.alloc) | (with_reducible apply Blk.drewN) | (with_reducible apply Blk.drew))
  rfl
 ·apply Kept.toBelow
  repeat (first | (with_reducible assumption) | (with_reducible exact Kept.refl _ _) | ((with_reducible refine Kept.setCell ?_ ?_ _); rotate_left; (focus (first | exact fun _ => rfl | exact fun h => absurd h (by first | omega | (simp; omega) | simp)))) | (with_reducible refine Kept.alloc ?_ _) | (with_reducible refine Kept.drewN ?_ _) | (with_reducible refine Kept.drew ?_))
end Go.Proofs.YtepebnblbheegaaGreatDoor

namespace Go.Proofs.YtepebnblbheegaaGreatDoor
open Go Go.RowKit
def BoolsAt (w : World) (ao : Option Addr) (n : Nat) : Prop := ∀ i, i < n → ∃ a z, ao = some a ∧ w.cell? (a.add i) = some (.bool z)
theorem BoolsAt.below {w w' : World} {ao : Option Addr} {n : Nat} (h : BoolsAt w ao n) (hb : Below w.heap.size w w') : BoolsAt w' ao n := fun i hi => by
 obtain ⟨a, z, h1, h2⟩ := h i hi
 exact ⟨a, z, h1, bSome hb h2⟩
theorem KSl.one9 {w : World} {b : Nat} {u : Value} {l : Prog} (hb : b < w.heap.size) (h : NSl w b u l) : KSl (w.alloc (.cells #[u] 23)) b (.slice (some ⟨w.heap.size, 0, none⟩) 1 1) [l] := KSl.new1 hb (.inl h)
end Go.Proofs.YtepebnblbheegaaGreatDoor

namespace Go.Proofs.YtepebnblbheegaaGreatDoor
open Go Go.RowKit
theorem pick_lt {α β : Type} {n : Nat} (d : β) {P : Nat → α → β → Prop} (h : ∀ i, i < n → ∃ a z, P i a z) : ∃ Z : Nat → β, ∀ i, i < n → ∃ a, P i a (Z i) := by
 have h2 : ∀ i, ∃ z, i < n → ∃ a, P i a z := fun i => by
  by_cases hi : i < n
  ·obtain ⟨a, z, hz⟩ := h i hi
   exact ⟨z, fun _ => ⟨a, hz⟩⟩
  ·exact ⟨d, fun hh => absurd hh hi⟩
 exact ⟨fun i => Classical.choose (h2 i), fun i hi => Classical.choose_spec (h2 i) hi⟩
def IntsOf (w : World) (ao : Option Addr) (n : Nat) (Z : Nat → Int) : Prop := ∀ i, i < n → ∃ a, ao = some a ∧ w.cell? (a.add i) = some (.int .i64 (Z i)) ∧ -9223372036854775808 ≤ Z i ∧ Z i < 9223372036854775808
def IntsAt (w : World) (ao : Option Addr) (n : Nat) : Prop := ∀ i, i < n → ∃ a z, ao = some a ∧ w.cell? (a.add i) = some (.int .i64 z) ∧ -9223372036854775808 ≤ z ∧ z < 9223372036854775808
theorem IntsOf.below {w w' : World} {ao : Option Addr} {n : Nat} {Z : Nat → Int} (h : IntsOf w ao n Z) (hb : Below w.heap.size w w') : IntsOf w' ao n Z := fun i hi => by
 obtain ⟨a, h1, h2, h3⟩ := h i hi
 exact ⟨a, h1, bSome hb h2, h3⟩
theorem IntsAt.of {w : World} {ao : Option Addr} {n : Nat} (h : IntsAt w ao n) : ∃ Z, IntsOf w ao n Z := pick_lt (0 : Int) h
def StrsOf (w : World) (ao : Option Addr) (n : Nat) (Z : Nat → ByteArray) : Prop := ∀ i, i < n → ∃ a, ao = some a ∧ w.cell? (a.add i) = some (.string (Z i)) ∧ (Z i).size ≤ maxLen
def StrsAt (w : World) (ao : Option Addr) (n : Nat) : Prop := ∀ i, i < n → ∃ a z, ao = some a ∧ w.cell? (a.add i) = some (.string z) ∧ z.size ≤ maxLen
theorem StrsOf.below {w w' : World} {ao : Option Addr} {n : Nat} {Z : Nat → ByteArray} (h : StrsOf w ao n Z) (hb : Below w.heap.size w w') : StrsOf w' ao n Z := fun i hi => by
 obtain ⟨a, h1, h2, h3⟩ := h i hi
 exact ⟨a, h1, bSome hb h2, h3⟩
theorem StrsAt.of {w : World} {ao : Option Addr} {n : Nat} (h : StrsAt w ao n) : ∃ Z, StrsOf w ao n Z := pick_lt ByteArray.empty h
theorem twoP_any (kind n : Int) (p q : Prog) (b : Nat) (x y : Value) (w : World) (hb : b < w.heap.size) (h1 : NSl w b x p) (h2 : NSl w b y q) (hl : p.length + q.length ≤ 100000) :
  Calls Tryz.prog 25 #[.int .i64 kind, .int .i64 n, .string (bs []), .slice (some ⟨w.heap.size, 0, none⟩) 2 2] (w.alloc (.cells #[x, y] 23)) fun e w' => ∃ v', e = .returned v' ∧ NSl w' b v' (newP kind n [] [p, q]) ∧ Below w.heap.size w w' := by
 have hb0 := (Below.refl w.heap.size w).alloc (Nat.le_refl _) (.cells #[x, y] 23)
 refine (cNewS_any kind n [] [p, q] b _ _ (by have := hb0.size; omega) (KSl.new2 hb (.inl h1) (.inl h2)) (by simp; omega) (by simp)).mono ?_
 rintro e w' ⟨v', rfl, h4, h5⟩
 exact ⟨v', rfl, h4, bNext hb0 h5⟩
theorem oneP_any (kind n : Int) (s : List UInt8) (p : Prog) (b : Nat) (x : Value) (w : World) (hb : b < w.heap.size) (h1 : NSl w b x p) (hl : p.length ≤ 100000) :
  Calls Tryz.prog 25 #[.int .i64 kind, .int .i64 n, .string (bs s), .slice (some ⟨w.heap.size, 0, none⟩) 1 1] (w.alloc (.cells #[x] 23)) fun e w' => ∃ v', e = .returned v' ∧ NSl w' b v' (newP kind n s [p]) ∧ Below w.heap.size w w' := by
 have hb0 := (Below.refl w.heap.size w).alloc (Nat.le_refl _) (.cells #[x] 23)
 refine (cNewS_any kind n s [p] b _ _ (by have := hb0.size; omega) (KSl.one9 hb h1) (by simp; omega) (by simp)).mono ?_
 rintro e w' ⟨v', rfl, h4, h5⟩
 exact ⟨v', rfl, h4, bNext hb0 h5⟩
end Go.Proofs.YtepebnblbheegaaGreatDoor
