/- Dialect A's reader: bytes added, and what is between two quotes. -/
import Derived.Test.YtdadgodjjfgmfaaDoorAlex2
namespace Go.Proofs.YtdadgodjjfgmfaaDoor
open Go Go.RowKit

theorem bsAppA (l m : List UInt8) : bs l ++ bs m = bs (l ++ m) := by
  unfold bs
  apply ByteArray.ext
  simp

theorem bytesA_same (Q : List APart) (x : APart) (i : Nat) (l : List UInt8) : bytesA (Q ++ [x]) true x.kind i l = Q ++ [{ x with text := x.text ++ l }] := by
  unfold bytesA
  rw [List.getLast?_concat]
  simp
theorem bytesA_new (P : List APart) (j : Bool) (kind i : Nat) (l : List UInt8) (h : ∀ x, P.getLast? = some x → ¬ (j = true ∧ x.kind = kind)) : bytesA P j kind i l = P ++ [⟨kind, i, 0, false, l⟩] := by
  unfold bytesA
  split
  · rename_i x hx
    rw [if_neg (h x hx)]
  · rfl

/-- What Kept says of the rest, behind a write to a row that began later. -/
theorem PartsAt.grow {w : World} {B : Nat} {v : Value} {P : List APart} (h : PartsAt w B v P) : ∀ k, v.ownBlock = some k → B ≤ k := fun k e => (h.lt k e).1

/-- A row's last element, in memory. -/
theorem PartsAt.last {w : World} {B : Nat} {v : Value} {Q : List APart} {x : APart} (h : PartsAt w B v (Q ++ [x])) :
    ∃ g cap, v = .slice (some ⟨g, 0, none⟩) (Q.length + 1) cap ∧ Q.length + 1 ≤ cap ∧ cap ≤ maxLen ∧ B ≤ g ∧ g < w.heap.size ∧ (∀ n, w.frozen? ⟨g, n, none⟩ = false) ∧ ∀ (k : Nat) (u : Value), x.cells[k]? = some u → w.cell? ⟨g, Q.length * 5 + k, none⟩ = some u := by
  obtain ⟨g, cap, hv, h1, h2, h3, h4, h5⟩ := row_cell h (by simp)
  refine ⟨g, cap, by simpa using hv, by simpa using h1, h2, h3, h4, ?_, ?_⟩
  · rcases h.2 with ⟨_, h0⟩ | ⟨g', cap', cur, hv', _, hh, _⟩
    · simp at h0
    · rw [hv] at hv'
      injection hv' with e1 e2 e3
      injection e1 with e1
      injection e1 with e1
      subst e1
      intro n
      simp [World.frozen?, hh]
  · intro k u hu
    have := flat_get APart.cells 5 (fun _ => rfl) (Q ++ [x]) Q.length k x u (by simp) hu
    rw [Nat.mul_comm] at this
    exact h5 _ _ this

set_option maxHeartbeats 4000000 in
set_option maxRecDepth 100000 in
theorem aBytes_any (r q B : Nat) (s : ByteArray) (i : Nat) (v : Value) (P : List APart) (j : Bool) (kind : Nat) (l : List UInt8) (w : World) (hS : ∀ p ∈ P, p.text.length ≤ 1000000) (hl : l.length ≤ 1000000) (hP : P.length ≤ 100000) (_hi : i ≤ 1000000) (hBw : B ≤ w.heap.size) (hR : ARdr w r q B s i v P j)
    (P' : List APart) (hP' : Hid (bytesA P j kind i l = P')) :
    Calls Tryd.prog 95 #[.pointer (some ⟨r, 0, none⟩), .int .i64 kind, .string (bs l)] w fun e w' => e = .returned (.tuple #[]) ∧ (∃ v', ARdr w' r q B s i v' P' true) ∧ Kept (RB r B) w w' := by
  have c0 := hR.c0
  have c1 := hR.c1
  have c2 := hR.c2
  have c3 := hR.c3
  have f2 := hR.fr 2
  cases hj : j with
  | false =>
    subst hj
    have HP : Hid (P ++ [⟨kind, i, 0, false, l⟩] = P') := Lib.hid ((bytesA_new P false kind i l (fun x _ h => absurd h.1 (by decide))).symm.trans hP'.out)
    have HA := Lib.hid (aAdd_any r q B s i v P false ⟨kind, i, 0, false, l⟩ true w hP hBw hR)
    unfold APart.cells at HA
    rw [HP.out] at HA
    clear hP' HP
    obtain ⟨ao, cap, rfl⟩ := hR.row.form
    clear hR hS
    go_enter Tryd.func95, Tryd.ntmps95
    go_wp2_with (go_at_call 91; refine HA.out.mono ?_; rintro e w' ⟨rfl, h1, h2⟩)
    refine bodyPost_end (results_none rfl _ _ _) rfl ?_
    exact ⟨rfl, h1, h2⟩
  | true =>
    subst hj
    cases hx : P.getLast? with
    | none =>
      obtain rfl : P = [] := List.getLast?_eq_none_iff.1 hx
      have HP : Hid ([⟨kind, i, 0, false, l⟩] = P') := Lib.hid ((bytesA_new [] true kind i l (fun x h => by cases h)).symm.trans hP'.out)
      have HA := Lib.hid (aAdd_any r q B s i v [] true ⟨kind, i, 0, false, l⟩ true w hP hBw hR)
      unfold APart.cells at HA
      rw [List.nil_append, HP.out] at HA
      clear hP' HP hx
      obtain ⟨ao, cap, rfl⟩ := hR.row.form
      clear hR hS
      go_enter Tryd.func95, Tryd.ntmps95
      go_wp2_with (go_at_call 91; refine HA.out.mono ?_; rintro e w' ⟨rfl, h1, h2⟩)
      refine bodyPost_end (results_none rfl _ _ _) rfl ?_
      exact ⟨rfl, h1, h2⟩
    | some x =>
      obtain ⟨Q, rfl⟩ := List.getLast?_eq_some_iff.1 hx
      obtain ⟨g, cap, rfl, hnc, hcm, hBg, hgl, hfz, hcell⟩ := hR.row.last
      have k0 := hcell 0 _ rfl
      have k4 := hcell 4 _ rfl
      have z4 := hfz (Q.length * 5 + 4)
      rw [Nat.add_zero] at k0
      have hxt := hS x (by simp)
      have hQ : Q.length ≤ 100000 := by rw [List.length_append] at hP; omega
      by_cases hkk : x.kind = kind
      · have HP : Hid (Q ++ [{ x with text := x.text ++ l }] = P') := Lib.hid (by rw [← hP'.out, ← hkk, bytesA_same])
        have hrow := Lib.hid (hR.row.setText (x.text ++ l))
        rw [← bsAppA] at hrow
        have hsz1 := bs_size x.text
        have hsz2 := bs_size l
        have hR1 := hR.here
        have hR2 := hR.src
        have hR3 := hR.ne
        have hR4 := hR.rlt
        have hR5 := hR.qlt
        subst hkk
        clear hP' hR hS hcell hx hfz
        generalize Q.length = n at *
        go_enter Tryd.func95, Tryd.ntmps95
        go_wp2_with fail
        refine bodyPost_ret (results_none rfl _ _ _) rfl ⟨rfl, ⟨.slice (some ⟨g, 0, none⟩) (n + 1) cap, ?_⟩, (Kept.refl _ _).setCell (fun _ => .inr hBg) _⟩
        rw [← HP.out]
        exact ⟨hR1.other (by simp; omega) _, hR2.other (by simp; omega) _, hrow.out, hR3, hR4, hR5⟩
      · have HP : Hid (Q ++ [x] ++ [⟨kind, i, 0, false, l⟩] = P') := Lib.hid ((bytesA_new (Q ++ [x]) true kind i l (fun y hy h => by rw [List.getLast?_concat] at hy; cases hy; exact hkk h.2)).symm.trans hP'.out)
        have HA := Lib.hid (aAdd_any r q B s i _ (Q ++ [x]) true ⟨kind, i, 0, false, l⟩ true w hP hBw hR)
        unfold APart.cells at HA
        rw [HP.out] at HA
        have d1 : ((x.kind : Int) == kind) = false := by rw [beq_eq_false_iff_ne]; omega
        clear hP' hR hS hcell hx hfz HP
        generalize Q.length = n at *
        go_enter Tryd.func95, Tryd.ntmps95
        go_wp2_with (go_at_call 91; refine HA.out.mono ?_; rintro e w' ⟨rfl, h1, h2⟩)
        refine bodyPost_end (results_none rfl _ _ _) rfl ?_
        exact ⟨rfl, h1, h2⟩

/-- What stands for an error: where it is, and which one. -/
theorem aFault_any (p : Int) (tv : TypeId) (xv : Value) (w : World) :
    Calls Tryd.prog 80 #[.int .i64 p, .iface tv xv] w fun e w' => e = .returned (.iface 102 (.pointer (some ⟨w.heap.size, 0, none⟩))) ∧ w.alloc (.cells #[.int .i64 p, .iface tv xv] 104) = w' := by
  go_enter Tryd.func80, Tryd.ntmps80
  go_wp2
  go_ret
  exact ⟨rfl, rfl⟩

theorem aEnds_core (c : Int) (b : Bool) (w : World) (h : Hid (decide ((0 : Int) ≤ Lib.indexByte [32, 9, 10, 59, 38, 124, 40, 41, 60, 62] c.toNat.toUInt8) = b)) :
    Calls Tryd.prog 90 #[.int .u8 c] w fun e w' => e = .returned (.bool b) ∧ w = w' := by
  go_enter Tryd.func90, Tryd.ntmps90
  go_wp2_with (go_at_call 85; refine (Tryd.strings_IndexByte _ _ _).mono ?_; rintro e w' ⟨rfl, rfl⟩)
  go_ret
  exact ⟨ret_bool h.out, rfl⟩
theorem aEnds_any (c : UInt8) (w : World) :
    Calls Tryd.prog 90 #[.int .u8 c.toNat] w fun e w' => e = .returned (.bool (endsA c)) ∧ w = w' := by
  refine aEnds_core _ _ w (Lib.hid ?_)
  rw [indexByte_ge, show ((c.toNat : Int).toNat.toUInt8) = c from by simp]
  have h : ∀ n : Fin 256, List.contains ([32, 9, 10, 59, 38, 124, 40, 41, 60, 62] : List UInt8) (UInt8.ofNat n.val) = endsA (UInt8.ofNat n.val) := by decide +kernel
  have h1 := h ⟨c.toNat, c.toNat_lt⟩
  simpa using h1

theorem aOps_any (w : World) :
    Calls Tryd.prog 63 #[] w fun e w' => e = .returned (.slice (some ⟨w.heap.size, 0, none⟩) 13 13) ∧ Blk w' w.heap.size (opsA.map fun l => .string (bs l)) ∧ Below w.heap.size w w' := by
  go_enter Tryd.func63, Tryd.ntmps63
  go_wp2
  go_ret
  exact ⟨rfl, Blk.new w _ _, (Below.refl _ _).alloc (Nat.le_refl _) _⟩

end Go.Proofs.YtdadgodjjfgmfaaDoor
