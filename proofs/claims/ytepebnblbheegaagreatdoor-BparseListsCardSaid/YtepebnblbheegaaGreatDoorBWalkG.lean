/- Dialect B's parser: what each function of it comes to, as the plain parser says. -/
import Derived.Test.YtepebnblbheegaaGreatDoorBKitG
import Derived.Deep.DeepCutAuto
namespace Go.Proofs.YtepebnblbheegaaGreatDoor
open Go Go.RowKit

/-- The errors' variables, outside the parser's block. -/
structure EnvB (w : World) (b : Nat) (sent : Nat → Addr) : Prop where
  env : Env w sent
  ne : ∀ c g, (c, g) ∈ errVars → g ≠ b
  mx : ∃ m, w.cell? ⟨9, 0, none⟩ = some (.int .i64 m)
  mne : 9 ≠ b
theorem EnvB.kept {w w' : World} {b : Nat} {sent : Nat → Addr} (h : EnvB w b sent) (hk : Kept (At b) w w') : EnvB w' b sent :=
  ⟨fun c g hg => hk.cell (h.env c g hg) (h.ne c g hg), h.ne, h.mx.elim fun m hm => ⟨m, hk.cell hm h.mne⟩, h.mne⟩
theorem EnvB.below {w w' : World} {b : Nat} {sent : Nat → Addr} (h : EnvB w b sent) (hb : Below w.heap.size w w') : EnvB w' b sent := h.kept (.ofBelow hb)

/-- An error of the parser's, in a block of its own. -/
def PErr (w w' : World) (sent : Nat → Addr) (c p : Nat) (v : Value) : Prop := ∃ eb, v = .iface 67 (.pointer (some ⟨eb, 0, none⟩)) ∧ ErrAt w' eb sent c p ∧ w.heap.size ≤ eb
theorem PErr.kept {w w' w'' : World} {sent : Nat → Addr} {c p : Nat} {v : Value} {b : Nat} (h : PErr w w' sent c p v) (hb : b < w.heap.size) (hk : Kept (At b) w' w'') : PErr w w'' sent c p v := by
  obtain ⟨eb, h1, h2, h3⟩ := h
  refine ⟨eb, h1, ?_, h3⟩
  unfold ErrAt at h2 ⊢
  exact h2.kept hk (fun e => by unfold At at e; omega)
theorem PErr.from {w0 w w' : World} {sent : Nat → Addr} {c p : Nat} {v : Value} (h : PErr w w' sent c p v) (hs : w0.heap.size ≤ w.heap.size) : PErr w0 w' sent c p v := by
  obtain ⟨eb, h1, h2, h3⟩ := h
  exact ⟨eb, h1, h2, Nat.le_trans hs h3⟩

/-- What a parsing of a program leaves. -/
def POut (w : World) (b g cap : Nat) (ts : List BTok) (d m : Nat) (sent : Nat → Addr) (r : Except (Nat × Nat) (Prog × Nat)) (e : Ending) (w' : World) : Prop :=
  Kept (At b) w w' ∧ match r with
  | .ok (l, j) => ∃ v, e = .returned (.tuple #[v, .nilIface]) ∧ NSl w' b v l ∧ PSt w' b g cap ts j d
  | .error (c, p) => ∃ v u j l, e = .returned (.tuple #[v, u]) ∧ NSl0 w' b v l ∧ l.length ≤ m ∧ PErr w w' sent c p u ∧ PSt w' b g cap ts j d
theorem POut.ok {w w' : World} {b g cap : Nat} {ts : List BTok} {d m : Nat} {sent : Nat → Addr} {l : Prog} {j : Nat} {v : Value} {r : Except (Nat × Nat) (Prog × Nat)} {e : Ending} (hr : r = .ok (l, j)) (he : e = .returned (.tuple #[v, .nilIface])) (h1 : NSl w' b v l) (h2 : PSt w' b g cap ts j d) (hk : Kept (At b) w w') : POut w b g cap ts d m sent r e w' := by
  subst hr
  exact ⟨hk, v, he, h1, h2⟩
theorem POut.bad {w w' : World} {b g cap : Nat} {ts : List BTok} {d m : Nat} {sent : Nat → Addr} {c p j : Nat} {v u : Value} {r : Except (Nat × Nat) (Prog × Nat)} {e : Ending} {l : Prog} (hr : r = .error (c, p)) (he : e = .returned (.tuple #[v, u])) (h0 : NSl0 w' b v l) (hl : l.length ≤ m) (h1 : PErr w w' sent c p u) (h2 : PSt w' b g cap ts j d) (hk : Kept (At b) w w') : POut w b g cap ts d m sent r e w' := by
  subst hr
  exact ⟨hk, v, u, j, l, he, h0, hl, h1, h2⟩
theorem NSl0.none (w : World) (b : Nat) : NSl0 w b (.slice none 0 0) [] := .inr ⟨rfl, rfl⟩

/-- Programs in a row of one's own, from block B on. -/
def KOwn (w : World) (B b : Nat) (v : Value) (L : List Prog) : Prop := ∃ us : List Value, us.length = L.length ∧ w.ownsRow B 23 1 v L.length us ∧ ∀ (i : Nat) (u : Value) (l : Prog), us[i]? = some u → L[i]? = some l → NSl w b u l
theorem KOwn.nil (w : World) (B b : Nat) : KOwn w B b (.slice none 0 0) [] := ⟨[], rfl, World.ownsRow_nil _ _ _ _, fun i u l h => by simp at h⟩
theorem ownsRow_kept {w w' : World} {B : Nat} {e : TypeId} {size : Nat} {v : Value} {n : Nat} {xs : List Value} {S : Nat → Prop} (h : w.ownsRow B e size v n xs) (hk : Kept S w w') (hS : ∀ k, B ≤ k → k < w.heap.size → ¬ S k) : w'.ownsRow B e size v n xs := by
  refine ⟨h.1, ?_⟩
  rcases h.2 with h2 | ⟨g, cap, cur, hv, hg, hh, r⟩
  · exact .inl h2
  · exact .inr ⟨g, cap, cur, hv, hg, (hk.block g (lt_of_block hh) (hS g hg (lt_of_block hh))).trans hh, r⟩
theorem KOwn.kept {w w' : World} {B b : Nat} {v : Value} {L : List Prog} (h : KOwn w B b v L) (hb : b < B) (hk : Kept (At b) w w') : KOwn w' B b v L := by
  obtain ⟨us, h1, h2, h3⟩ := h
  exact ⟨us, h1, ownsRow_kept h2 hk (fun k hk _ e => by unfold At at e; omega), fun i u l hu hl => (h3 i u l hu hl).kept hk⟩
theorem KOwn.below {w w' : World} {B b : Nat} {v : Value} {L : List Prog} (h : KOwn w B b v L) (hb : b < B) (hk : Below w.heap.size w w') : KOwn w' B b v L := h.kept hb (.ofBelow hk)
theorem KOwn.form {w : World} {B b : Nat} {v : Value} {L : List Prog} (h : KOwn w B b v L) : ∃ ao cap, v = .slice ao L.length cap := by
  obtain ⟨us, h1, h2, _⟩ := h
  rcases h2.2 with ⟨hv, h0⟩ | ⟨g, cap, cur, hv, _⟩
  · exact ⟨none, 0, by rw [hv, h0]⟩
  · exact ⟨_, _, hv⟩
theorem KOwn.ksl {w : World} {B b : Nat} {v : Value} {L : List Prog} (h : KOwn w B b v L) (hb : b < B) : KSl w b v L := by
  obtain ⟨us, h1, h2, h3⟩ := h
  by_cases hl : 0 < L.length
  · obtain ⟨g, cap, q1, q2, q3, q4, q5, q6⟩ := row_cell h2 hl
    refine ⟨_, cap, q1, q2, q3, fun _ => ⟨g, rfl, q5, by omega, fun i l hi => ?_⟩⟩
    have hil := (List.getElem?_eq_some_iff.1 hi).1
    have hu : us[i]? = some us[i] := List.getElem?_eq_getElem (by omega)
    exact ⟨_, q6 i _ hu, .inl (h3 i _ l hu hi)⟩
  · have h0 : L = [] := List.length_eq_zero_iff.1 (by omega)
    subst h0
    rcases h2.2 with ⟨hv, _⟩ | ⟨g, cap, cur, hv, _, _, q1, q2, _⟩
    · exact ⟨none, 0, hv, Nat.le_refl _, Nat.zero_le _, fun h => absurd h (by simp)⟩
    · exact ⟨_, cap, hv, q1, q2, fun h => absurd h (by simp)⟩
/-- One more. -/
theorem KOwn.snoc {w' : World} {B b : Nat} {v' : Value} {L : List Prog} {l : Prog} {u : Value} {us : List Value} (h1 : us.length = L.length) (h3 : ∀ (i : Nat) (u : Value) (l : Prog), us[i]? = some u → L[i]? = some l → NSl w' b u l) (hu : NSl w' b u l) (hown : w'.ownsRow B 23 1 v' (L.length + 1) (us ++ [u])) : KOwn w' B b v' (L ++ [l]) := by
  refine ⟨us ++ [u], by simp [h1], by rw [List.length_append]; exact hown, fun i x y hx hy => ?_⟩
  by_cases hi : i < us.length
  · rw [List.getElem?_append_left hi] at hx
    rw [List.getElem?_append_left (by omega)] at hy
    exact h3 i x y hx hy
  · rw [List.getElem?_append_right (by omega)] at hx hy
    obtain ⟨k, hk⟩ : ∃ k, i - us.length = k := ⟨_, rfl⟩
    have hk2 : i - L.length = k := by omega
    rw [hk] at hx
    rw [hk2] at hy
    cases k with
    | zero =>
      cases hx
      cases hy
      exact hu
    | succ k => simp at hx

/-- One more, in memory. -/
theorem KOwn.grown {w0 w w' : World} {b : Nat} {v v' : Value} {L : List Prog} {l : Prog} {u : Value} {us : List Value} {o : Obj} (hs : w0.heap.size ≤ w.heap.size) (h1 : us.length = L.length) (h2 : w.ownsRow w0.heap.size 23 1 v L.length us) (h3 : ∀ (i : Nat) (u : Value) (l : Prog), us[i]? = some u → L[i]? = some l → NSl w b u l) (hu : NSl w b u l)
    (hown : w'.ownsRow w0.heap.size 23 1 v' (L.length + 1) (us ++ [u])) (hg : (w.alloc o).grownBy w' v.ownBlock) : KOwn w' w0.heap.size b v' (L ++ [l]) ∧ Below w0.heap.size w w' := by
  have hb1 := (Below.refl w.heap.size w).alloc (Nat.le_refl _) o
  have hrow : ∀ k, v.ownBlock = some k → ∃ cur fz t, (w.alloc o).heap[k]? = some (.cells cur t fz) ∧ t ≠ 82 := fun k hk => by
    obtain ⟨cur, fz, e⟩ := ownsRow_tag h2 k hk
    exact ⟨cur, fz, 23, (hb1.block k (lt_of_block e)).trans e, by decide⟩
  have hlt := World.ownsRow.lt h2
  refine ⟨KOwn.snoc h1 (fun i x y hx hy => ((h3 i x y hx hy).below hb1).grown hg hrow) ((hu.below hb1).grown hg hrow) hown, ?_⟩
  exact (hb1.mono hs).trans ((Kept.grown (S := fun k => some k = v.ownBlock) (Kept.refl _ _) hg (fun k h _ => h.symm)).below (by simp; omega) (fun i hi e => by have := hlt _ e.symm; omega))

/-- What is needed of the tokens. -/
structure PTs (cap : Nat) (ts : List BTok) : Prop where
  fix : PFix cap ts
  w : ∀ i, TokW (tkAt ts i)

/-- A contract: as long as there is fuel, the program's function does as the plain one says. -/
def Does (b g cap : Nat) (ts : List BTok) (sent : Nat → Addr) (fn : FuncId) (x : Nat → Nat → PRes Prog) : Prop :=
  ∀ (w : World) (i d : Nat) (r : Except (Nat × Nat) (Prog × Nat)), d ≤ 31 → i < ts.length → PSt w b g cap ts i d → EnvB w b sent → Hid (x d i = some r) → Calls Tryz.prog fn #[.pointer (some ⟨b, 0, none⟩)] w (POut w b g cap ts d (60000 * (32 - d)) sent r)

/-- The same of what is parsed one deeper: an error leaves less. -/
def DoesL (b g cap : Nat) (ts : List BTok) (sent : Nat → Addr) (fn : FuncId) (x : Nat → Nat → PRes Prog) : Prop :=
  ∀ (w : World) (i d : Nat) (r : Except (Nat × Nat) (Prog × Nat)), d ≤ 31 → i < ts.length → PSt w b g cap ts i d → EnvB w b sent → Hid (x d i = some r) → Calls Tryz.prog fn #[.pointer (some ⟨b, 0, none⟩)] w (POut w b g cap ts d (60000 * (31 - d)) sent r)
/-- The same behind a key. -/
def DoesK (b g cap : Nat) (ts : List BTok) (sent : Nat → Addr) (fn : FuncId) (x : Nat → Nat → PRes Prog) : Prop :=
  ∀ (w : World) (i d : Nat) (r : Except (Nat × Nat) (Prog × Nat)), d ≤ 31 → i < ts.length → (tkAt ts i).kind ≠ 0 → PSt w b g cap ts i d → EnvB w b sent → Hid (x d i = some r) → Calls Tryz.prog fn #[.pointer (some ⟨b, 0, none⟩)] w (POut w b g cap ts d (60000 * (32 - d)) sent r)

theorem POut.mono {w w' : World} {b g cap : Nat} {ts : List BTok} {d m m' : Nat} {sent : Nat → Addr} {r : Except (Nat × Nat) (Prog × Nat)} {e : Ending} (h : POut w b g cap ts d m sent r e w') (hm : m ≤ m') : POut w b g cap ts d m' sent r e w' := by
  obtain ⟨h1, h2⟩ := h
  refine ⟨h1, ?_⟩
  cases r with
  | error x =>
    obtain ⟨v, u, j, l, q1, q2, q3, q4⟩ := h2
    exact ⟨v, u, j, l, q1, q2, by omega, q4⟩
  | ok x => exact h2
/-- The same; an error leaves one node less. -/
def DoesM (b g cap : Nat) (ts : List BTok) (sent : Nat → Addr) (fn : FuncId) (x : Nat → Nat → PRes Prog) : Prop :=
  ∀ (w : World) (i d : Nat) (r : Except (Nat × Nat) (Prog × Nat)), d ≤ 31 → i < ts.length → PSt w b g cap ts i d → EnvB w b sent → Hid (x d i = some r) → Calls Tryz.prog fn #[.pointer (some ⟨b, 0, none⟩)] w (POut w b g cap ts d (60000 * (32 - d) - 1) sent r)
theorem DoesM.does {b g cap : Nat} {ts : List BTok} {sent : Nat → Addr} {fn : FuncId} {x : Nat → Nat → PRes Prog} (h : DoesM b g cap ts sent fn x) : Does b g cap ts sent fn x :=
  fun w i d r hd hi hS hE hr => (h w i d r hd hi hS hE hr).mono fun _ _ hp => hp.mono (by omega)

end Go.Proofs.YtepebnblbheegaaGreatDoor

/- Dialect B's parser: what is in a list. -/
namespace Go.Proofs.YtepebnblbheegaaGreatDoor
open Go Go.RowKit

theorem chain_facts {ts : List BTok} {cap : Nat} (T : PTs cap ts) {f d i : Nat} {l : Prog} {e : Nat} (hi : i < ts.length) (h : pChain ts f d i = some (.ok (l, e))) : i < e ∧ e < ts.length ∧ l.length ≤ 6 * (e - i) ∧ 0 < l.length := by
  obtain ⟨a1, a2, a3, _⟩ := ((postAll T.fix.good f).chain d i hi).1 l e h
  obtain ⟨D, hD⟩ := (wAll T.w f).chain d i l e h
  exact ⟨a1, a2, a3, hD.pos.1⟩

set_option maxHeartbeats 8000000 in
set_option maxRecDepth 100000 in
theorem pChains_walk {b g cap : Nat} {ts : List BTok} {sent : Nat → Addr} (T : PTs cap ts) (f : Nat) (ih : ∀ f' < f, Does b g cap ts sent 117 (pChain ts f')) : Does b g cap ts sent 67 (fun d i => pChains ts f d i []) := by
  intro w i d r hd hi hS hE hr
  have F := T.fix
  obtain ⟨k0, hk0, hk1, hk2, hk3⟩ := info_parts infoNodes
  have hbl := hS.blt
  have hgl := hS.glt
  have hcap := F.num
  have IH := Lib.hid ih
  clear ih
  go_enter Tryz.func67, Tryz.ntmps67
  go_wp2_with fail
  go_loopg [4] (ts.length - i) (fun m v wr => ∃ (k fk : Nat) (L : List Prog), m = ts.length - k ∧ k < ts.length ∧ fk ≤ f ∧ L.length ≤ k ∧ L.flatten.length ≤ 6 * k ∧ Hid (∀ l ∈ L, 0 < l.length) ∧ Kept (At b) w wr ∧ PSt wr b g cap ts k d ∧ KOwn wr w.heap.size b v L ∧ Hid (pChains ts fk d k L = some r))
  case atStart => exact ⟨i, f, [], rfl, hi, Nat.le_refl _, by simp, by simp, Lib.hid (fun _ h => nomatch h), Kept.refl _ _, hS, KOwn.nil _ _ _, hr⟩
  case round =>
    clear hS hr hi
    obtain ⟨k, fk, L, rfl, hk, hfk, hL1, hL2, hL3, hK, hS, hO, hr⟩ := hrel
    obtain ⟨fk, rfl⟩ : ∃ q, fk = q + 1 := by
      cases fk with
      | zero => have := hr.out; rw [pChains] at this; cases this
      | succ q => exact ⟨q, rfl⟩
    obtain ⟨ao, acap, rfl⟩ := hO.form
    have hE1 := hE.kept hK
    have c1 := hS.c1
    obtain ⟨j, hj⟩ : ∃ j, passT ts [1, 2] k = j := ⟨_, rfl⟩
    have hjn := (passT_le (ts := ts) [1, 2] hk)
    rw [hj] at hjn
    have HR := Lib.hid hr.out
    rw [pChains] at HR
    rw [hj] at HR
    clear hr
    go_wp2_with fail
    refine (pPass_any F (hS.alloc _) hk [1, 2] _ _ (by decide) (by decide) (show Blk _ _ [Value.int .i64 1, Value.int .i64 2] from Blk.new wr _ _) (by have := hK.size; omega)).mono ?_
    rintro e w2 ⟨rfl, hS2, hK2⟩
    rw [hj] at hS2
    have hK3 := (hK.alloc (.cells #[Value.int .i64 1, Value.int .i64 2] 3)).same hK2
    have hO2 := (hO.below hbl ((Below.refl _ wr).alloc (Nat.le_refl _) (.cells #[Value.int .i64 1, Value.int .i64 2] 3))).kept hbl hK2
    clear hS hK hK2 hO c1 hE1
    go_wp2_with fail
    refine (pIs_any F (hS2.alloc _) hjn.2 [0, 7, 9] _ _ (by decide) (show Blk _ _ [Value.int .i64 0, Value.int .i64 7, Value.int .i64 9] from Blk.new w2 _ _)).mono ?_
    rintro e w3 ⟨rfl, hb3⟩
    have hb3' := bNext ((Below.refl _ w2).alloc (Nat.le_refl _) (.cells #[Value.int .i64 0, Value.int .i64 7, Value.int .i64 9] 3)) hb3
    have hS3 := hS2.below hb3'
    have hO3 := hO2.below hbl hb3'
    have hK4 := hK3.andBelow hb3'
    clear hS2 hO2 hK3 hb3 hb3'
    have hL4 : L.flatten.length ≤ 100000000 := by omega
    have hL5 : L.length ≤ 100000000 := by omega
    by_cases x0 : isK ts j [0, 7, 9] = true
    · rw [if_pos (.inl x0)] at HR
      have HX := Lib.hid (Option.some.inj (show some (Except.ok (seqP L, j)) = some r from HR.out)).symm
      rw [x0]
      have HC := Lib.hid (cSeq_any L b _ w3 (Nat.lt_of_lt_of_le hbl hK4.size) hL3.out hL4 hL5 (hO3.ksl hbl))
      clear HR x0
      go_wp2_with fail
      refine HC.out.mono ?_
      rintro e w4 ⟨v4, rfl, hN, hb4⟩
      go_wp2_with fail
      go_ret2
      exact POut.ok HX.out rfl hN (hS3.below hb4) (hK4.andBelow hb4)
    · have x0' : isK ts j [0, 7, 9] = false := by simpa using x0
      rw [x0']
      go_wp2_with fail
      refine (pKey_any F hS3 hjn.2 [99, 97, 115, 101]).mono ?_
      rintro e w4 ⟨rfl, hb4⟩
      have hS4 := hS3.below hb4
      have hO4 := hO3.below hbl hb4
      have hK5 := hK4.andBelow hb4
      clear hS3 hO3 hK4 hb4
      have HC := Lib.hid (cSeq_any L b _ w4 (Nat.lt_of_lt_of_le hbl hK5.size) hL3.out hL4 hL5 (hO4.ksl hbl))
      by_cases x1 : keyAt ts j [99, 97, 115, 101] = true
      · rw [if_pos (.inr (.inl x1))] at HR
        have HX := Lib.hid (Option.some.inj (show some (Except.ok (seqP L, j)) = some r from HR.out)).symm
        rw [x1]
        clear HR x0 x1 x0'
        go_wp2_with fail
        refine HC.out.mono ?_
        rintro e w5 ⟨v5, rfl, hN, hb5⟩
        go_wp2_with fail
        go_ret2
        exact POut.ok HX.out rfl hN (hS4.below hb5) (hK5.andBelow hb5)
      · have x1' : keyAt ts j [99, 97, 115, 101] = false := by simpa using x1
        rw [x1']
        have c1 := hS4.c1
        by_cases x2 : 0 < L.length ∧ j = k
        · rw [if_pos (.inr (.inr x2))] at HR
          have HX := Lib.hid (Option.some.inj (show some (Except.ok (seqP L, j)) = some r from HR.out)).symm
          have y1 : decide ((0 : Int) < (L.length : Int)) = true := by rw [decide_eq_true_eq]; omega
          have y2 : ((j : Int) == (k : Int)) = true := by rw [beq_iff_eq]; omega
          clear HR x0 x1 x0' x1'
          go_wp2_with fail
          refine HC.out.mono ?_
          rintro e w5 ⟨v5, rfl, hN, hb5⟩
          go_wp2_with fail
          go_ret2
          exact POut.ok HX.out rfl hN (hS4.below hb5) (hK5.andBelow hb5)
        · rw [if_neg (by
            rintro (h | h | h)
            · exact x0 h
            · exact x1 h
            · exact x2 h)] at HR
          have hE4 := hE.kept hK5
          have y : L.length = 0 ∨ (0 < L.length ∧ ((j : Int) == (k : Int)) = false) := by
            by_cases h0 : 0 < L.length
            · exact .inr ⟨h0, by rw [beq_eq_false_iff_ne]; intro e; exact x2 ⟨h0, by omega⟩⟩
            · exact .inl (by omega)
          clear HC x0 x1 x2 x0' x1'
          cases hq : pChain ts fk d j with
          | none =>
            rw [hq] at HR
            exact absurd HR.out (by simp [PRes.go])
          | some rc =>
            rw [hq] at HR
            have HD := Lib.hid (IH.out fk (by omega) w4 j d rc hd hjn.2 hS4 hE4 (Lib.hid hq))
            cases rc with
            | error e0 =>
              obtain ⟨c0, p0⟩ := e0
              have HX := Lib.hid (Option.some.inj (show some (Except.error (c0, p0)) = some r from HR.out)).symm
              clear HR hq
              rcases y with y0 | ⟨y0, y1⟩
              · rw [y0]
                go_wp2_with fail
                refine HD.out.mono ?_
                rintro e w5 ⟨hK6, v, u, j', l0, rfl, _, _, ⟨eb, rfl, q2, q3⟩, hS5⟩
                go_wp2_with fail
                go_ret2
                exact POut.bad HX.out rfl (.none _ _) (Nat.zero_le _) ⟨eb, rfl, q2, Nat.le_trans hK5.size q3⟩ hS5 (hK5.same hK6)
              · have y2 : decide ((0 : Int) < (L.length : Int)) = true := by rw [decide_eq_true_eq]; omega
                go_wp2_with fail
                refine HD.out.mono ?_
                rintro e w5 ⟨hK6, v, u, j', l0, rfl, _, _, ⟨eb, rfl, q2, q3⟩, hS5⟩
                go_wp2_with fail
                go_ret2
                exact POut.bad HX.out rfl (.none _ _) (Nat.zero_le _) ⟨eb, rfl, q2, Nat.le_trans hK5.size q3⟩ hS5 (hK5.same hK6)
            | ok q =>
              obtain ⟨cl, ce⟩ := q
              obtain ⟨z1, z2, z3, z4⟩ := chain_facts T hjn.2 hq
              have HX := Lib.hid (show pChains ts fk d ce (L ++ [cl]) = some r from HR.out)
              clear HR hq
              have hL6 : (L ++ [cl]).length ≤ ce := by rw [List.length_append, List.length_cons, List.length_nil]; omega
              have hL7 : (L ++ [cl]).flatten.length ≤ 6 * ce := by rw [flat_snoc, List.length_append]; omega
              have hL8 := Lib.hid (snoc_all hL3.out z4)
              rcases y with y0 | ⟨y0, y1⟩
              · skip
                rw [y0] at hO4 ⊢
                go_wp2_with fail
                refine HD.out.mono ?_
                rintro e w5 ⟨hK6, v, rfl, hN, hS5⟩
                have hK7 := hK5.same hK6
                obtain ⟨us, u1, u2, u3⟩ := hO4.kept hbl hK6
                have hOA : ∀ o, (w5.alloc o).ownsRow w.heap.size 23 1 _ L.length us := fun o => ownsRow_kept u2 (Kept.ofBelow (S := Nowhere) ((Below.refl _ w5).alloc (Nat.le_refl _) o)) (fun _ _ _ e => e)
                have HN := Lib.hid hN
                have hsz5 := hK7.size
                obtain ⟨gc, cc, rfl, -⟩ := hN
                clear hK5 hK6 hO4 hS4 HD
                go_wp2_with (at_builtin; refine wpList_append_own _ rfl _ _ 39 rfl w.heap.size 23 k0 _ 1 24 Tryz.underlying39 hk0 hk1 hk2 hk3 rfl (by decide) _ _ _ rfl (hOA _) ⟨w5.heap.size, 0, none⟩ 1 1 [.slice (some ⟨gc, 0, none⟩) cl.length cc] rfl rfl ?c1 ?c2 ?c3 ?c4 ?c5 ?_)
                case c1 => exact cells_new (by simp)
                case c2 =>
                  intro u hu
                  simp at hu
                  subst hu
                  rfl
                case c3 => unfold maxLen; omega
                case c4 => omega
                case c5 => simp; omega
                intro v6 w6 hown' hgrow _
                obtain ⟨hO6, hb6⟩ := KOwn.grown hsz5 u1 u2 u3 HN.out (by first | exact hown' | (rw [y0]; exact hown')) hgrow
                have hS6 := hS5.belowB hb6 hbl hgl
                have hK8 := hK7.belowB hb6 (Nat.le_refl _)
                go_wp2_with fail
                go_roundg (ts.length - ce)
                case measure => omega
                case rel => exact ⟨ce, fk, L ++ [cl], rfl, z2, by omega, hL6, hL7, hL8, hK8, hS6, hO6, HX⟩
              · have y2 : decide ((0 : Int) < (L.length : Int)) = true := by rw [decide_eq_true_eq]; omega
                go_wp2_with fail
                refine HD.out.mono ?_
                rintro e w5 ⟨hK6, v, rfl, hN, hS5⟩
                have hK7 := hK5.same hK6
                obtain ⟨us, u1, u2, u3⟩ := hO4.kept hbl hK6
                have hOA : ∀ o, (w5.alloc o).ownsRow w.heap.size 23 1 _ L.length us := fun o => ownsRow_kept u2 (Kept.ofBelow (S := Nowhere) ((Below.refl _ w5).alloc (Nat.le_refl _) o)) (fun _ _ _ e => e)
                have HN := Lib.hid hN
                have hsz5 := hK7.size
                obtain ⟨gc, cc, rfl, -⟩ := hN
                clear hK5 hK6 hO4 hS4 HD
                go_wp2_with (at_builtin; refine wpList_append_own _ rfl _ _ 39 rfl w.heap.size 23 k0 _ 1 24 Tryz.underlying39 hk0 hk1 hk2 hk3 rfl (by decide) _ _ _ rfl (hOA _) ⟨w5.heap.size, 0, none⟩ 1 1 [.slice (some ⟨gc, 0, none⟩) cl.length cc] rfl rfl ?c1 ?c2 ?c3 ?c4 ?c5 ?_)
                case c1 => exact cells_new (by simp)
                case c2 =>
                  intro u hu
                  simp at hu
                  subst hu
                  rfl
                case c3 => unfold maxLen; omega
                case c4 => omega
                case c5 => simp; omega
                intro v6 w6 hown' hgrow _
                obtain ⟨hO6, hb6⟩ := KOwn.grown hsz5 u1 u2 u3 HN.out (by first | exact hown' | (rw [y0]; exact hown')) hgrow
                have hS6 := hS5.belowB hb6 hbl hgl
                have hK8 := hK7.belowB hb6 (Nat.le_refl _)
                go_wp2_with fail
                go_roundg (ts.length - ce)
                case measure => omega
                case rel => exact ⟨ce, fk, L ++ [cl], rfl, z2, by omega, hL6, hL7, hL8, hK8, hS6, hO6, HX⟩

end Go.Proofs.YtepebnblbheegaaGreatDoor

/- Dialect B's parser: one deeper. -/
namespace Go.Proofs.YtepebnblbheegaaGreatDoor
open Go Go.RowKit

theorem pFault_env {w : World} {b g cap : Nat} {ts : List BTok} {i d : Nat} (F : PFix cap ts) (h : PSt w b g cap ts i d) (hi : i < ts.length) (sent : Nat → Addr) (c : Nat) :
    Calls Tryz.prog 69 #[.pointer (some ⟨b, 0, none⟩), .iface 303 (.pointer (some (sent c)))] w fun e w' => ∃ u, e = .returned u ∧ PErr w w' sent c (tkAt ts i).place u ∧ (∃ eb, u = .iface 67 (.pointer (some ⟨eb, 0, none⟩))) ∧ Below w.heap.size w w' := by
  refine (pFault_any F h hi (sent c)).mono ?_
  rintro e w' ⟨eb, rfl, h1, h2, h3⟩
  exact ⟨_, rfl, ⟨eb, rfl, h1, h2⟩, ⟨eb, rfl⟩, h3⟩

set_option maxHeartbeats 8000000 in
set_option maxRecDepth 100000 in
theorem pDeeper_chains {b g cap : Nat} {ts : List BTok} {sent : Nat → Addr} (T : PTs cap ts) (x : Nat → Nat → PRes Prog) (ih : Does b g cap ts sent 67 x) (w : World) (i d : Nat) (r : Except (Nat × Nat) (Prog × Nat)) (hd : d ≤ 31) (hi : i < ts.length) (hS : PSt w b g cap ts i d) (hE : EnvB w b sent) (hr : Hid ((if 30 < d + 1 then nestP ts i else x (d + 1) i) = some r)) :
    Calls Tryz.prog 66 #[.pointer (some ⟨b, 0, none⟩), .func (.func 67) #[.pointer (some ⟨b, 0, none⟩)] #[]] w (POut w b g cap ts d (60000 * (31 - d)) sent r) := by
  have F := T.fix
  have hbl := hS.blt
  have c2 := hS.c2
  have f2 := hS.fr 2
  have hw1 : IntKind.i64.wrap ((d : Int) + 1) = (d : Int) + 1 := by rw [IntKind.wrap_i64]; omega
  have IH := Lib.hid ih
  clear ih
  by_cases h30 : 30 < d + 1
  · have h31 : decide ((30 : Int) < (d : Int) + 1) = true := by rw [decide_eq_true_eq]; omega
    have HR := Lib.hid hr.out
    rw [if_pos h30] at HR
    have HX := Lib.hid (Option.some.inj (show some (Except.error (102, (tkAt ts i).place)) = some r from HR.out)).symm
    have he := env_at hE.env 102 0 (by simp [errVars])
    have HS := Lib.hid hS
    clear HR hr h30
    go_enter Tryz.func66, Tryz.ntmps66
    go_upto_region 2 with fail
    go_region_held3 (fun w' => w'.cell? ⟨0, 0, none⟩ = some (.iface 303 (.pointer (some (sent 102))))) (first | exact bSome hb5 he | go_keep)
      (first | (go_at_call 69; refine (pFault_env F HS.out.drew hi sent 102).mono ?_; rintro e w5 ⟨u, rfl, hP, ⟨eb, rfl⟩, hb5⟩))
    go_wp2_with fail
    go_ret2
    exact POut.bad HX.out rfl (.none _ _) (Nat.zero_le _) hP (HS.out.drew.below hb5) ((Kept.refl (At b) w).drew.andBelow hb5)
  · have h31 : decide ((30 : Int) < (d : Int) + 1) = false := by rw [decide_eq_false_iff_not]; omega
    have HR := Lib.hid hr.out
    rw [if_neg h30] at HR
    have hcast : ((d + 1 : Nat) : Int) = (d : Int) + 1 := by omega
    have HS1 := Lib.hid (hS.deep (d + 1))
    rw [hcast] at HS1
    have HK1 := Lib.hid (Kept.setCell (S := At b) (p := ⟨b, 2, none⟩) (Kept.refl _ w) (fun _ => rfl) (.int .i64 ((d : Int) + 1)))
    have HE1 := Lib.hid (hE.kept HK1.out)
    have hw2 : IntKind.i64.wrap ((d : Int) + 1 - 1) = (d : Int) := by rw [IntKind.wrap_i64]; omega
    have hw3 : (d : Int) + 1 - 1 = (d : Int) := by omega
    have hw4 : IntKind.i64.wrap (d : Int) = (d : Int) := by rw [IntKind.wrap_i64]; omega
    have hmf : ∀ (fn : Fn) (first cap : Array Value) (w : World), (Instr.makeFunc fn first cap).run Tryz.prog w = .ok (.func fn first cap) w := fun _ _ _ _ => rfl
    clear hS hE hr
    go_enter Tryz.func66, Tryz.ntmps66
    go_wp2_with fail
    refine (IH.out _ i (d + 1) r (by omega) hi HS1.out HE1.out HR).mono ?_
    rintro e w2 hp
    cases r with
    | error e0 =>
      obtain ⟨c0, p0⟩ := e0
      obtain ⟨hK2, v, u, j', l0, rfl, hv0, hl0, ⟨eb, rfl, q2, q3⟩, hS2⟩ := hp
      have HV := Lib.hid (hv0.kept (Kept.setCell (S := At b) (p := ⟨b, 2, none⟩) (Kept.refl _ w2) (fun _ => rfl) (.int .i64 (d : Int))))
      obtain ⟨va, vc, rfl⟩ := hv0.form
      have HS2 := Lib.hid (hS2.deep d)
      have k2 := hS2.c2
      have kf := hS2.fr 2
      rw [hcast] at k2
      have HK3 := Lib.hid (Kept.setCell (S := At b) (p := ⟨b, 2, none⟩) (HK1.out.same hK2) (fun _ => rfl) (.int .i64 (d : Int)))
      have hsz := hK2.size
      have HQ := Lib.hid (PErr.kept (w := w) (w'' := w2.setCell ⟨b, 2, none⟩ (.int .i64 (d : Int))) ⟨eb, rfl, q2, by have := HK1.out.size; omega⟩ hbl (Kept.setCell (S := At b) (p := ⟨b, 2, none⟩) (Kept.refl _ w2) (fun _ => rfl) (.int .i64 (d : Int))))
      clear hS2 hK2 q2 HS1 HE1 HR
      go_wp2_with fail
      go_ret2
      exact POut.bad rfl rfl HV.out (by omega) HQ.out HS2.out HK3.out
    | ok y =>
      obtain ⟨l, j⟩ := y
      obtain ⟨hK2, v, rfl, hN, hS2⟩ := hp
      have HS2 := Lib.hid (hS2.deep d)
      have k2 := hS2.c2
      have kf := hS2.fr 2
      rw [hcast] at k2
      have HK3 := Lib.hid (Kept.setCell (S := At b) (p := ⟨b, 2, none⟩) (HK1.out.same hK2) (fun _ => rfl) (.int .i64 (d : Int)))
      have HN := Lib.hid (hN.kept (Kept.setCell (S := At b) (p := ⟨b, 2, none⟩) (Kept.refl _ w2) (fun _ => rfl) (.int .i64 (d : Int))))
      obtain ⟨gg, gc, rfl, -⟩ := hN
      clear hS2 hK2 HS1 HE1 HR
      go_wp2_with fail
      go_ret2
      exact POut.ok rfl rfl HN.out HS2.out HK3.out

set_option maxHeartbeats 8000000 in
set_option maxRecDepth 100000 in
theorem pDeeper_command {b g cap : Nat} {ts : List BTok} {sent : Nat → Addr} (T : PTs cap ts) (x : Nat → Nat → PRes Prog) (ih : Does b g cap ts sent 186 x) (w : World) (i d : Nat) (r : Except (Nat × Nat) (Prog × Nat)) (hd : d ≤ 31) (hi : i < ts.length) (hS : PSt w b g cap ts i d) (hE : EnvB w b sent) (hr : Hid ((if 30 < d + 1 then nestP ts i else x (d + 1) i) = some r)) :
    Calls Tryz.prog 66 #[.pointer (some ⟨b, 0, none⟩), .func (.func 186) #[.pointer (some ⟨b, 0, none⟩)] #[]] w (POut w b g cap ts d (60000 * (31 - d)) sent r) := by
  have F := T.fix
  have hbl := hS.blt
  have c2 := hS.c2
  have f2 := hS.fr 2
  have hw1 : IntKind.i64.wrap ((d : Int) + 1) = (d : Int) + 1 := by rw [IntKind.wrap_i64]; omega
  have IH := Lib.hid ih
  clear ih
  by_cases h30 : 30 < d + 1
  · have h31 : decide ((30 : Int) < (d : Int) + 1) = true := by rw [decide_eq_true_eq]; omega
    have HR := Lib.hid hr.out
    rw [if_pos h30] at HR
    have HX := Lib.hid (Option.some.inj (show some (Except.error (102, (tkAt ts i).place)) = some r from HR.out)).symm
    have he := env_at hE.env 102 0 (by simp [errVars])
    have HS := Lib.hid hS
    clear HR hr h30
    go_enter Tryz.func66, Tryz.ntmps66
    go_upto_region 2 with fail
    go_region_held3 (fun w' => w'.cell? ⟨0, 0, none⟩ = some (.iface 303 (.pointer (some (sent 102))))) (first | exact bSome hb5 he | go_keep)
      (first | (go_at_call 69; refine (pFault_env F HS.out.drew hi sent 102).mono ?_; rintro e w5 ⟨u, rfl, hP, ⟨eb, rfl⟩, hb5⟩))
    go_wp2_with fail
    go_ret2
    exact POut.bad HX.out rfl (.none _ _) (Nat.zero_le _) hP (HS.out.drew.below hb5) ((Kept.refl (At b) w).drew.andBelow hb5)
  · have h31 : decide ((30 : Int) < (d : Int) + 1) = false := by rw [decide_eq_false_iff_not]; omega
    have HR := Lib.hid hr.out
    rw [if_neg h30] at HR
    have hcast : ((d + 1 : Nat) : Int) = (d : Int) + 1 := by omega
    have HS1 := Lib.hid (hS.deep (d + 1))
    rw [hcast] at HS1
    have HK1 := Lib.hid (Kept.setCell (S := At b) (p := ⟨b, 2, none⟩) (Kept.refl _ w) (fun _ => rfl) (.int .i64 ((d : Int) + 1)))
    have HE1 := Lib.hid (hE.kept HK1.out)
    have hw2 : IntKind.i64.wrap ((d : Int) + 1 - 1) = (d : Int) := by rw [IntKind.wrap_i64]; omega
    have hw3 : (d : Int) + 1 - 1 = (d : Int) := by omega
    have hw4 : IntKind.i64.wrap (d : Int) = (d : Int) := by rw [IntKind.wrap_i64]; omega
    have hmf : ∀ (fn : Fn) (first cap : Array Value) (w : World), (Instr.makeFunc fn first cap).run Tryz.prog w = .ok (.func fn first cap) w := fun _ _ _ _ => rfl
    clear hS hE hr
    go_enter Tryz.func66, Tryz.ntmps66
    go_wp2_with fail
    refine (IH.out _ i (d + 1) r (by omega) hi HS1.out HE1.out HR).mono ?_
    rintro e w2 hp
    cases r with
    | error e0 =>
      obtain ⟨c0, p0⟩ := e0
      obtain ⟨hK2, v, u, j', l0, rfl, hv0, hl0, ⟨eb, rfl, q2, q3⟩, hS2⟩ := hp
      have HV := Lib.hid (hv0.kept (Kept.setCell (S := At b) (p := ⟨b, 2, none⟩) (Kept.refl _ w2) (fun _ => rfl) (.int .i64 (d : Int))))
      obtain ⟨va, vc, rfl⟩ := hv0.form
      have HS2 := Lib.hid (hS2.deep d)
      have k2 := hS2.c2
      have kf := hS2.fr 2
      rw [hcast] at k2
      have HK3 := Lib.hid (Kept.setCell (S := At b) (p := ⟨b, 2, none⟩) (HK1.out.same hK2) (fun _ => rfl) (.int .i64 (d : Int)))
      have hsz := hK2.size
      have HQ := Lib.hid (PErr.kept (w := w) (w'' := w2.setCell ⟨b, 2, none⟩ (.int .i64 (d : Int))) ⟨eb, rfl, q2, by have := HK1.out.size; omega⟩ hbl (Kept.setCell (S := At b) (p := ⟨b, 2, none⟩) (Kept.refl _ w2) (fun _ => rfl) (.int .i64 (d : Int))))
      clear hS2 hK2 q2 HS1 HE1 HR
      go_wp2_with fail
      go_ret2
      exact POut.bad rfl rfl HV.out (by omega) HQ.out HS2.out HK3.out
    | ok y =>
      obtain ⟨l, j⟩ := y
      obtain ⟨hK2, v, rfl, hN, hS2⟩ := hp
      have HS2 := Lib.hid (hS2.deep d)
      have k2 := hS2.c2
      have kf := hS2.fr 2
      rw [hcast] at k2
      have HK3 := Lib.hid (Kept.setCell (S := At b) (p := ⟨b, 2, none⟩) (HK1.out.same hK2) (fun _ => rfl) (.int .i64 (d : Int)))
      have HN := Lib.hid (hN.kept (Kept.setCell (S := At b) (p := ⟨b, 2, none⟩) (Kept.refl _ w2) (fun _ => rfl) (.int .i64 (d : Int))))
      obtain ⟨gg, gc, rfl, -⟩ := hN
      clear hS2 hK2 HS1 HE1 HR
      go_wp2_with fail
      go_ret2
      exact POut.ok rfl rfl HN.out HS2.out HK3.out

set_option maxHeartbeats 8000000 in
set_option maxRecDepth 100000 in
theorem pDeeper_bracket {b g cap : Nat} {ts : List BTok} {sent : Nat → Addr} (T : PTs cap ts) (x : Nat → Nat → PRes Prog) (ih : Does b g cap ts sent 281 x) (w : World) (i d : Nat) (r : Except (Nat × Nat) (Prog × Nat)) (hd : d ≤ 31) (hi : i < ts.length) (hS : PSt w b g cap ts i d) (hE : EnvB w b sent) (hr : Hid ((if 30 < d + 1 then nestP ts i else x (d + 1) i) = some r)) :
    Calls Tryz.prog 66 #[.pointer (some ⟨b, 0, none⟩), .func (.func 281) #[.pointer (some ⟨b, 0, none⟩)] #[]] w (POut w b g cap ts d (60000 * (31 - d)) sent r) := by
  have F := T.fix
  have hbl := hS.blt
  have c2 := hS.c2
  have f2 := hS.fr 2
  have hw1 : IntKind.i64.wrap ((d : Int) + 1) = (d : Int) + 1 := by rw [IntKind.wrap_i64]; omega
  have IH := Lib.hid ih
  clear ih
  by_cases h30 : 30 < d + 1
  · have h31 : decide ((30 : Int) < (d : Int) + 1) = true := by rw [decide_eq_true_eq]; omega
    have HR := Lib.hid hr.out
    rw [if_pos h30] at HR
    have HX := Lib.hid (Option.some.inj (show some (Except.error (102, (tkAt ts i).place)) = some r from HR.out)).symm
    have he := env_at hE.env 102 0 (by simp [errVars])
    have HS := Lib.hid hS
    clear HR hr h30
    go_enter Tryz.func66, Tryz.ntmps66
    go_upto_region 2 with fail
    go_region_held3 (fun w' => w'.cell? ⟨0, 0, none⟩ = some (.iface 303 (.pointer (some (sent 102))))) (first | exact bSome hb5 he | go_keep)
      (first | (go_at_call 69; refine (pFault_env F HS.out.drew hi sent 102).mono ?_; rintro e w5 ⟨u, rfl, hP, ⟨eb, rfl⟩, hb5⟩))
    go_wp2_with fail
    go_ret2
    exact POut.bad HX.out rfl (.none _ _) (Nat.zero_le _) hP (HS.out.drew.below hb5) ((Kept.refl (At b) w).drew.andBelow hb5)
  · have h31 : decide ((30 : Int) < (d : Int) + 1) = false := by rw [decide_eq_false_iff_not]; omega
    have HR := Lib.hid hr.out
    rw [if_neg h30] at HR
    have hcast : ((d + 1 : Nat) : Int) = (d : Int) + 1 := by omega
    have HS1 := Lib.hid (hS.deep (d + 1))
    rw [hcast] at HS1
    have HK1 := Lib.hid (Kept.setCell (S := At b) (p := ⟨b, 2, none⟩) (Kept.refl _ w) (fun _ => rfl) (.int .i64 ((d : Int) + 1)))
    have HE1 := Lib.hid (hE.kept HK1.out)
    have hw2 : IntKind.i64.wrap ((d : Int) + 1 - 1) = (d : Int) := by rw [IntKind.wrap_i64]; omega
    have hw3 : (d : Int) + 1 - 1 = (d : Int) := by omega
    have hw4 : IntKind.i64.wrap (d : Int) = (d : Int) := by rw [IntKind.wrap_i64]; omega
    have hmf : ∀ (fn : Fn) (first cap : Array Value) (w : World), (Instr.makeFunc fn first cap).run Tryz.prog w = .ok (.func fn first cap) w := fun _ _ _ _ => rfl
    clear hS hE hr
    go_enter Tryz.func66, Tryz.ntmps66
    go_wp2_with fail
    refine (IH.out _ i (d + 1) r (by omega) hi HS1.out HE1.out HR).mono ?_
    rintro e w2 hp
    cases r with
    | error e0 =>
      obtain ⟨c0, p0⟩ := e0
      obtain ⟨hK2, v, u, j', l0, rfl, hv0, hl0, ⟨eb, rfl, q2, q3⟩, hS2⟩ := hp
      have HV := Lib.hid (hv0.kept (Kept.setCell (S := At b) (p := ⟨b, 2, none⟩) (Kept.refl _ w2) (fun _ => rfl) (.int .i64 (d : Int))))
      obtain ⟨va, vc, rfl⟩ := hv0.form
      have HS2 := Lib.hid (hS2.deep d)
      have k2 := hS2.c2
      have kf := hS2.fr 2
      rw [hcast] at k2
      have HK3 := Lib.hid (Kept.setCell (S := At b) (p := ⟨b, 2, none⟩) (HK1.out.same hK2) (fun _ => rfl) (.int .i64 (d : Int)))
      have hsz := hK2.size
      have HQ := Lib.hid (PErr.kept (w := w) (w'' := w2.setCell ⟨b, 2, none⟩ (.int .i64 (d : Int))) ⟨eb, rfl, q2, by have := HK1.out.size; omega⟩ hbl (Kept.setCell (S := At b) (p := ⟨b, 2, none⟩) (Kept.refl _ w2) (fun _ => rfl) (.int .i64 (d : Int))))
      clear hS2 hK2 q2 HS1 HE1 HR
      go_wp2_with fail
      go_ret2
      exact POut.bad rfl rfl HV.out (by omega) HQ.out HS2.out HK3.out
    | ok y =>
      obtain ⟨l, j⟩ := y
      obtain ⟨hK2, v, rfl, hN, hS2⟩ := hp
      have HS2 := Lib.hid (hS2.deep d)
      have k2 := hS2.c2
      have kf := hS2.fr 2
      rw [hcast] at k2
      have HK3 := Lib.hid (Kept.setCell (S := At b) (p := ⟨b, 2, none⟩) (HK1.out.same hK2) (fun _ => rfl) (.int .i64 (d : Int)))
      have HN := Lib.hid (hN.kept (Kept.setCell (S := At b) (p := ⟨b, 2, none⟩) (Kept.refl _ w2) (fun _ => rfl) (.int .i64 (d : Int))))
      obtain ⟨gg, gc, rfl, -⟩ := hN
      clear hS2 hK2 HS1 HE1 HR
      go_wp2_with fail
      go_ret2
      exact POut.ok rfl rfl HN.out HS2.out HK3.out

end Go.Proofs.YtepebnblbheegaaGreatDoor

/- Dialect B's parser: a list, a body. -/
namespace Go.Proofs.YtepebnblbheegaaGreatDoor
open Go Go.RowKit

set_option maxHeartbeats 4000000 in
set_option maxRecDepth 100000 in
theorem pList_walk {b g cap : Nat} {ts : List BTok} {sent : Nat → Addr} (T : PTs cap ts) (f : Nat) (ih : Does b g cap ts sent 67 (fun d i => pChains ts f d i [])) : DoesL b g cap ts sent 36 (pList ts (f + 1)) := by
  intro w i d r hd hi hS hE hr
  have hmf : ∀ (fn : Fn) (first cap : Array Value) (w : World), (Instr.makeFunc fn first cap).run Tryz.prog w = .ok (.func fn first cap) w := fun _ _ _ _ => rfl
  have HD := Lib.hid (pDeeper_chains T (fun d i => pChains ts f d i []) ih w i d r hd hi hS hE (Lib.hid (by have := hr.out; rw [pList] at this; exact this)))
  clear hS hE hr ih
  go_enter Tryz.func36, Tryz.ntmps36
  go_wp2_with fail
  refine HD.out.mono ?_
  rintro e w2 hp
  cases r with
  | error e0 =>
    obtain ⟨c0, p0⟩ := e0
    obtain ⟨hK2, v, u, j', l0, rfl, hv0, hl0, hPE, hS2⟩ := hp
    go_wp2_with fail
    go_ret2
    exact POut.bad rfl rfl hv0 hl0 hPE hS2 hK2
  | ok y =>
    obtain ⟨l, j⟩ := y
    obtain ⟨hK2, v, rfl, hN, hS2⟩ := hp
    go_wp2_with fail
    go_ret2
    exact POut.ok rfl rfl hN hS2 hK2

set_option maxHeartbeats 4000000 in
set_option maxRecDepth 100000 in
theorem pBody_walk {b g cap : Nat} {ts : List BTok} {sent : Nat → Addr} (T : PTs cap ts) (f : Nat) (ih : Does b g cap ts sent 186 (pCommand ts f)) : DoesL b g cap ts sent 244 (pBody ts (f + 1)) := by
  intro w i d r hd hi hS hE hr
  have F := T.fix
  have hbl := hS.blt
  have hmf : ∀ (fn : Fn) (first cap : Array Value) (w : World), (Instr.makeFunc fn first cap).run Tryz.prog w = .ok (.func fn first cap) w := fun _ _ _ _ => rfl
  have hp := passT_le (ts := ts) [1] hi
  obtain ⟨j, hj⟩ : ∃ j, passT ts [1] i = j := ⟨_, rfl⟩
  rw [hj] at hp
  have HR := Lib.hid hr.out
  rw [pBody, hj] at HR
  have IH := Lib.hid ih
  clear ih hr
  go_enter Tryz.func244, Tryz.ntmps244
  go_wp2_with fail
  refine (pPass_any F (hS.alloc _) hi [1] _ _ (by decide) (by decide) (show Blk _ _ [Value.int .i64 1] from Blk.new w _ _) (by omega)).mono ?_
  rintro e w1 ⟨rfl, hS1, hK1⟩
  rw [hj] at hS1
  have hK := ((Kept.refl (At b) w).alloc (.cells #[Value.int .i64 1] 3)).same hK1
  have hE1 := hE.kept hK
  have HD := Lib.hid (pDeeper_command T (pCommand ts f) IH.out w1 j d r hd hp.2 hS1 hE1 HR)
  have hsz := hK.size
  clear hS hE hS1 hE1 hK1 HR
  go_wp2_with fail
  refine HD.out.mono ?_
  rintro e w2 hp
  cases r with
  | error e0 =>
    obtain ⟨c0, p0⟩ := e0
    obtain ⟨hK2, v, u, j', l0, rfl, hv0, hl0, hPE, hS2⟩ := hp
    go_wp2_with fail
    go_ret2
    exact POut.bad rfl rfl hv0 hl0 (hPE.from hsz) hS2 (hK.same hK2)
  | ok y =>
    obtain ⟨l, j⟩ := y
    obtain ⟨hK2, v, rfl, hN, hS2⟩ := hp
    go_wp2_with fail
    go_ret2
    exact POut.ok rfl rfl hN hS2 (hK.same hK2)

end Go.Proofs.YtepebnblbheegaaGreatDoor

/- Dialect B's parser: a block, a test. -/
namespace Go.Proofs.YtepebnblbheegaaGreatDoor
open Go Go.RowKit

theorem list_lt {ts : List BTok} {cap : Nat} (T : PTs cap ts) {f d i : Nat} {l : Prog} {e : Nat} (hi : i < ts.length) (h : pList ts f d i = some (.ok (l, e))) : e < ts.length := (((postAll T.fix.good f).list d i hi).1 l e h).2.1
theorem list_len {ts : List BTok} {cap : Nat} (T : PTs cap ts) {f d i : Nat} {l : Prog} {e : Nat} (hi : i < ts.length) (h : pList ts f d i = some (.ok (l, e))) : l.length ≤ 50000 := by
  have := ((postAll T.fix.good f).list d i hi).1 l e h
  have := T.fix.num
  omega
theorem form_code {ts : List BTok} {i : Nat} {α : Type} {r : Except (Nat × Nat) (α × Nat)} (h : (formP ts i : PRes α) = some r) : r = .error (if isK ts i [0] = true then 109 else 108, (tkAt ts i).place) := (Option.some.inj (show some (Except.error (if isK ts i [0] = true then 109 else 108, (tkAt ts i).place)) = some r from h)).symm

set_option maxHeartbeats 8000000 in
set_option maxRecDepth 100000 in
theorem pBlock_walk {b g cap : Nat} {ts : List BTok} {sent : Nat → Addr} (T : PTs cap ts) (f : Nat) (ih : DoesL b g cap ts sent 36 (pList ts f)) : DoesM b g cap ts sent 211 (pBlock ts (f + 1)) := by
  intro w i d r hd hi hS hE hr
  have F := T.fix
  have hbl := hS.blt
  have HR := Lib.hid hr.out
  rw [pBlock] at HR
  have IH := Lib.hid ih
  clear ih hr
  by_cases x0 : isK ts i [8] = true
  · have HR1 := Lib.hid HR.out
    unfold takeP at HR1
    rw [if_pos x0] at HR1
    have hj := (skP_le (ts := ts) hi).2
    obtain ⟨j, hjj⟩ : ∃ j, skP ts i = j := ⟨_, rfl⟩
    rw [hjj] at HR1 hj
    clear HR
    go_enter Tryz.func211, Tryz.ntmps211
    go_wp2_with fail
    refine (pTake_yes F (hS.alloc _) hi [8] _ _ (by decide) (show Blk _ _ [Value.int .i64 8] from Blk.new _ _ _) x0).mono ?_
    rintro e w1 ⟨rfl, hS1, hK7⟩
    have hK1 := ((Kept.refl (At b) w).alloc (.cells #[Value.int .i64 8] 3)).same hK7
    clear hK7
    rw [hjj] at hS1
    have hE1 := hE.kept hK1
    clear hS hE x0
    cases hq : pList ts f d j with
    | none =>
      rw [hq] at HR1
      exact absurd HR1.out (by simp [PRes.go])
    | some rc =>
      rw [hq] at HR1
      have HD := Lib.hid (IH.out w1 j d rc hd hj hS1 hE1 (Lib.hid hq))
      cases rc with
      | error e0 =>
        obtain ⟨c0, p0⟩ := e0
        have HX := Lib.hid (Option.some.inj (show some (Except.error (c0, p0)) = some r from HR1.out)).symm
        have hsz := hK1.size
        clear HR1 hq hS1
        go_wp2_with fail
        refine HD.out.mono ?_
        rintro e w2 ⟨hK2, v, u, j', l0, rfl, hv0, hl0, hPE, hS2⟩
        have HPE := Lib.hid (hPE.from hsz)
        have HV := Lib.hid hv0
        obtain ⟨va, vc, rfl⟩ := hv0.form
        obtain ⟨eb, rfl, -⟩ := hPE
        go_wp2_with fail
        go_ret2
        exact POut.bad HX.out rfl HV.out (by omega) HPE.out hS2 (hK1.same hK2)
      | ok q =>
        obtain ⟨l, k⟩ := q
        have hk := list_lt T hj hq
        have hll := list_len T hj hq
        have HR2 := Lib.hid (show (if isK ts k [9] = true then pOk l (skP ts k) else formP ts k) = some r from HR1.out)
        clear HR1 hq hS1
        go_wp2_with fail
        refine HD.out.mono ?_
        rintro e w2 ⟨hK2, v, rfl, hN, hS2⟩
        have hK3 := hK1.same hK2
        have hE2 := hE1.kept hK2
        have hsz := hK3.size
        clear hK1 hK2 hE1 HD
        by_cases x0 : isK ts k [9] = true
        · have HX := Lib.hid HR2.out
          rw [if_pos x0] at HX
          have HX2 := Lib.hid (Option.some.inj (show some (Except.ok (l, skP ts k)) = some r from HX.out)).symm
          clear HX HR2
          go_wp2_with fail
          refine (pTake_yes F (hS2.alloc _) hk [9] _ _ (by decide) (show Blk _ _ [Value.int .i64 9] from Blk.new _ _ _) x0).mono ?_
          rintro e w3 ⟨rfl, hS3, hK7⟩
          have hK4 := ((Kept.refl (At b) w2).alloc (.cells #[Value.int .i64 9] 3)).same hK7
          clear hK7
          go_wp2_with fail
          go_ret2
          exact POut.ok HX2.out rfl (hN.kept hK4) hS3 (hK3.same hK4)
        · have x0 : isK ts k [9] = false := by simpa using x0
          have HX := Lib.hid HR2.out
          rw [x0, if_neg (by simp)] at HX
          have HX2 := Lib.hid (form_code HX.out)
          clear HX HR2
          go_wp2_with fail
          refine (pTake_no F (hS2.alloc _) hk [9] _ _ (by decide) (show Blk _ _ [Value.int .i64 9] from Blk.new _ _ _) x0 sent (hE2.env.below ((Below.refl _ _).alloc (Nat.le_refl _) _))).mono ?_
          rintro e w7 ⟨eb, rfl, hE7, hl7, hb7⟩
          have hb8 := bNext ((Below.refl _ w2).alloc (Nat.le_refl _) (.cells #[Value.int .i64 9] 3)) hb7
          go_wp2_with fail
          go_ret2
          exact POut.bad HX2.out rfl (.inl (hN.below hb8)) (by omega) ⟨eb, rfl, hE7, by have := hl7; simp at this; omega⟩ (hS2.below hb8) (hK3.andBelow hb8)
  · have x0 : isK ts i [8] = false := by simpa using x0
    have HR1 := Lib.hid HR.out
    unfold takeP at HR1
    rw [x0, if_neg (by simp)] at HR1
    have HX2 := Lib.hid (form_code HR1.out)
    clear HR HR1
    go_enter Tryz.func211, Tryz.ntmps211
    go_wp2_with fail
    refine (pTake_no F (hS.alloc _) hi [8] _ _ (by decide) (show Blk _ _ [Value.int .i64 8] from Blk.new _ _ _) x0 sent (hE.env.below ((Below.refl _ _).alloc (Nat.le_refl _) _))).mono ?_
    rintro e w7 ⟨eb, rfl, hE7, hl7, hb7⟩
    have hb8 := bNext ((Below.refl _ w).alloc (Nat.le_refl _) (.cells #[Value.int .i64 8] 3)) hb7
    go_wp2_with fail
    go_ret2
    exact POut.bad HX2.out rfl (.none _ _) (Nat.zero_le _) ⟨eb, rfl, hE7, by have := hl7; simp at this; omega⟩ (hS.below hb8) ((Kept.refl _ w).andBelow hb8)

set_option maxHeartbeats 8000000 in
set_option maxRecDepth 100000 in
theorem pTest_walk {b g cap : Nat} {ts : List BTok} {sent : Nat → Addr} (T : PTs cap ts) (f : Nat) (ih : DoesL b g cap ts sent 36 (pList ts f)) : Does b g cap ts sent 243 (pTest ts (f + 1)) := by
  intro w i d r hd hi hS hE hr
  have F := T.fix
  have hbl := hS.blt
  have HR := Lib.hid hr.out
  rw [pTest] at HR
  have IH := Lib.hid ih
  clear ih hr
  have hi0 := (skP_le (ts := ts) hi).2
  obtain ⟨i0, hi00⟩ : ∃ i0, skP ts i = i0 := ⟨_, rfl⟩
  rw [hi00] at HR hi0
  go_enter Tryz.func243, Tryz.ntmps243
  go_wp2_with fail
  refine (pSkip_any F hS hi).mono ?_
  rintro e w0 ⟨rfl, hS0, hK0⟩
  rw [hi00] at hS0
  have hE0 := hE.kept hK0
  have hsz0 := hK0.size
  clear hS hE hi hi00
  by_cases x0 : isK ts i0 [6] = true
  · have HR1 := Lib.hid HR.out
    unfold takeP at HR1
    rw [if_pos x0] at HR1
    have hj := (skP_le (ts := ts) hi0).2
    obtain ⟨j, hjj⟩ : ∃ j, skP ts i0 = j := ⟨_, rfl⟩
    rw [hjj] at HR1 hj
    clear HR
    go_wp2_with fail
    refine (pTake_yes F (hS0.alloc _) hi0 [6] _ _ (by decide) (show Blk _ _ [Value.int .i64 6] from Blk.new _ _ _) x0).mono ?_
    rintro e w1 ⟨rfl, hS1, hK7⟩
    have hKx := ((Kept.refl (At b) w0).alloc (.cells #[Value.int .i64 6] 3)).same hK7
    clear hK7
    rw [hjj] at hS1
    have hE1 := hE0.kept hKx
    have hK1 := hK0.same hKx
    clear hS0 hE0 hKx x0
    cases hq : pList ts f d j with
    | none =>
      rw [hq] at HR1
      exact absurd HR1.out (by simp [PRes.go])
    | some rc =>
      rw [hq] at HR1
      have HD := Lib.hid (IH.out w1 j d rc hd hj hS1 hE1 (Lib.hid hq))
      cases rc with
      | error e0 =>
        obtain ⟨c0, p0⟩ := e0
        have HX := Lib.hid (Option.some.inj (show some (Except.error (c0, p0)) = some r from HR1.out)).symm
        have hsz := hK1.size
        clear HR1 hq hS1
        go_wp2_with fail
        refine HD.out.mono ?_
        rintro e w2 ⟨hK2, v, u, j', l0, rfl, hv0, hl0, hPE, hS2⟩
        have HPE := Lib.hid (hPE.from hsz)
        have HV := Lib.hid hv0
        obtain ⟨va, vc, rfl⟩ := hv0.form
        obtain ⟨eb, rfl, -⟩ := hPE
        go_wp2_with fail
        go_ret2
        exact POut.bad HX.out rfl HV.out (by omega) HPE.out hS2 (hK1.same hK2)
      | ok q =>
        obtain ⟨l, k⟩ := q
        have hk := list_lt T hj hq
        have hll := list_len T hj hq
        have HR2 := Lib.hid (show (if isK ts k [7] = true then pOk l (skP ts k) else formP ts k) = some r from HR1.out)
        clear HR1 hq hS1
        go_wp2_with fail
        refine HD.out.mono ?_
        rintro e w2 ⟨hK2, v, rfl, hN, hS2⟩
        have hK3 := hK1.same hK2
        have hE2 := hE1.kept hK2
        have hsz := hK3.size
        clear hK1 hK2 hE1 HD
        by_cases x0 : isK ts k [7] = true
        · have HX := Lib.hid HR2.out
          rw [if_pos x0] at HX
          have HX2 := Lib.hid (Option.some.inj (show some (Except.ok (l, skP ts k)) = some r from HX.out)).symm
          clear HX HR2
          go_wp2_with fail
          refine (pTake_yes F (hS2.alloc _) hk [7] _ _ (by decide) (show Blk _ _ [Value.int .i64 7] from Blk.new _ _ _) x0).mono ?_
          rintro e w3 ⟨rfl, hS3, hK7⟩
          have hK4 := ((Kept.refl (At b) w2).alloc (.cells #[Value.int .i64 7] 3)).same hK7
          clear hK7
          go_wp2_with fail
          go_ret2
          exact POut.ok HX2.out rfl (hN.kept hK4) hS3 (hK3.same hK4)
        · have x0 : isK ts k [7] = false := by simpa using x0
          have HX := Lib.hid HR2.out
          rw [x0, if_neg (by simp)] at HX
          have HX2 := Lib.hid (form_code HX.out)
          clear HX HR2
          go_wp2_with fail
          refine (pTake_no F (hS2.alloc _) hk [7] _ _ (by decide) (show Blk _ _ [Value.int .i64 7] from Blk.new _ _ _) x0 sent (hE2.env.below ((Below.refl _ _).alloc (Nat.le_refl _) _))).mono ?_
          rintro e w7 ⟨eb, rfl, hE7, hl7, hb7⟩
          have hb8 := bNext ((Below.refl _ w2).alloc (Nat.le_refl _) (.cells #[Value.int .i64 7] 3)) hb7
          go_wp2_with fail
          go_ret2
          exact POut.bad HX2.out rfl (.inl (hN.below hb8)) (by omega) ⟨eb, rfl, hE7, by have := hl7; simp at this; omega⟩ (hS2.below hb8) (hK3.andBelow hb8)
  · have x0 : isK ts i0 [6] = false := by simpa using x0
    have HR1 := Lib.hid HR.out
    unfold takeP at HR1
    rw [x0, if_neg (by simp)] at HR1
    have HX2 := Lib.hid (form_code HR1.out)
    clear HR HR1
    go_wp2_with fail
    refine (pTake_no F (hS0.alloc _) hi0 [6] _ _ (by decide) (show Blk _ _ [Value.int .i64 6] from Blk.new _ _ _) x0 sent (hE0.env.below ((Below.refl _ _).alloc (Nat.le_refl _) _))).mono ?_
    rintro e w7 ⟨eb, rfl, hE7, hl7, hb7⟩
    have hb8 := bNext ((Below.refl _ w0).alloc (Nat.le_refl _) (.cells #[Value.int .i64 6] 3)) hb7
    go_wp2_with fail
    go_ret2
    exact POut.bad HX2.out rfl (.none _ _) (Nat.zero_le _) ⟨eb, rfl, hE7, by have := hl7; simp at this; omega⟩ (hS0.below hb8) (hK0.andBelow hb8)

end Go.Proofs.YtepebnblbheegaaGreatDoor
