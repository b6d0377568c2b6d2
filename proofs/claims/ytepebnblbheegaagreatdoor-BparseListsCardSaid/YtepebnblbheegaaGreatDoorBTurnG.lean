/- Dialect B's parser: turns in memory. -/
import Derived.Test.YtepebnblbheegaaGreatDoorBWordsG
namespace Go.Proofs.YtepebnblbheegaaGreatDoor
open Go Go.RowKit

theorem infoTurns : (Tryz.prog.info? 254).map (fun i => (i.zero, i.size, i.bytes)) = some (some (.agg #[.int .i64 0, .slice none 0 0]), 2, 32) := by kernel_rfl

/-- The cells of turns. -/
def turnCells : List (Nat × Prog) → List Value → List Value
  | t :: l, u :: us => .int .i64 (t.1 : Int) :: u :: turnCells l us
  | _, _ => []
theorem turnCells_len : ∀ (l : List (Nat × Prog)) (us : List Value), us.length = l.length → (turnCells l us).length = l.length * 2
  | [], _, _ => by simp [turnCells]
  | t :: l, [], h => by simp at h
  | t :: l, u :: us, h => by
    have := turnCells_len l us (by simpa using h)
    rw [turnCells, List.length_cons, List.length_cons, this, List.length_cons]
    omega
theorem turnCells_snoc : ∀ (l : List (Nat × Prog)) (us : List Value) (t : Nat × Prog) (u : Value), us.length = l.length → turnCells (l ++ [t]) (us ++ [u]) = turnCells l us ++ [.int .i64 (t.1 : Int), u]
  | [], [], t, u, _ => rfl
  | [], _ :: _, t, u, h => by simp at h
  | _ :: l, [], t, u, h => by simp at h
  | a :: l, v :: us, t, u, h => by
    rw [List.cons_append, List.cons_append, turnCells, turnCells_snoc l us t u (by simpa using h), turnCells]
    rfl
theorem turnCells_get : ∀ (l : List (Nat × Prog)) (us : List Value) (i : Nat) (t : Nat × Prog) (u : Value), l[i]? = some t → us[i]? = some u → (turnCells l us)[i * 2]? = some (.int .i64 (t.1 : Int)) ∧ (turnCells l us)[i * 2 + 1]? = some u
  | [], _, i, t, u, h, _ => by simp at h
  | _ :: _, [], i, t, u, _, h => by simp at h
  | a :: l, v :: us, 0, t, u, h, h' => by
    simp only [List.getElem?_cons_zero, Option.some.injEq] at h h'
    subst h h'
    exact ⟨rfl, rfl⟩
  | a :: l, v :: us, i + 1, t, u, h, h' => by
    have := turnCells_get l us i t u (by simpa using h) (by simpa using h')
    rw [turnCells, Nat.succ_mul]
    exact this
theorem turnCells_one (t : Nat × Prog) (u : Value) : ([.int .i64 (t.1 : Int), u] : List Value) = turnCells [t] [u] := rfl

/-- Turns in a row of one's own, from block B on. -/
def TOwn (w : World) (B b : Nat) (v : Value) (L : List (Nat × Prog)) : Prop := ∃ us : List Value, us.length = L.length ∧ w.ownsRow B 254 2 v L.length (turnCells L us) ∧ ∀ (i : Nat) (u : Value) (t : Nat × Prog), us[i]? = some u → L[i]? = some t → NSl w b u t.2
theorem TOwn.nil (w : World) (B b : Nat) : TOwn w B b (.slice none 0 0) [] := ⟨[], rfl, World.ownsRow_nil _ _ _ _, fun i u l h => by simp at h⟩
theorem TOwn.kept {w w' : World} {B b : Nat} {v : Value} {L : List (Nat × Prog)} (h : TOwn w B b v L) (hb : b < B) (hk : Kept (At b) w w') : TOwn w' B b v L := by
  obtain ⟨us, h1, h2, h3⟩ := h
  exact ⟨us, h1, ownsRow_kept h2 hk (fun k hk _ e => by unfold At at e; omega), fun i u l hu hl => (h3 i u l hu hl).kept hk⟩
theorem TOwn.below {w w' : World} {B b : Nat} {v : Value} {L : List (Nat × Prog)} (h : TOwn w B b v L) (hb : b < B) (hk : Below w.heap.size w w') : TOwn w' B b v L := h.kept hb (.ofBelow hk)
theorem TOwn.form {w : World} {B b : Nat} {v : Value} {L : List (Nat × Prog)} (h : TOwn w B b v L) : ∃ ao cap, v = .slice ao L.length cap := by
  obtain ⟨us, h1, h2, _⟩ := h
  rcases h2.2 with ⟨hv, h0⟩ | ⟨g, cap, cur, hv, _⟩
  · exact ⟨none, 0, by rw [hv, h0]⟩
  · exact ⟨_, _, hv⟩

/-- A slice value holds turns. -/
def TSl (w : World) (b : Nat) (v : Value) (L : List (Nat × Prog)) : Prop := ∃ ao cap, v = .slice ao L.length cap ∧ L.length ≤ cap ∧ cap ≤ maxLen ∧
  (0 < L.length → ∃ g, ao = some ⟨g, 0, none⟩ ∧ g < w.heap.size ∧ ∀ (i : Nat) (t : Nat × Prog), L[i]? = some t → ∃ u, w.cell? ⟨g, i * 2, none⟩ = some (.int .i64 (t.1 : Int)) ∧ w.cell? ⟨g, i * 2 + 1, none⟩ = some u ∧ NSl w b u t.2)
theorem TOwn.tsl {w : World} {B b : Nat} {v : Value} {L : List (Nat × Prog)} (h : TOwn w B b v L) : TSl w b v L := by
  obtain ⟨us, h1, h2, h3⟩ := h
  by_cases hl : 0 < L.length
  · obtain ⟨g, cap, q1, q2, q3, q4, q5, q6⟩ := row_cell h2 hl
    refine ⟨_, cap, q1, q2, q3, fun _ => ⟨g, rfl, q5, fun i t hi => ?_⟩⟩
    have hil := (List.getElem?_eq_some_iff.1 hi).1
    have hu : us[i]? = some us[i] := List.getElem?_eq_getElem (by omega)
    obtain ⟨c1, c2⟩ := turnCells_get L us i t _ hi hu
    exact ⟨_, q6 _ _ c1, q6 _ _ c2, h3 i _ t hu hi⟩
  · have h0 : L = [] := List.length_eq_zero_iff.1 (by omega)
    subst h0
    rcases h2.2 with ⟨hv, _⟩ | ⟨g, cap, cur, hv, _, _, q1, q2, _⟩
    · exact ⟨none, 0, hv, Nat.le_refl _, Nat.zero_le _, fun h => absurd h (by simp)⟩
    · exact ⟨_, cap, hv, q1, q2, fun h => absurd h (by simp)⟩
/-- One more. -/
theorem TOwn.grown {w0 w w' : World} {b : Nat} {v v' : Value} {L : List (Nat × Prog)} {t : Nat × Prog} {u : Value} {us : List Value} {o : Obj} (hs : w0.heap.size ≤ w.heap.size) (h1 : us.length = L.length) (h2 : w.ownsRow w0.heap.size 254 2 v L.length (turnCells L us)) (h3 : ∀ (i : Nat) (u : Value) (t : Nat × Prog), us[i]? = some u → L[i]? = some t → NSl w b u t.2) (hu : NSl w b u t.2)
    (hown : w'.ownsRow w0.heap.size 254 2 v' (L.length + 1) (turnCells L us ++ [.int .i64 (t.1 : Int), u])) (hg : (w.alloc o).grownBy w' v.ownBlock) : TOwn w' w0.heap.size b v' (L ++ [t]) ∧ Below w0.heap.size w w' := by
  have hb1 := (Below.refl w.heap.size w).alloc (Nat.le_refl _) o
  have hrow : ∀ k, v.ownBlock = some k → ∃ cur fz t, (w.alloc o).heap[k]? = some (.cells cur t fz) ∧ t ≠ 82 := fun k hk => by
    obtain ⟨cur, fz, e⟩ := ownsRow_tag h2 k hk
    exact ⟨cur, fz, 254, (hb1.block k (lt_of_block e)).trans e, by decide⟩
  have hlt := World.ownsRow.lt h2
  have hsame : ∀ x l, NSl w b x l → NSl w' b x l := fun x l hx => (hx.below hb1).grown hg hrow
  refine ⟨⟨us ++ [u], by simp [h1], ?_, fun i x y hx hy => ?_⟩, ?_⟩
  · rw [turnCells_snoc L us t u h1, List.length_append]
    exact hown
  · by_cases hi : i < us.length
    · rw [List.getElem?_append_left hi] at hx
      rw [List.getElem?_append_left (by omega)] at hy
      exact hsame _ _ (h3 i x y hx hy)
    · rw [List.getElem?_append_right (by omega)] at hx hy
      obtain ⟨k, hk⟩ : ∃ k, i - us.length = k := ⟨_, rfl⟩
      have hk2 : i - L.length = k := by omega
      rw [hk] at hx
      rw [hk2] at hy
      cases k with
      | zero =>
        cases hx
        cases hy
        exact hsame _ _ hu
      | succ k => simp at hx
  · exact (hb1.mono hs).trans ((Kept.grown (S := fun k => some k = v.ownBlock) (Kept.refl _ _) hg (fun k h _ => h.symm)).below (by simp; omega) (fun i hi e => by have := hlt _ e.symm; omega))

end Go.Proofs.YtepebnblbheegaaGreatDoor

/- Dialect B's parser: rows beside one another; names in memory. -/
namespace Go.Proofs.YtepebnblbheegaaGreatDoor
open Go Go.RowKit

/-- A row stays as it is where another, of another kind, has grown. -/
theorem ownsRow_other {w w' : World} {B : Nat} {e : TypeId} {size : Nat} {v : Value} {n : Nat} {xs : List Value} {row : Option Nat} (h : w.ownsRow B e size v n xs) (hg : w.grownBy w' row) (hr : ∀ k, row = some k → ∃ cur fz t, w.heap[k]? = some (.cells cur t fz) ∧ t ≠ e) : w'.ownsRow B e size v n xs := by
  refine ⟨h.1, ?_⟩
  rcases h.2 with h2 | ⟨g, cap, cur, hv, hB, hh, r⟩
  · exact .inl h2
  · refine .inr ⟨g, cap, cur, hv, hB, (hg.block g (lt_of_block hh) (fun e => ?_)).trans hh, r⟩
    obtain ⟨c2, f2, t2, h7, h8⟩ := hr g e.symm
    rw [hh] at h7
    injection h7 with h7
    injection h7 with _ h9 _
    exact h8 h9.symm
/-- What block a row's growing turns: one of that row's kind, or none. -/
theorem row_kind {w : World} {B : Nat} {e : TypeId} {size : Nat} {v : Value} {n : Nat} {xs : List Value} (h : w.ownsRow B e size v n xs) (o : Obj) : ∀ k, v.ownBlock = some k → ∃ cur fz t, (w.alloc o).heap[k]? = some (.cells cur t fz) ∧ t = e := fun k hk => by
  obtain ⟨cur, fz, h1⟩ := ownsRow_tag h k hk
  exact ⟨cur, fz, e, (((Below.refl w.heap.size w).alloc (Nat.le_refl _) o).block k (lt_of_block h1)).trans h1, rfl⟩
theorem KOwn.other {w w' : World} {B b : Nat} {v : Value} {L : List Prog} {e : TypeId} {row : Option Nat} (h : KOwn w B b v L) (hg : w.grownBy w' row) (h1 : e ≠ 23) (h2 : e ≠ 82) (hr : ∀ k, row = some k → ∃ cur fz t, w.heap[k]? = some (.cells cur t fz) ∧ t = e) : KOwn w' B b v L := by
  obtain ⟨us, u1, u2, u3⟩ := h
  refine ⟨us, u1, ownsRow_other u2 hg (fun k hk => ?_), fun i u l hu hl => (u3 i u l hu hl).grown hg (fun k hk => ?_)⟩
  · obtain ⟨c, f, t, h3, rfl⟩ := hr k hk
    exact ⟨c, f, t, h3, h1⟩
  · obtain ⟨c, f, t, h3, rfl⟩ := hr k hk
    exact ⟨c, f, t, h3, h2⟩
theorem TOwn.other {w w' : World} {B b : Nat} {v : Value} {L : List (Nat × Prog)} {e : TypeId} {row : Option Nat} (h : TOwn w B b v L) (hg : w.grownBy w' row) (h1 : e ≠ 254) (h2 : e ≠ 82) (hr : ∀ k, row = some k → ∃ cur fz t, w.heap[k]? = some (.cells cur t fz) ∧ t = e) : TOwn w' B b v L := by
  obtain ⟨us, u1, u2, u3⟩ := h
  refine ⟨us, u1, ownsRow_other u2 hg (fun k hk => ?_), fun i u l hu hl => (u3 i u l hu hl).grown hg (fun k hk => ?_)⟩
  · obtain ⟨c, f, t, h3, rfl⟩ := hr k hk
    exact ⟨c, f, t, h3, h1⟩
  · obtain ⟨c, f, t, h3, rfl⟩ := hr k hk
    exact ⟨c, f, t, h3, h2⟩

/-- Names in a row of one's own. -/
def SOwn (w : World) (B : Nat) (v : Value) (L : List (List UInt8)) : Prop := w.ownsRow B 9 1 v L.length (L.map fun s => Value.string (bs s))
theorem SOwn.nil (w : World) (B : Nat) : SOwn w B (.slice none 0 0) [] := World.ownsRow_nil _ _ _ _
theorem SOwn.kept {w w' : World} {B b : Nat} {v : Value} {L : List (List UInt8)} (h : SOwn w B v L) (hb : b < B) (hk : Kept (At b) w w') : SOwn w' B v L := ownsRow_kept h hk (fun k hk _ e => by unfold At at e; omega)
theorem SOwn.below {w w' : World} {B b : Nat} {v : Value} {L : List (List UInt8)} (h : SOwn w B v L) (hb : b < B) (hk : Below w.heap.size w w') : SOwn w' B v L := h.kept hb (.ofBelow hk)
theorem SOwn.other {w w' : World} {B : Nat} {v : Value} {L : List (List UInt8)} {e : TypeId} {row : Option Nat} (h : SOwn w B v L) (hg : w.grownBy w' row) (h1 : e ≠ 9) (hr : ∀ k, row = some k → ∃ cur fz t, w.heap[k]? = some (.cells cur t fz) ∧ t = e) : SOwn w' B v L :=
  ownsRow_other h hg (fun k hk => by
    obtain ⟨c, f, t, h3, rfl⟩ := hr k hk
    exact ⟨c, f, t, h3, h1⟩)
theorem SOwn.form {w : World} {B : Nat} {v : Value} {L : List (List UInt8)} (h : SOwn w B v L) : ∃ ao cap, v = .slice ao L.length cap := by
  rcases h.2 with ⟨hv, h0⟩ | ⟨g, cap, cur, hv, _⟩
  · exact ⟨none, 0, by rw [hv, h0]⟩
  · exact ⟨_, _, hv⟩
/-- A slice value holds names. -/
def SSl (w : World) (v : Value) (L : List (List UInt8)) : Prop := ∃ ao cap, v = .slice ao L.length cap ∧ L.length ≤ cap ∧ cap ≤ maxLen ∧
  (0 < L.length → ∃ g, ao = some ⟨g, 0, none⟩ ∧ g < w.heap.size ∧ ∀ (i : Nat) (s : List UInt8), L[i]? = some s → w.cell? ⟨g, i, none⟩ = some (.string (bs s)))
theorem SSl.below {w w' : World} {v : Value} {L : List (List UInt8)} (h : SSl w v L) (hb : Below w.heap.size w w') : SSl w' v L := by
  obtain ⟨ao, cap, h1, h2, h3, h4⟩ := h
  refine ⟨ao, cap, h1, h2, h3, fun hl => ?_⟩
  obtain ⟨g, e1, e2, e3⟩ := h4 hl
  exact ⟨g, e1, Nat.lt_of_lt_of_le e2 hb.size, fun i s hi => bSome hb (e3 i s hi)⟩
theorem SOwn.ssl {w : World} {B : Nat} {v : Value} {L : List (List UInt8)} (h : SOwn w B v L) : SSl w v L := by
  by_cases hl : 0 < L.length
  · obtain ⟨g, cap, q1, q2, q3, q4, q5, q6⟩ := row_cell h hl
    refine ⟨_, cap, q1, q2, q3, fun _ => ⟨g, rfl, q5, fun i s hi => ?_⟩⟩
    exact q6 _ _ (by rw [List.getElem?_map, hi]; rfl)
  · have h0 : L = [] := List.length_eq_zero_iff.1 (by omega)
    subst h0
    rcases h.2 with ⟨hv, _⟩ | ⟨g, cap, cur, hv, _, _, q1, q2, _⟩
    · exact ⟨none, 0, hv, Nat.le_refl _, Nat.zero_le _, fun h => absurd h (by simp)⟩
    · exact ⟨_, cap, hv, q1, q2, fun h => absurd h (by simp)⟩
theorem TSl.below {w w' : World} {b : Nat} {v : Value} {L : List (Nat × Prog)} (h : TSl w b v L) (hb : Below w.heap.size w w') : TSl w' b v L := by
  obtain ⟨ao, cap, h1, h2, h3, h4⟩ := h
  refine ⟨ao, cap, h1, h2, h3, fun hl => ?_⟩
  obtain ⟨g, e1, e2, e3⟩ := h4 hl
  refine ⟨g, e1, Nat.lt_of_lt_of_le e2 hb.size, fun i t hi => ?_⟩
  obtain ⟨u, u1, u2, u3⟩ := e3 i t hi
  exact ⟨u, bSome hb u1, bSome hb u2, u3.below hb⟩
theorem infoString : (Tryz.prog.info? 9).map (fun i => (i.zero, i.size, i.bytes)) = some (some (.string ⟨#[]⟩), 1, 16) := by kernel_rfl

end Go.Proofs.YtepebnblbheegaaGreatDoor

/- Dialect B's parser: a function, a for. -/
namespace Go.Proofs.YtepebnblbheegaaGreatDoor
open Go Go.RowKit

theorem takeP_yes {α : Type} {ts : List BTok} {i : Nat} {ks : List Nat} {k : Nat → PRes α} {r : PRes α} (h : isK ts i ks = true) (hr : takeP ts i ks k = r) : k (skP ts i) = r := by
  unfold takeP at hr
  rwa [if_pos h] at hr
theorem takeP_no {α : Type} {ts : List BTok} {i : Nat} {ks : List Nat} {k : Nat → PRes α} {r : PRes α} (h : isK ts i ks = false) (hr : takeP ts i ks k = r) : formP ts i = r := by
  unfold takeP at hr
  rwa [h, if_neg (by simp)] at hr
theorem nameAt_false (ts : List BTok) (i : Nat) : nameAt ts i false = true ↔ (isK ts i [18] = true ∧ nameB (tkAt ts i).text = true ∧ keyB (tkAt ts i).text = false) := by
  unfold nameAt
  cases isK ts i [18] <;> cases nameB (tkAt ts i).text <;> cases keyB (tkAt ts i).text <;> simp
theorem nameAt_true (ts : List BTok) (i : Nat) : nameAt ts i true = true ↔ (isK ts i [18] = true ∧ nameB (tkAt ts i).text = true) := by
  unfold nameAt
  cases isK ts i [18] <;> cases nameB (tkAt ts i).text <;> cases keyB (tkAt ts i).text <;> simp
theorem go_none {α β : Type} {k : α → Nat → PRes β} {r : Except (Nat × Nat) (β × Nat)} (h : PRes.go (none : PRes α) k = some r) : False := by simp [PRes.go] at h

set_option maxHeartbeats 16000000 in
set_option maxRecDepth 100000 in
theorem pFunction_walk {b g cap : Nat} {ts : List BTok} {sent : Nat → Addr} (T : PTs cap ts) (f : Nat) (ih : DoesM b g cap ts sent 211 (pBlock ts f)) : DoesK b g cap ts sent 218 (pFunction ts (f + 1)) := by
  intro w i d r hd hi hk0 hS hE hr
  have hbl := hS.blt
  have F := T.fix
  have HR := Lib.hid hr.out
  rw [pFunction] at HR
  have IH := Lib.hid ih
  clear hr ih
  have hj := (skP_le (ts := ts) hi).2
  obtain ⟨j, hjj⟩ : ∃ j, skP ts i = j := ⟨_, rfl⟩
  rw [hjj] at HR hj
  go_enter Tryz.func218, Tryz.ntmps218
  go_wp2_with fail
  refine (pSkip_any F hS hi).mono ?_
  rintro e w1 ⟨rfl, hS1, hK1⟩
  rw [hjj] at hS1
  have hE1 := hE.kept hK1
  have hsz1 := hK1.size
  clear hS hE
  go_wp2_with fail
  refine (pName_any F hS1 hj sent hE1 false).mono ?_
  rintro e w2 ⟨hK2, hc⟩
  have hK3 := hK1.same hK2
  have hsz3 := hK3.size
  rcases hc with ⟨hn, rfl, hS2⟩ | ⟨hn, s, u, rfl, ⟨eb, rfl, q2, q3⟩, hS2⟩
  · rw [nameAt_false] at hn
    rw [if_pos hn] at HR
    have hE2 := hE1.kept hK2
    have hj2 := (skP_le (ts := ts) hj).2
    obtain ⟨k, hkk⟩ : ∃ k, skP ts j = k := ⟨_, rfl⟩
    rw [hkk] at HR hj2 hS2
    clear hS1 hE1 hK1 hK2 hn
    cases hq : pBlock ts f d k with
    | none =>
      rw [hq] at HR
      exact (go_none HR.out).elim
    | some rc =>
      rw [hq] at HR
      have HD := Lib.hid (IH.out w2 k d rc hd hj2 hS2 hE2 (Lib.hid hq))
      clear hS2 hE2
      go_wp2_with fail
      refine HD.out.mono ?_
      cases rc with
      | error e0 =>
        obtain ⟨c0, p0⟩ := e0
        have HX := Lib.hid (some_err HR.out)
        clear HR hq HD
        rintro e w5 ⟨hK6, v, u, j', l0, rfl, h0, hl0, ⟨eb, rfl, q2, q3⟩, hS5⟩
        have hsz6 := hK6.size
        obtain ⟨va, vc, rfl⟩ := h0.form
        have HN := Lib.hid (cNewS_any 31 0 (tkAt ts j).text [l0] b _ _ (by simp; omega) (KSl.new1 (w := w5) (by omega) h0) (by simp; omega) (by simp))
        go_wp2_with fail
        refine HN.out.mono ?_
        rintro e w6 ⟨v6, rfl, hN6, hb6⟩
        have hb7 := bNext ((Below.refl _ w5).alloc (Nat.le_refl _) _) hb6
        have hP := Lib.hid (PErr.kept (w := w) (w' := w5) (w'' := w6) (b := b) ⟨eb, rfl, q2, by omega⟩ hbl (Kept.ofBelow hb7))
        obtain ⟨g4, c4, rfl, -⟩ := id hN6
        go_wp2_with fail
        go_ret2
        exact POut.bad HX.out rfl (.inl hN6) (by rw [(len_one _ _ _ _).1]; omega) hP.out (hS5.below hb7) ((hK3.same hK6).andBelow hb7)
      | ok q =>
        obtain ⟨l, k2⟩ := q
        obtain ⟨z2, z3⟩ := block_facts T hj2 hq
        have HX := Lib.hid (some_ok HR.out)
        clear HR hq HD
        rintro e w5 ⟨hK6, v, rfl, hN, hS5⟩
        have hsz6 := hK6.size
        obtain ⟨va, vc, rfl, -⟩ := id hN
        have HN := Lib.hid (cNewS_any 31 0 (tkAt ts j).text [l] b _ _ (by simp; omega) (KSl.new1 (w := w5) (by omega) (.inl hN)) (by simp; omega) (by simp))
        go_wp2_with fail
        refine HN.out.mono ?_
        rintro e w6 ⟨v6, rfl, hN6, hb6⟩
        have hb7 := bNext ((Below.refl _ w5).alloc (Nat.le_refl _) _) hb6
        obtain ⟨g4, c4, rfl, -⟩ := id hN6
        go_wp2_with fail
        go_ret2
        exact POut.ok HX.out rfl hN6 (hS5.below hb7) ((hK3.same hK6).andBelow hb7)
  · rw [if_neg (fun h => by rw [← nameAt_false] at h; rw [h] at hn; cases hn)] at HR
    have HX := Lib.hid (form_code HR.out)
    clear HR
    go_wp2_with fail
    go_ret2
    exact POut.bad HX.out rfl (.none _ _) (Nat.zero_le _) ⟨eb, rfl, q2, by omega⟩ hS2 hK3

theorem catP_len (L : List Prog) (h : ∀ l ∈ L, 0 < l.length) : (catP L).length ≤ L.flatten.length + 1 := by
  unfold catP
  split
  · simp
  · rw [len_newP]
    exact Nat.le_refl _

set_option maxHeartbeats 16000000 in
set_option maxRecDepth 100000 in
theorem pEach_walk {b g cap : Nat} {ts : List BTok} {sent : Nat → Addr} (T : PTs cap ts) (f : Nat) (ihW : DoesWs b g cap ts sent f) (ihb : DoesL b g cap ts sent 244 (pBody ts f)) : DoesK b g cap ts sent 216 (pEach ts (f + 1)) := by
  intro w i d r hd hi hk0 hS hE hr
  have hbl := hS.blt
  have F := T.fix
  have HR := Lib.hid hr.out
  rw [pEach] at HR
  have IHW := Lib.hid ihW
  have IHB := Lib.hid ihb
  clear hr ihW ihb
  have hi0 := (skP_le (ts := ts) hi).2
  obtain ⟨i0, hi00⟩ : ∃ i0, skP ts i = i0 := ⟨_, rfl⟩
  rw [hi00] at HR hi0
  go_enter Tryz.func216, Tryz.ntmps216
  go_wp2_with fail
  refine (pSkip_any F hS hi).mono ?_
  rintro e w0 ⟨rfl, hS0, hK0⟩
  rw [hi00] at hS0
  have hE0 := hE.kept hK0
  have hsz0 := hK0.size
  clear hS hE hi hi00
  by_cases x0 : isK ts i0 [6] = true
  · have HR1 := Lib.hid (takeP_yes x0 HR.out)
    have ha := (skP_le (ts := ts) hi0).2
    obtain ⟨a, haa⟩ : ∃ a, skP ts i0 = a := ⟨_, rfl⟩
    rw [haa] at HR1 ha
    clear HR
    go_wp2_with fail
    refine (pTake_yes F (hS0.alloc _) hi0 [6] _ _ (by decide) (show Blk _ _ [Value.int .i64 6] from Blk.new _ _ _) x0).mono ?_
    rintro e w1 ⟨rfl, hS1, hK7⟩
    have hKx := ((Kept.refl (At b) w0).alloc (.cells #[Value.int .i64 6] 3)).same hK7
    clear hK7
    rw [haa] at hS1
    have hE1 := hE0.kept hKx
    have hK1 := hK0.same hKx
    have hsz1 := hK1.size
    clear hS0 hE0 hKx x0 hK0
    go_wp2_with fail
    refine (pName_any F hS1 ha sent hE1 true).mono ?_
    rintro e w2 ⟨hK2, hc⟩
    have hK3 := hK1.same hK2
    have hsz3 := hK3.size
    rcases hc with ⟨hn, rfl, hS2⟩ | ⟨hn, s, u, rfl, ⟨eb, rfl, q2, q3⟩, hS2⟩
    · rw [nameAt_true] at hn
      rw [if_pos hn] at HR1
      have hE2 := hE1.kept hK2
      have hc := (skP_le (ts := ts) ha).2
      obtain ⟨c, hcc⟩ : ∃ c, skP ts a = c := ⟨_, rfl⟩
      rw [hcc] at HR1 hS2 hc
      clear hS1 hE1 hK1 hK2 hn
      obtain ⟨nm, hnm⟩ : ∃ nm, (tkAt ts a).text = nm := ⟨_, rfl⟩
      rw [hnm] at HR1 ⊢
      go_wp2_with fail
      refine (pKey_any F hS2 hc [105, 110]).mono ?_
      rintro e w3 ⟨rfl, hb3⟩
      have hS3 := hS2.below hb3
      have hE3 := hE2.below hb3
      have hK4 := hK3.andBelow hb3
      have hsz4 := hK4.size
      clear hS2 hE2 hK3 hb3
      by_cases x1 : keyAt ts c [105, 110] = true
      · rw [if_pos x1] at HR1
        rw [x1]
        have hd2 := (skP_le (ts := ts) hc).2
        obtain ⟨c2, hcc2⟩ : ∃ c2, skP ts c = c2 := ⟨_, rfl⟩
        rw [hcc2] at HR1 hd2
        clear x1
        go_wp2_with fail
        refine (pSkip_any F hS3 hc).mono ?_
        rintro e w4 ⟨rfl, hS4, hK5⟩
        rw [hcc2] at hS4
        have hE4 := hE3.kept hK5
        have hK6 := hK4.same hK5
        have hsz6 := hK6.size
        clear hS3 hE3 hK4 hK5
        cases hq : pWords ts f d c2 0 [] with
        | none =>
          rw [hq] at HR1
          exact (go_none HR1.out).elim
        | some rc =>
          rw [hq] at HR1
          have HD := Lib.hid (IHW.out w4 c2 d 0 rc hd (by omega) hd2 hS4 hE4 (Lib.hid hq))
          clear hS4
          go_wp2_with fail
          refine HD.out.mono ?_
          cases rc with
          | error e0 =>
            obtain ⟨c0, p0⟩ := e0
            have HX := Lib.hid (some_err HR1.out)
            clear HR1 hq HD
            rintro e w5 ⟨hK7, u, j', rfl, ⟨eb, rfl, q2, q3⟩, hS5⟩
            go_wp2_with fail
            go_ret2
            exact POut.bad HX.out rfl (.none _ _) (Nat.zero_le _) ⟨eb, rfl, q2, by omega⟩ hS5 (hK6.same hK7)
          | ok q =>
            obtain ⟨L, k⟩ := q
            obtain ⟨y1, y2, y3, y4⟩ := words_facts T (by omega) hd2 hq
            have HR2 := Lib.hid (show (takeP ts k [7] fun b => (pBody ts f d b).go fun l e => pOk (newP 29 0 nm [catP L, l]) e) = some r from HR1.out)
            clear HR1 hq HD
            rintro e w5 ⟨hK7, v, rfl, hO, hS5⟩
            have hK8 := hK6.same hK7
            have hE5 := hE4.kept hK7
            have hsz8 := hK8.size
            clear hK6 hK7 hE4
            by_cases x2 : isK ts k [7] = true
            · have HR3 := Lib.hid (takeP_yes x2 HR2.out)
              clear HR2
              have hk2 := (skP_le (ts := ts) y1).2
              obtain ⟨k2, hkk⟩ : ∃ k2, skP ts k = k2 := ⟨_, rfl⟩
              rw [hkk] at HR3 hk2
              have hO0 := hO
              obtain ⟨ao, ac, rfl, -⟩ := hO
              have x0 := x2
              go_wp2_with fail
              refine (pTake_yes F (hS5.alloc _) y1 [7] _ _ (by decide) (show Blk _ _ [Value.int .i64 7] from Blk.new _ _ _) x0).mono ?_
              rintro e w6 ⟨rfl, hS6, hK7⟩
              have hK9 := ((Kept.refl (At b) w5).alloc (.cells #[Value.int .i64 7] 3)).same hK7
              clear hK7
              rw [hkk] at hS6
              have hO6 := hO0.kept hK9
              have hE6 := hE5.kept hK9
              have hKa := hK8.same hK9
              have hsza := hKa.size
              clear hS5 hE5 hK8 hK9 x0 x2 hO0
              cases hq : pBody ts f d k2 with
              | none =>
                rw [hq] at HR3
                exact (go_none HR3.out).elim
              | some rb =>
                rw [hq] at HR3
                have HD := Lib.hid (IHB.out w6 k2 d rb hd hk2 hS6 hE6 (Lib.hid hq))
                clear hS6 hE6
                go_wp2_with fail
                refine HD.out.mono ?_
                have hcl := catP_len L y4
                cases rb with
                | error e0 =>
                  obtain ⟨c0, p0⟩ := e0
                  have HX := Lib.hid (some_err HR3.out)
                  clear HR3 hq HD
                  rintro e w7 ⟨hKb, v, u, j', l0, rfl, h0, hl0, ⟨eb, rfl, q2, q3⟩, hS7⟩
                  have hKc := hKa.same hKb
                  have hszc := hKb.size
                  have hO7 := hO6.kept hKb
                  obtain ⟨va, vc, rfl⟩ := h0.form
                  have hszd := hKc.size
                  have HCT := Lib.hid (pCat_any L b _ w7 (by omega) y4 (by omega) (by omega) hO7)
                  go_wp2_with fail
                  refine HCT.out.mono ?_
                  rintro e w8 ⟨v8, rfl, hN8, hb8⟩
                  have h1 := h0.below hb8
                  have hsze := hb8.size
                  obtain ⟨g8, c8, rfl, -⟩ := id hN8
                  have HN := Lib.hid (cNewS_any 29 0 nm [catP L, l0] b _ _ (by simp; omega) (KSl.new2 (w := w8) (by omega) (.inl hN8) h1) (by simp; omega) (by simp))
                  go_wp2_with fail
                  refine HN.out.mono ?_
                  rintro e w9 ⟨v9, rfl, hN9, hb9⟩
                  have hbb := hb8.trans ((bNextW hb9).mono hsze)
                  obtain ⟨g9, c9, rfl, -⟩ := id hN9
                  have hP := Lib.hid (PErr.kept (w := w) (w' := w7) (w'' := w9) (b := b) ⟨eb, rfl, q2, by omega⟩ hbl (Kept.ofBelow hbb))
                  go_wp2_with fail
                  go_ret2
                  exact POut.bad HX.out rfl (.inl hN9) (by rw [(len_two _ _ _ _ _).1]; omega) hP.out (hS7.below hbb) (hKc.andBelow hbb)
                | ok q =>
                  obtain ⟨l0, k3⟩ := q
                  obtain ⟨u1, u2, u3⟩ := body_facts T hk2 hq
                  have HX := Lib.hid (some_ok HR3.out)
                  clear HR3 hq HD
                  rintro e w7 ⟨hKb, v, rfl, hN7, hS7⟩
                  have hKc := hKa.same hKb
                  have hszc := hKb.size
                  have hO7 := hO6.kept hKb
                  have h0 : NSl0 w7 b v l0 := .inl hN7
                  obtain ⟨va, vc, rfl, -⟩ := id hN7
                  have hszd := hKc.size
                  have HCT := Lib.hid (pCat_any L b _ w7 (by omega) y4 (by omega) (by omega) hO7)
                  go_wp2_with fail
                  refine HCT.out.mono ?_
                  rintro e w8 ⟨v8, rfl, hN8, hb8⟩
                  have h1 := h0.below hb8
                  have hsze := hb8.size
                  obtain ⟨g8, c8, rfl, -⟩ := id hN8
                  have HN := Lib.hid (cNewS_any 29 0 nm [catP L, l0] b _ _ (by simp; omega) (KSl.new2 (w := w8) (by omega) (.inl hN8) h1) (by simp; omega) (by simp))
                  go_wp2_with fail
                  refine HN.out.mono ?_
                  rintro e w9 ⟨v9, rfl, hN9, hb9⟩
                  have hbb := hb8.trans ((bNextW hb9).mono hsze)
                  obtain ⟨g9, c9, rfl, -⟩ := id hN9
                  go_wp2_with fail
                  go_ret2
                  exact POut.ok HX.out rfl hN9 (hS7.below hbb) (hKc.andBelow hbb)
            · have x0 : isK ts k [7] = false := by simpa using x2
              have HX2 := Lib.hid (form_code (takeP_no x0 HR2.out))
              clear HR2
              obtain ⟨ao, ac, rfl, -⟩ := hO
              go_wp2_with fail
              refine (pTake_no F (hS5.alloc _) y1 [7] _ _ (by decide) (show Blk _ _ [Value.int .i64 7] from Blk.new _ _ _) x0 sent (hE5.env.below ((Below.refl _ _).alloc (Nat.le_refl _) _))).mono ?_
              rintro e w7 ⟨eb, rfl, hE7, hl7, hb7⟩
              have hb8 := bNext ((Below.refl _ w5).alloc (Nat.le_refl _) (.cells #[Value.int .i64 7] 3)) hb7
              go_wp2_with fail
              go_ret2
              exact POut.bad HX2.out rfl (.none _ _) (Nat.zero_le _) ⟨eb, rfl, hE7, by have := hl7; simp at this; omega⟩ (hS5.below hb8) (hK8.andBelow hb8)
      · have x1 : keyAt ts c [105, 110] = false := by simpa using x1
        rw [x1, if_neg (by simp)] at HR1
        rw [x1]
        have HX := Lib.hid (form_code HR1.out)
        clear HR1
        go_wp2_with fail
        refine (pForm_any F hS3 hc sent hE3.env).mono ?_
        rintro e w6 ⟨eb, rfl, hE7, hl7, hb7⟩
        go_wp2_with fail
        go_ret2
        exact POut.bad HX.out rfl (.none _ _) (Nat.zero_le _) ⟨eb, rfl, hE7, by omega⟩ (hS3.below hb7) (hK4.andBelow hb7)
    · rw [if_neg (fun h => by rw [← nameAt_true] at h; rw [h] at hn; cases hn)] at HR1
      have HX := Lib.hid (form_code HR1.out)
      clear HR1
      go_wp2_with fail
      go_ret2
      exact POut.bad HX.out rfl (.none _ _) (Nat.zero_le _) ⟨eb, rfl, q2, by omega⟩ hS2 hK3
  · have x0 : isK ts i0 [6] = false := by simpa using x0
    have HX2 := Lib.hid (form_code (takeP_no x0 HR.out))
    clear HR
    go_wp2_with fail
    refine (pTake_no F (hS0.alloc _) hi0 [6] _ _ (by decide) (show Blk _ _ [Value.int .i64 6] from Blk.new _ _ _) x0 sent (hE0.env.below ((Below.refl _ _).alloc (Nat.le_refl _) _))).mono ?_
    rintro e w7 ⟨eb, rfl, hE7, hl7, hb7⟩
    have hb8 := bNext ((Below.refl _ w0).alloc (Nat.le_refl _) (.cells #[Value.int .i64 6] 3)) hb7
    go_wp2_with fail
    go_ret2
    exact POut.bad HX2.out rfl (.none _ _) (Nat.zero_le _) ⟨eb, rfl, hE7, by have := hl7; simp at this; omega⟩ (hS0.below hb8) (hK0.andBelow hb8)

end Go.Proofs.YtepebnblbheegaaGreatDoor
