/- BparseLists: quoted words in brackets, and in one word; read by the plain parser. No program stands in it. -/
import Derived.Test.YtepebnblbheegaaGreatDoorParseTG
namespace Go.Proofs.YtepebnblbheegaaGreatDoor
open Go Go.RowKit

theorem deadB_rest : ∀ (s : List UInt8) (rest : List UInt8), (∀ c m, rest = c :: m → c.toNat ≠ 39) → deadB (dblB s ++ 39 :: rest) = some (s, (dblB s).length + 1)
  | [], rest, h => by
    cases rest with
    | nil => rfl
    | cons c m =>
      show deadB (39 :: c :: m) = _
      simp only [deadB]
      rw [if_pos (by decide), if_neg (h c m rfl)]
      rfl
  | a :: s, rest, h => by
    have ih := deadB_rest s rest h
    obtain ⟨x, y, hxy⟩ : ∃ x y, dblB s ++ 39 :: rest = x :: y := by
      cases dblB s with
      | nil => exact ⟨_, _, rfl⟩
      | cons x y => exact ⟨_, _, rfl⟩
    by_cases ha : a.toNat = 39
    · rw [dblB, if_pos ha]
      show deadB (39 :: 39 :: (dblB s ++ 39 :: rest)) = _
      simp only [deadB]
      rw [if_pos (by decide), if_pos (by decide), ih]
      obtain rfl : a = 39 := UInt8.toNat_inj.1 ha
      simp
    · rw [dblB, if_neg ha]
      show deadB (a :: (dblB s ++ 39 :: rest)) = _
      rw [hxy]
      simp only [deadB]
      rw [if_neg ha, ← hxy, ih]
      simp

theorem LexTo.blankG {c : UInt8} {m : List UInt8} {first : Bool} {p n : Nat} {t : BTok} {us : List BTok} (hc : skipN false (c :: m) = 0) (h : tokenB (c :: m) (p + 1) = .ok (t, n)) (hk : t.kind ≠ 0) (hn : 1 ≤ n) (hl : n ≤ m.length + 1)
    (hr : LexTo false ((c :: m).drop n) (p + 1 + n) us) : LexTo first (32 :: c :: m) p ({ t with glue := false } :: us) := by
  have h1 := LexTo.cons (first := first) (l := 32 :: c :: m) (p := p) (s := 1) (by rw [skipN, if_pos (.inl (by decide)), hc]) (by simpa using h) hk hn (by simp only [List.length_cons]; omega) (by rw [Nat.add_comm 1 n, List.drop_succ_cons]; exact hr)
  simpa using h1
theorem LexTo.atG {c : UInt8} {m : List UInt8} {p n : Nat} {t : BTok} {us : List BTok} (hc : skipN false (c :: m) = 0) (h : tokenB (c :: m) p = .ok (t, n)) (hk : t.kind ≠ 0) (hn : 1 ≤ n) (hl : n ≤ m.length + 1)
    (hr : LexTo false ((c :: m).drop n) (p + n) us) : LexTo false (c :: m) p ({ t with glue := true } :: us) := by
  have h1 := LexTo.cons (first := false) (l := c :: m) (p := p) (s := 0) hc (by simpa using h) hk hn (by simp only [List.length_cons]; omega) (by simpa using hr)
  simpa using h1

def quoteS (s : List UInt8) : List UInt8 := 39 :: (dblB s ++ [39])
theorem tok_dead (s rest : List UInt8) (p : Nat) (h : ∀ c m, rest = c :: m → c.toNat ≠ 39) : tokenB (39 :: (dblB s ++ 39 :: rest)) p = .ok (⟨19, p, 0, s, false⟩, (dblB s).length + 2) := by
  rw [tokenB_quote, deadB_rest s rest h]
theorem drop_dead (s rest : List UInt8) : (39 :: (dblB s ++ 39 :: rest)).drop ((dblB s).length + 2) = rest := by
  rw [List.drop_succ_cons, ← List.drop_drop, List.drop_left]
  rfl

/-! Words in brackets. -/
def listSrc (l : List (List UInt8)) : List UInt8 := (l.map fun s => 32 :: quoteS s).flatten
def DeadT : List (List UInt8) → List BTok → List BTok → Prop
  | [], ts, tail => ts = tail
  | s :: r, ts, tail => ∃ a more, ts = a :: more ∧ a.kind = 19 ∧ a.text = s ∧ a.glue = false ∧ DeadT r more tail
def PClose (us : List BTok) : Prop := ∃ a b, us = [a, b] ∧ a.kind = 7 ∧ b.kind = 0
theorem tok_close (p : Nat) (m : List UInt8) : tokenB (41 :: m) p = .ok (⟨7, p, 0, [], false⟩, 1) := by simp [tokenB, bestOp, opsB, Lib.hasPrefix, List.isPrefixOf]
theorem tok_open (p : Nat) (m : List UInt8) : tokenB (40 :: m) p = .ok (⟨6, p, 0, [], false⟩, 1) := by simp [tokenB, bestOp, opsB, Lib.hasPrefix, List.isPrefixOf]
theorem tok_is (p : Nat) (m : List UInt8) : tokenB (61 :: m) p = .ok (⟨16, p, 0, [], false⟩, 1) := by simp [tokenB, bestOp, opsB, Lib.hasPrefix, List.isPrefixOf]
theorem tok_caret (p : Nat) (m : List UInt8) : tokenB (94 :: m) p = .ok (⟨15, p, 0, [], false⟩, 1) := by simp [tokenB, bestOp, opsB, Lib.hasPrefix, List.isPrefixOf]
theorem tok_x (p : Nat) (m : List UInt8) : tokenB (120 :: 61 :: m) p = .ok (⟨18, p, 0, [120], false⟩, 1) := by
  simp [tokenB, bestOp, opsB, Lib.hasPrefix, List.isPrefixOf, show endsB 61 = true by decide, show endsB 120 = false by decide]
theorem tok_var (p : Nat) (m : List UInt8) : tokenB (36 :: 120 :: 39 :: m) p = .ok (⟨20, p, 0, [120], false⟩, 2) := by
  have hr : runName (120 :: 39 :: m) = [120] := by rfl
  have hb : bestOp (36 :: 120 :: 39 :: m) opsB 0 [] 0 = ([], 0) := by simp [bestOp, opsB, Lib.hasPrefix, List.isPrefixOf]
  have hs : starName (120 :: 39 :: m) = [120] := by
    unfold starName
    rw [if_neg (by simp [Lib.hasPrefix, List.isPrefixOf]), hr]
  have hd : dollarB (120 :: 39 :: m) = some (20, 0, [120], 1) := by
    unfold dollarB
    rw [show (120 :: 39 :: m : List UInt8).headD 0 = 120 from rfl, if_neg (by decide), show dPre (120 : UInt8).toNat = 0 from rfl, List.drop_zero, hs, if_pos (.inr (by decide))]
    rfl
  simp [tokenB, hb, hd]

theorem lex_close (p : Nat) : ∃ us, LexTo false [32, 41] p us ∧ PClose us := by
  have h1 := LexTo.blankG (first := false) (c := 41) (m := []) (p := p) (by rfl) (tok_close (p + 1) []) (by simp) (by omega) (by simp) (LexTo.nil (p := p + 1 + 1))
  exact ⟨_, h1, _, _, rfl, rfl, rfl⟩
theorem lex_list : ∀ (l : List (List UInt8)) (p : Nat), ∃ ts tl, LexTo false (listSrc l ++ [32, 41]) p ts ∧ DeadT l ts tl ∧ PClose tl
  | [], p => by
    obtain ⟨us, h1, h2⟩ := lex_close p
    exact ⟨us, us, h1, rfl, h2⟩
  | s :: l, p => by
    obtain ⟨ts, tl, h1, h2, h3⟩ := lex_list l (p + 1 + ((dblB s).length + 2))
    have hs : listSrc (s :: l) ++ [32, 41] = 32 :: 39 :: (dblB s ++ 39 :: (listSrc l ++ [32, 41])) := by
      unfold listSrc quoteS
      simp
    have hne : ∀ c m, listSrc l ++ [32, 41] = c :: m → c.toNat ≠ 39 := fun c m e => by
      cases l with
      | nil =>
        obtain ⟨rfl, _⟩ := List.cons.inj e
        decide
      | cons a l =>
        obtain ⟨rfl, _⟩ := List.cons.inj e
        decide
    rw [hs]
    have h4 := LexTo.blankG (first := false) (c := 39) (p := p) (by rfl) (tok_dead s _ (p + 1) hne) (by simp) (by omega) (by simp) (by rw [drop_dead]; exact h1)
    exact ⟨_, tl, h4, ⟨_, ts, rfl, rfl, rfl, rfl, h2⟩, h3⟩
theorem lex_words (l : List (List UInt8)) : ∃ a b c more tl, LexTo true (120 :: 61 :: 40 :: (listSrc l ++ [32, 41])) 0 (a :: b :: c :: more) ∧ a.kind = 18 ∧ a.text = [120] ∧ b.kind = 16 ∧ c.kind = 6 ∧ DeadT l more tl ∧ PClose tl := by
  obtain ⟨ts, tl, h1, h2, h3⟩ := lex_list l (0 + 1 + 1 + 1)
  obtain ⟨g1, k1⟩ := LexTo.at (first := false) (c := 40) (p := 0 + 1 + 1) (by rfl) (tok_open _ (listSrc l ++ [32, 41])) (by simp) (by omega) (by simp) h1
  obtain ⟨g2, k2⟩ := LexTo.at (first := false) (c := 61) (p := 0 + 1) (by rfl) (tok_is _ (40 :: (listSrc l ++ [32, 41]))) (by simp) (by omega) (by simp) k1
  obtain ⟨g3, k3⟩ := LexTo.at (first := true) (c := 120) (p := 0) (by rfl) (tok_x _ (40 :: (listSrc l ++ [32, 41]))) (by simp) (by omega) (by simp) k2
  exact ⟨_, _, _, ts, tl, k3, rfl, rfl, rfl, rfl, h2, h3⟩

/-- A quoted word, and no more. -/
theorem word_dead {ts : List BTok} {i d : Nat} {a b : BTok} {r : List BTok} (h : ts.drop i = a :: b :: r) (ha : a.kind = 19) (hx : a.text.length ≤ 2000) (hb : b.kind ≠ 15 ∧ (b.kind = 19 → b.glue = false) ∧ (b.kind = 19 ∨ b.kind = 7)) (f : Nat) :
    pWord ts (f + 3) d i 0 = pOk (litP a.text) (i + 1) := by
  obtain ⟨h1, h2, h3⟩ := tk_at h
  have hs := sk_at h
  have hi : itemP ts i = true := by unfold itemP; rw [isK_at h, ha]; rfl
  have hj : itemP ts (i + 1) = false ∨ (tkAt ts (i + 1)).glue = false := by
    rcases hb.2.2 with h19 | h7
    · exact .inr (by rw [(tk_at h3).1]; exact hb.2.1 h19)
    · refine .inl ?_
      unfold itemP
      rw [isK_at h3, h7]
      rfl
  have hc : isK ts (i + 1) [15] = false := by
    rw [isK_at h3]
    simp
    exact hb.1
  have h0 : pOne ts (f + 1) d i = pOk (litP a.text) (i + 1) := by
    rw [pOne, h1, hs, ha]
    rfl
  have hR : pWordR ts (f + 2) d i 0 [] = pOk [litP a.text] (i + 1) := by
    rw [pWordR, hi, if_neg (by simp), h0]
    simp only [pOk, PRes.go, hc, List.nil_append]
    rw [if_neg (by simp), if_pos hj]
    rfl
  rw [pWord, hR]
  simp only [pOk, PRes.go]
  rw [show wordOut (tkAt ts i) 0 [litP a.text] = litP a.text by
    unfold wordOut
    rw [if_neg (by rw [h1, ha]; simp)]
    rfl]
  rw [if_neg (by simp [tooLong, litP, newP]; omega)]

/-- Quoted words, up to a bracket. -/
theorem words_read {ts tl : List BTok} (d : Nat) (ht : PClose tl) : ∀ (l : List (List UInt8)) (i : Nat) (L : List Prog) (f : Nat), DeadT l (ts.drop i) tl → (∀ s ∈ l, s.length ≤ 100) → l.length + 4 ≤ f →
    pWords ts f d i 0 L = pOk (L ++ l.map litP) (i + l.length) ∧ ts.drop (i + l.length) = tl
  | [], i, L, f, h, _, hf => by
    obtain ⟨f, rfl⟩ : ∃ g, f = g + 1 := ⟨f - 1, by omega⟩
    obtain ⟨a, b, rfl, ha, _⟩ := ht
    have hd : ts.drop i = [a, b] := h
    rw [pWords, show itemP ts i = false by unfold itemP; rw [isK_at hd, ha]; rfl, if_neg (by simp)]
    simp only [List.map_nil, List.append_nil, List.length_nil, Nat.add_zero]
    exact ⟨trivial, hd⟩
  | s :: l, i, L, f, ⟨a, more, h1, h2, h3, h4, h5⟩, hl, hf => by
    obtain ⟨f, rfl⟩ : ∃ g, f = g + 4 := ⟨f - 4, by simp only [List.length_cons] at hf; omega⟩
    obtain ⟨b, r, hm, hb⟩ : ∃ b r, more = b :: r ∧ (b.kind ≠ 15 ∧ (b.kind = 19 → b.glue = false) ∧ (b.kind = 19 ∨ b.kind = 7)) := by
      cases l with
      | nil =>
        obtain ⟨a', b', rfl, k1, _⟩ := ht
        cases h5
        exact ⟨a', [b'], rfl, by omega, fun e => by omega, .inr k1⟩
      | cons s' l =>
        obtain ⟨a', m', e1, e2, e3, e4, e5⟩ := h5
        exact ⟨a', m', e1, by omega, fun _ => e4, .inl e2⟩
    subst hm
    have hs := hl s (by simp)
    have hw := word_dead (d := d) h1 h2 (by rw [h3]; omega) hb f
    have ih := words_read d ht l (i + 1) (L ++ [litP s]) (f + 3) (by rw [(tk_at h1).2.2]; exact h5) (fun x hx => hl x (by simp [hx])) (by simp only [List.length_cons] at hf; omega)
    rw [pWords, show itemP ts i = true by unfold itemP; rw [isK_at h1, h2]; rfl, if_pos rfl, hw, h3]
    simp only [pOk, PRes.go]
    rw [ih.1]
    have hi : i + 1 + l.length = i + (s :: l).length := by simp only [List.length_cons]; omega
    rw [hi] at ih ⊢
    refine ⟨?_, ih.2⟩
    rw [List.append_assoc]
    rfl

end Go.Proofs.YtepebnblbheegaaGreatDoor

/- BparseLists: the plain law. No program stands in it. -/
namespace Go.Proofs.YtepebnblbheegaaGreatDoor
open Go Go.RowKit

theorem lits_len (l : List (List UInt8)) : (l.map litP).flatten.length = l.length := by
  induction l with
  | nil => rfl
  | cons s l ih => rw [List.map_cons, List.flatten_cons, List.length_append, ih]; simp [litP, newP]; omega
theorem lit_wfp {s : List UInt8} (h : s.length ≤ 2000) : WFP okB 2000 true 1 (litP s) := .node _ _ _ _ _ _ (by rfl) (by simp [fieldsM]; exact h) (by rfl) fun j kid hj => by simp at hj
theorem var_wfp : WFP okB 2000 true 1 (newP 2 0 [120] []) := .node _ _ _ _ _ _ (by rfl) (by rfl) (by rfl) fun j kid hj => by simp at hj
theorem wfp_get {D : Nat} {l : List Prog} (h : ∀ x ∈ l, WFP okB 2000 true D x) (j : Nat) (kid : Prog) (hj : l[j]? = some kid) : WFP okB 2000 true D kid := h kid (List.mem_of_getElem? hj)

/-- A setting of a word, up to the end. -/
theorem parse_set {L : List UInt8} {ts : List BTok} {a b : BTok} {more : List BTok} {w : Prog} {e D : Nat} (hx : LexTo true L 0 ts) (hd : ts.drop 0 = a :: b :: more) (ha : a.kind = 18) (hat : a.text = [120]) (hb : b.kind = 16) (hm : more ≠ [])
    {f : Nat} (hf : 12 * ts.length + 11 = f + 11) (hw : pWord ts (f + 3) 1 (0 + 1 + 1) 0 = pOk w e) {z : BTok} (he : ts.drop e = [z]) (hz : z.kind = 0) (hD : WFP okB 2000 true D w) (hD2 : D ≤ 29) (hlen : w.length ≤ 2999) : parseB L = .ok (newP 22 0 [120] [w]) := by
  obtain ⟨x0, y0, d1⟩ := tk_at hd
  obtain ⟨x1, y1, d2⟩ := tk_at d1
  have s0 : skP ts 0 = 0 + 1 := sk_at hd
  have s1 : skP ts (0 + 1) = 0 + 1 + 1 := by
    cases more with
    | nil => exact absurd rfl hm
    | cons c m => exact sk_at d1
  have hk0 : ∀ ks, isK ts 0 ks = ks.contains 18 := fun ks => by rw [isK_at hd, ha]
  have hke : ∀ ks, isK ts e ks = ks.contains 0 := fun ks => by rw [isK_at he, hz]
  have hsets : pSets ts (f + 4) 1 0 [] = pOk [([120], w)] e := by
    rw [pSets, s0, x0, x1, hat, if_pos ⟨by rw [hk0]; rfl, hb, by decide, by decide⟩, s1, hw]
    simp only [pOk, PRes.go, List.nil_append]
    rw [pSets, hke, if_neg (by intro h; exact absurd h.1 (by decide))]
    rfl
  have hitems : pItems ts (f + 4) 1 e [] [] = pOk ([], []) e := by
    rw [pItems, show turningP ts e = false by unfold turningP; rw [hke]; rfl, show itemP ts e = false by unfold itemP; rw [hke]; rfl, if_neg (by simp), if_pos (.inl rfl)]
  have hsim : pSimple ts (f + 5) 1 0 = pOk (newP 22 0 [120] [w]) e := by
    rw [pSimple, hsets]
    simp only [pOk, PRes.go]
    rw [hitems]
    simp only [pOk]
    rw [if_neg (by simp)]
    rfl
  have hcm : pCommand ts (f + 6) 1 0 = pOk (newP 22 0 [120] [w]) e := by
    rw [pCommand, hk0, if_neg (by decide), hk0, x0, hat, if_pos (.inr (by decide))]
    exact hsim
  have hp : passT ts [1, 2] e = e := pass_no (by simp [hke])
  have hl := list_of (f := f + 6) hcm (by omega) (by simp [hk0]) (by
    unfold keyAt
    rw [x0, hat]
    simp) (by simp [hke]) (by rw [hp]; simp [hke])
  rw [hp] at hl
  have hch := check_ok (l := newP 22 0 [120] [w]) (D := D + 1) (.node _ _ _ _ _ _ (by rfl) (by rfl) (by rfl) (kids1 hD)) (by omega) (by rw [(len_one _ _ _ _).1]; omega)
  unfold parseB
  rw [lex_of hx]
  dsimp only
  rw [hf, hl]
  simp only [pOk]
  rw [hke, if_neg (by decide), hch]

/-- 'x=(', quoted words, ' )'. -/
theorem parse_list (l : List (List UInt8)) (hn : l.length ≤ 12) (hl : ∀ s ∈ l, s.length ≤ 100) : parseB (120 :: 61 :: 40 :: (listSrc l ++ [32, 41])) = .ok (newP 22 0 [120] [newP 3 0 [] (l.map litP)]) := by
  obtain ⟨a0, a1, a2, more, tl, h1, i0, i1, i2, i3, h4, h5⟩ := lex_words l
  have hpc := h5
  obtain ⟨b, z, rfl, hb, hz⟩ := h5
  obtain ⟨ts, hts⟩ : ∃ ts, a0 :: a1 :: a2 :: more = ts := ⟨_, rfl⟩
  rw [hts] at h1
  have d0 : ts.drop 0 = a0 :: a1 :: a2 :: more := hts.symm
  obtain ⟨x0, y0, d1⟩ := tk_at d0
  obtain ⟨x1, y1, d2⟩ := tk_at d1
  obtain ⟨x2, y2, d3⟩ := tk_at d2
  have hW := fun f => words_read (ts := ts) 2 hpc l (0 + 1 + 1 + 1) [] f (by rw [d3]; exact h4) hl
  have hd2 := (hW _ (Nat.le_refl _)).2
  obtain ⟨q, hq⟩ : ∃ q, 0 + 1 + 1 + 1 + l.length = q := ⟨_, rfl⟩
  rw [hq] at hd2
  have hlen := len_drop hd2
  obtain ⟨x4, y4, d5⟩ := tk_at hd2
  obtain ⟨f, hf⟩ : ∃ f, 12 * ts.length + 11 = f + 11 := ⟨12 * ts.length, by omega⟩
  have hkq : ∀ ks, isK ts q ks = ks.contains 7 := fun ks => by rw [isK_at hd2, hb]
  have hke : ∀ ks, isK ts (q + 1) ks = ks.contains 0 := fun ks => by rw [isK_at d5, hz]
  have hk2 : ∀ ks, isK ts (0 + 1 + 1) ks = ks.contains 6 := fun ks => by rw [isK_at d2, i3]
  have s2 : skP ts (0 + 1 + 1) = 0 + 1 + 1 + 1 := by
    unfold skP
    omega
  have sq : skP ts q = q + 1 := sk_at hd2
  have hws := (hW f (by omega)).1
  rw [hq, List.nil_append] at hws
  have h0 : pOne ts (f + 1) 1 (0 + 1 + 1) = pOk (newP 3 0 [] (l.map litP)) (q + 1) := by
    rw [pOne, x2, i3, s2]
    simp only [show ¬ ((6 : Nat) = 18 ∨ (6 : Nat) = 19) by decide, if_false]
    rw [if_neg (by decide), if_neg (by decide), if_neg (by decide), if_pos trivial, if_neg (by decide), hws]
    simp only [pOk, PRes.go]
    unfold takeP
    rw [hkq, if_pos (by decide), sq]
  have hR : pWordR ts (f + 2) 1 (0 + 1 + 1) 0 [] = pOk [newP 3 0 [] (l.map litP)] (q + 1) := by
    rw [pWordR, show itemP ts (0 + 1 + 1) = true by unfold itemP; rw [hk2]; rfl, if_neg (by simp), h0]
    simp only [pOk, PRes.go, List.nil_append]
    rw [hke, if_neg (by decide), if_pos (.inl (by unfold itemP; rw [hke]; rfl))]
    rfl
  have hjoin : joinP [newP 3 0 [] (l.map litP)] = newP 3 0 [] (l.map litP) := by
    unfold joinP
    simp [List.foldl, joinStep]
  have hw : pWord ts (f + 3) 1 (0 + 1 + 1) 0 = pOk (newP 3 0 [] (l.map litP)) (q + 1) := by
    rw [pWord, hR]
    simp only [pOk, PRes.go]
    rw [show wordOut (tkAt ts (0 + 1 + 1)) 0 [newP 3 0 [] (l.map litP)] = newP 3 0 [] (l.map litP) by
      unfold wordOut
      rw [if_neg (by rw [x2, i3]; simp), hjoin]]
    rw [if_neg]
    intro h
    unfold tooLong at h
    rw [List.any_eq_true] at h
    obtain ⟨x, hx, hx2⟩ := h
    simp only [Bool.and_eq_true, decide_eq_true_eq] at hx2
    rw [newP] at hx
    rcases List.mem_cons.1 hx with rfl | hx
    · exact absurd hx2.1 (by simp)
    · obtain ⟨kid, k1, k2⟩ := List.mem_flatten.1 hx
      obtain ⟨s, s1, rfl⟩ := List.mem_map.1 k1
      have := hl s s1
      unfold litP newP at k2
      simp only [List.flatten_nil, List.mem_singleton] at k2
      subst k2
      dsimp only at hx2
      omega
  exact parse_set h1 d0 i0 i1 i2 (by simp) hf hw d5 hz (D := 2) (.node _ _ _ _ _ _ (by rfl) (by rfl) (by simp [childrenB]) (fun j kid hj => wfp_get (D := 1) (fun x hx => by
    obtain ⟨s, s1, rfl⟩ := List.mem_map.1 hx
    exact lit_wfp (by have := hl s s1; omega)) j kid hj)) (by omega) (by rw [len_newP, lits_len]; omega)

/-! Quoted words in one word. -/
def gluedSrc (caret : Bool) : List (List UInt8) → List UInt8
  | [] => []
  | [s] => quoteS s
  | s :: t :: r => quoteS s ++ ((if caret then [32, 94, 32] else [36, 120]) ++ gluedSrc caret (t :: r))
def WT (caret : Bool) : List (List UInt8) → List BTok → List BTok → Prop
  | [], ts, tl => ts = tl
  | [s], ts, tl => ∃ a, ts = a :: tl ∧ a.kind = 19 ∧ a.text = s ∧ (caret = false → a.glue = true)
  | s :: t :: r, ts, tl => ∃ a b more, ts = a :: b :: more ∧ a.kind = 19 ∧ a.text = s ∧ (caret = false → a.glue = true) ∧ ((caret = true ∧ b.kind = 15) ∨ (caret = false ∧ b.kind = 20 ∧ b.text = [120] ∧ b.glue = true)) ∧ WT caret (t :: r) more tl
def itemsP (caret : Bool) : List (List UInt8) → List Prog
  | [] => []
  | [s] => [litP s]
  | s :: t :: r => litP s :: ((if caret then [] else [newP 2 0 [120] []]) ++ itemsP caret (t :: r))

theorem glued_head (caret : Bool) : ∀ (l : List (List UInt8)), l ≠ [] → ∃ m, gluedSrc caret l = 39 :: m
  | [], h => absurd rfl h
  | [_s], _ => ⟨_, rfl⟩
  | _s :: _t :: _r, _ => ⟨_, rfl⟩

/-- Glued on, or behind a blank. -/
theorem lex_glued (caret : Bool) : ∀ (l : List (List UInt8)) (p : Nat), l ≠ [] → ∃ ts tl, LexTo false (gluedSrc caret l) p ts ∧ WT caret l ts tl ∧ PEnd tl
  | [], p, h => absurd rfl h
  | [s], p, _ => by
    have h4 := LexTo.atG (c := 39) (m := dblB s ++ 39 :: []) (p := p) (by rfl) (tok_dead s [] p (fun c m e => by cases e)) (by simp) (by omega) (by simp) (by rw [drop_dead]; exact LexTo.nil)
    exact ⟨_, _, h4, ⟨_, rfl, rfl, rfl, fun _ => rfl⟩, _, rfl, rfl⟩
  | s :: t :: r, p, _ => by
    cases caret with
    | true =>
      obtain ⟨ts, tl, h1, h2, h3⟩ := lex_glued true (t :: r) (p + ((dblB s).length + 2) + 1 + 1 + 1) (by simp)
      obtain ⟨m, hm⟩ := glued_head true (t :: r) (by simp)
      have hne : ∃ a us, ts = a :: us := by
        cases r with
        | nil => obtain ⟨a, e, _⟩ := h2; exact ⟨a, tl, e⟩
        | cons u r => obtain ⟨a, b, more, e, _⟩ := h2; exact ⟨a, b :: more, e⟩
      obtain ⟨a, us, rfl⟩ := hne
      obtain ⟨g, k1⟩ := h1.blank1
      obtain ⟨g2, k2⟩ := LexTo.blank (first := false) (c := 94) (m := 32 :: gluedSrc true (t :: r)) (p := p + ((dblB s).length + 2)) (by rfl) (tok_caret _ _) (by simp) (by omega) (by simp) k1
      have hs : gluedSrc true (s :: t :: r) = 39 :: (dblB s ++ 39 :: (32 :: 94 :: 32 :: gluedSrc true (t :: r))) := by
        simp [gluedSrc, quoteS]
      rw [hs]
      have k3 := LexTo.atG (c := 39) (p := p) (by rfl) (tok_dead s (32 :: 94 :: 32 :: gluedSrc true (t :: r)) p (fun c m e => (by obtain ⟨rfl, _⟩ := List.cons.inj e; decide))) (by simp) (by omega) (by simp) (by rw [drop_dead]; exact k2)
      have h2' : WT true (t :: r) ({ a with glue := g } :: us) tl := by
        cases r with
        | nil =>
          obtain ⟨a', e, e1, e2, _⟩ := h2
          obtain ⟨rfl, rfl⟩ := List.cons.inj e
          exact ⟨_, rfl, e1, e2, fun h => by cases h⟩
        | cons u r =>
          obtain ⟨a', b, more, e, e1, e2, _, e3⟩ := h2
          obtain ⟨rfl, rfl⟩ := List.cons.inj e
          exact ⟨_, b, more, rfl, e1, e2, fun h => (by cases h), e3⟩
      exact ⟨_, tl, k3, ⟨_, _, _, rfl, rfl, rfl, fun _ => rfl, .inl ⟨rfl, rfl⟩, h2'⟩, h3⟩
    | false =>
      obtain ⟨ts, tl, h1, h2, h3⟩ := lex_glued false (t :: r) (p + ((dblB s).length + 2) + 2) (by simp)
      obtain ⟨m, hm⟩ := glued_head false (t :: r) (by simp)
      rw [hm] at h1
      have k2 := LexTo.atG (c := 36) (m := 120 :: 39 :: m) (p := p + ((dblB s).length + 2)) (by rfl) (tok_var _ m) (by simp) (by omega) (by simp) h1
      have hs : gluedSrc false (s :: t :: r) = 39 :: (dblB s ++ 39 :: (36 :: 120 :: 39 :: m)) := by
        simp [gluedSrc, quoteS, hm]
      rw [hs]
      have k3 := LexTo.atG (c := 39) (p := p) (by rfl) (tok_dead s (36 :: 120 :: 39 :: m) p (fun c m e => (by obtain ⟨rfl, _⟩ := List.cons.inj e; decide))) (by simp) (by omega) (by simp) (by rw [drop_dead]; exact k2)
      exact ⟨_, tl, k3, ⟨_, _, _, rfl, rfl, rfl, fun _ => rfl, .inr ⟨rfl, rfl, rfl, rfl⟩, h2⟩, h3⟩

/-- The items of one word. -/
theorem glued_read {ts tl : List BTok} (caret : Bool) (d : Nat) (ht : PEnd tl) : ∀ (l : List (List UInt8)) (i : Nat) (L : List Prog) (f : Nat), l ≠ [] → WT caret l (ts.drop i) tl → 2 * l.length + 2 ≤ f →
    ∃ e, pWordR ts f d i 0 L = pOk (L ++ itemsP caret l) e ∧ ts.drop e = tl
  | [], i, L, f, h, _, _ => absurd rfl h
  | [s], i, L, f, _, ⟨a, h1, h2, h3, _⟩, hf => by
    obtain ⟨z, rfl, hz⟩ := ht
    obtain ⟨f, rfl⟩ : ∃ g, f = g + 2 := ⟨f - 2, by omega⟩
    obtain ⟨x1, y1, d2⟩ := tk_at h1
    have hs := sk_at h1
    have hk : ∀ ks, isK ts (i + 1) ks = ks.contains 0 := fun ks => by rw [isK_at d2, hz]
    refine ⟨i + 1, ?_, d2⟩
    rw [pWordR, show itemP ts i = true by unfold itemP; rw [isK_at h1, h2]; rfl, if_neg (by simp), show pOne ts (f + 1) d i = pOk (litP s) (i + 1) by rw [pOne, x1, hs, h2, h3]; rfl]
    simp only [pOk, PRes.go]
    rw [hk, if_neg (by decide), if_pos (.inl (by unfold itemP; rw [hk]; rfl))]
    rfl
  | s :: t :: r, i, L, f, _, ⟨a, b, more, h1, h2, h3, _, h5, h6⟩, hf => by
    obtain ⟨f, rfl⟩ : ∃ g, f = g + 3 := ⟨f - 3, by simp only [List.length_cons] at hf; omega⟩
    obtain ⟨x1, y1, d2⟩ := tk_at h1
    obtain ⟨x2, y2, d3⟩ := tk_at d2
    have hs := sk_at h1
    have hne : ∃ c us, more = c :: us ∧ c.kind = 19 ∧ (caret = false → c.glue = true) := by
      cases r with
      | nil => obtain ⟨c, e, e1, _, e3⟩ := h6; exact ⟨c, tl, e, e1, e3⟩
      | cons u r => obtain ⟨c, b, m, e, e1, _, e3, _⟩ := h6; exact ⟨c, b :: m, e, e1, e3⟩
    obtain ⟨c, us, rfl, hc, hcg⟩ := hne
    have hs2 := sk_at d2
    have hone : pOne ts (f + 2) d i = pOk (litP s) (i + 1) := by rw [pOne, x1, hs, h2, h3]; rfl
    rcases h5 with ⟨rfl, hb⟩ | ⟨rfl, hb, hbt, hbg⟩
    · obtain ⟨e, e1, e2⟩ := glued_read true d ht (t :: r) (i + 1 + 1) (L ++ [litP s]) (f + 2) (by simp) (by rw [d3]; exact h6) (by simp only [List.length_cons] at hf ⊢; omega)
      refine ⟨e, ?_, e2⟩
      rw [pWordR, show itemP ts i = true by unfold itemP; rw [isK_at h1, h2]; rfl, if_neg (by simp), hone]
      simp only [pOk, PRes.go]
      rw [if_neg (show ¬ (0 : Nat) = 1 by decide), isK_at d2, hb, if_pos (by decide), hs2, e1, List.append_assoc]
      rfl
    · obtain ⟨e, e1, e2⟩ := glued_read false d ht (t :: r) (i + 1 + 1) (L ++ [litP s] ++ [newP 2 0 [120] []]) (f + 1) (by simp) (by rw [d3]; exact h6) (by simp only [List.length_cons] at hf ⊢; omega)
      refine ⟨e, ?_, e2⟩
      have hone2 : pOne ts (f + 1) d (i + 1) = pOk (newP 2 0 [120] []) (i + 1 + 1) := by rw [pOne, x2, hs2, hb, hbt]; rfl
      rw [pWordR, show itemP ts i = true by unfold itemP; rw [isK_at h1, h2]; rfl, if_neg (by simp), hone]
      simp only [pOk, PRes.go]
      rw [if_neg (show ¬ (0 : Nat) = 1 by decide), isK_at d2, hb, if_neg (by decide), if_neg (by unfold itemP; rw [isK_at d2, hb, x2, hbg]; simp), pWordR, show itemP ts (i + 1) = true by unfold itemP; rw [isK_at d2, hb]; rfl, if_neg (by simp), hone2]
      simp only [pOk, PRes.go]
      rw [if_neg (show ¬ (0 : Nat) = 1 by decide), isK_at d3, hc, if_neg (by decide), if_neg (by unfold itemP; rw [isK_at d3, hc, (tk_at d3).1, hcg rfl]; simp), e1, List.append_assoc, List.append_assoc]
      rfl

theorem items_true : ∀ l : List (List UInt8), itemsP true l = l.map litP
  | [] => rfl
  | [s] => rfl
  | s :: t :: r => by
    have := items_true (t :: r)
    show litP s :: ([] ++ itemsP true (t :: r)) = _
    rw [this]
    rfl
theorem join_true : ∀ (l : List (List UInt8)) (acc : List UInt8), (l.map litP).foldl joinStep [litP acc] = [litP (acc ++ l.flatten)]
  | [], acc => by simp
  | s :: l, acc => by
    have := join_true l (acc ++ s)
    rw [List.map_cons, List.foldl_cons, show joinStep [litP acc] (litP s) = [litP (acc ++ s)] by simp [joinStep, litP, newP], this, List.flatten_cons, List.append_assoc]
theorem step_new (out : List Prog) (x : Prog) (h : out = [] ∨ out.getLast? = some (newP 2 0 [120] [])) : joinStep out x = out ++ [x] := by
  unfold joinStep
  rcases h with rfl | h
  · rfl
  · rw [h]
    split
    · rename_i y z hy
      rw [if_neg (by
        have : y = ⟨2, 0, 0, 1, [120]⟩ := by
          have := Option.some.inj hy
          unfold newP at this
          simp at this
          exact this.symm
        rw [this]
        simp)]
    · rfl
theorem step_var (out : List Prog) : joinStep out (newP 2 0 [120] []) = out ++ [newP 2 0 [120] []] := by
  unfold joinStep
  split
  · rename_i y z hy hz
    rw [if_neg (by
      have : z = ⟨2, 0, 0, 1, [120]⟩ := by
        unfold newP at hz
        simp at hz
        exact hz.symm
      rw [this]
      simp)]
  · rfl
theorem join_false : ∀ (l : List (List UInt8)) (out : List Prog), (out = [] ∨ out.getLast? = some (newP 2 0 [120] [])) → (itemsP false l).foldl joinStep out = out ++ itemsP false l
  | [], out, _ => by simp [itemsP]
  | [s], out, h => by
    show List.foldl joinStep out [litP s] = _
    rw [List.foldl_cons, step_new out _ h]
    rfl
  | s :: t :: r, out, h => by
    have ih := join_false (t :: r) (out ++ [litP s] ++ [newP 2 0 [120] []]) (.inr (by simp))
    show List.foldl joinStep out (litP s :: newP 2 0 [120] [] :: itemsP false (t :: r)) = out ++ (litP s :: newP 2 0 [120] [] :: itemsP false (t :: r))
    rw [List.foldl_cons, step_new out _ h, List.foldl_cons, step_var, ih]
    simp

/-- What quoted words come to in one word. -/
def gluedP (caret : Bool) (l : List (List UInt8)) : Prog :=
  if caret = true then litP l.flatten else match itemsP false l with
    | [x] => x
    | m => newP 4 0 [] m
theorem join_glued (caret : Bool) (l : List (List UInt8)) (h : l ≠ []) : joinP (itemsP caret l) = gluedP caret l := by
  cases caret with
  | true =>
    rw [items_true]
    cases l with
    | nil => exact absurd rfl h
    | cons s l =>
      unfold joinP
      rw [List.map_cons, List.foldl_cons, show joinStep [] (litP s) = [litP s] from rfl, join_true]
      rfl
  | false =>
    unfold joinP gluedP
    rw [join_false l [] (.inl rfl), List.nil_append]
    rfl

theorem items_ok : ∀ (l : List (List UInt8)), (∀ s ∈ l, s.length ≤ 100) → ∀ x ∈ itemsP false l, (∃ s, x = litP s ∧ s.length ≤ 100) ∨ x = newP 2 0 [120] []
  | [], _, x, h => by cases h
  | [s], hl, x, h => by
    rw [show itemsP false [s] = [litP s] from rfl, List.mem_singleton] at h
    exact .inl ⟨s, h, hl s (by simp)⟩
  | s :: t :: r, hl, x, h => by
    rw [show itemsP false (s :: t :: r) = litP s :: newP 2 0 [120] [] :: itemsP false (t :: r) from rfl] at h
    rcases List.mem_cons.1 h with h | h
    · exact .inl ⟨s, h, hl s (by simp)⟩
    · rcases List.mem_cons.1 h with h | h
      · exact .inr h
      · exact items_ok (t :: r) (fun y hy => hl y (by simp [hy])) x h
theorem items_num : ∀ (l : List (List UInt8)), (itemsP false l).length ≤ 2 * l.length
  | [] => Nat.le_refl _
  | [s] => by show 1 ≤ 2; omega
  | s :: t :: r => by
    have := items_num (t :: r)
    show (itemsP false (t :: r)).length + 1 + 1 ≤ _
    simp only [List.length_cons] at this ⊢
    omega
theorem flat_len : ∀ (l : List (List UInt8)), (∀ s ∈ l, s.length ≤ 100) → l.flatten.length ≤ 100 * l.length
  | [], _ => Nat.le_refl _
  | s :: l, h => by
    have h1 := flat_len l fun x hx => h x (by simp [hx])
    have h2 := h s (by simp)
    rw [List.flatten_cons, List.length_append, List.length_cons]
    omega
theorem ones_len : ∀ (l : List Prog), (∀ x ∈ l, x.length = 1) → l.flatten.length = l.length
  | [], _ => rfl
  | a :: l, h => by
    rw [List.flatten_cons, List.length_append, ones_len l fun x hx => h x (by simp [hx]), h a (by simp), List.length_cons]
    omega
theorem glued_fine (caret : Bool) (l : List (List UInt8)) (hn : l.length ≤ 12) (hl : ∀ s ∈ l, s.length ≤ 100) (h : l ≠ []) : tooLong (gluedP caret l) = false ∧ WFP okB 2000 true 2 (gluedP caret l) ∧ (gluedP caret l).length ≤ 2999 := by
  have hf := flat_len l hl
  cases caret with
  | true =>
    refine ⟨?_, (lit_wfp (by omega)).mono (by omega), by show 1 ≤ _; omega⟩
    show tooLong (litP l.flatten) = false
    simp [tooLong, litP, newP]
    simp only [List.length_flatten] at hf
    omega
  | false =>
    have hi := items_ok l hl
    have hnum := items_num l
    have hone : ∀ x ∈ itemsP false l, x.length = 1 := fun x hx => by
      rcases hi x hx with ⟨s, rfl, _⟩ | rfl <;> rfl
    have hw : ∀ x ∈ itemsP false l, WFP okB 2000 true 1 x := fun x hx => by
      rcases hi x hx with ⟨s, rfl, hs⟩ | rfl
      · exact lit_wfp (by omega)
      · exact var_wfp
    have hs : ∀ x ∈ itemsP false l, ∀ y ∈ x, y.text.length ≤ 2000 := fun x hx y hy => by
      rcases hi x hx with ⟨s, rfl, hs⟩ | rfl
      · unfold litP newP at hy
        simp only [List.flatten_nil, List.mem_singleton] at hy
        subst hy
        dsimp only
        omega
      · unfold newP at hy
        simp only [List.flatten_nil, List.mem_singleton] at hy
        subst hy
        decide
    have hlen := ones_len _ hone
    have hne : itemsP false l ≠ [] := by
      cases l with
      | nil => exact absurd rfl h
      | cons s l => cases l <;> simp [itemsP]
    unfold gluedP
    rw [if_neg (by simp)]
    generalize itemsP false l = m at *
    split
    · rename_i x
      refine ⟨?_, (hw x (by simp)).mono (by omega), by rw [hone x (by simp)]; omega⟩
      unfold tooLong
      rw [List.any_eq_false]
      intro y hy
      have := hs x (by simp) y hy
      simp
      omega
    · refine ⟨?_, .node _ _ _ _ _ _ (by rfl) (by rfl) ?_ (fun j kid hj => wfp_get hw j kid hj), by rw [len_newP, hlen]; omega⟩
      · unfold tooLong
        rw [List.any_eq_false]
        intro y hy
        rw [newP] at hy
        rcases List.mem_cons.1 hy with rfl | hy
        · simp
        · obtain ⟨x, hx, hyx⟩ := List.mem_flatten.1 hy
          have := hs x hx y hyx
          simp
          omega
      · have : 0 < m.length := List.length_pos_iff.2 hne
        simp [childrenB]
        omega

/-- 'x=' and quoted words, glued. -/
theorem parse_glued (caret : Bool) (l : List (List UInt8)) (hne : l ≠ []) (hn : l.length ≤ 12) (hl : ∀ s ∈ l, s.length ≤ 100) : parseB (120 :: 61 :: gluedSrc caret l) = .ok (newP 22 0 [120] [gluedP caret l]) := by
  obtain ⟨more, tl, k0, h4, h5⟩ := lex_glued caret l (0 + 1 + 1) hne
  obtain ⟨m, hm⟩ := glued_head caret l hne
  obtain ⟨g2, k2⟩ := LexTo.at (first := false) (c := 61) (p := 0 + 1) (by rfl) (tok_is _ (gluedSrc caret l)) (by simp) (by omega) (by simp) k0
  obtain ⟨g3, h1⟩ := LexTo.at (first := true) (c := 120) (p := 0) (by rfl) (tok_x _ (gluedSrc caret l)) (by simp) (by omega) (by simp) k2
  obtain ⟨a0, ha0⟩ : ∃ a : BTok, a = ⟨18, 0, 0, [120], g3⟩ := ⟨_, rfl⟩
  obtain ⟨a1, ha1⟩ : ∃ a : BTok, a = ⟨16, 0 + 1, 0, [], g2⟩ := ⟨_, rfl⟩
  obtain ⟨ts, hts⟩ : ∃ ts, a0 :: a1 :: more = ts := ⟨_, rfl⟩
  have h1' : LexTo true (120 :: 61 :: gluedSrc caret l) 0 ts := by rw [← hts, ha0, ha1]; exact h1
  have d0 : ts.drop 0 = a0 :: a1 :: more := hts.symm
  obtain ⟨x0, y0, d1⟩ := tk_at d0
  obtain ⟨x1, y1, d2⟩ := tk_at d1
  have hpc := h5
  obtain ⟨z, rfl, hz⟩ := h5
  have hmore : ∃ c us, more = c :: us ∧ c.kind = 19 := by
    cases l with
    | nil => exact absurd rfl hne
    | cons s l =>
      cases l with
      | nil => obtain ⟨c, e, e1, _⟩ := h4; exact ⟨c, _, e, e1⟩
      | cons t r => obtain ⟨c, b, mm, e, e1, _⟩ := h4; exact ⟨c, _, e, e1⟩
  obtain ⟨c, us, hc1, hc2⟩ := hmore
  have x2 := (tk_at (d2.trans hc1)).1
  obtain ⟨e0, q1, q2⟩ := glued_read (ts := ts) caret 1 hpc l (0 + 1 + 1) [] (2 * l.length + 2) hne (by rw [d2]; exact h4) (Nat.le_refl _)
  have hlen3 : 3 < ts.length := by
    rw [← hts, hc1]
    cases l with
    | nil => exact absurd rfl hne
    | cons s l =>
      cases l with
      | nil =>
        obtain ⟨c', e, _⟩ := h4
        rw [hc1] at e
        obtain ⟨_, rfl⟩ := List.cons.inj e
        simp
      | cons t r =>
        obtain ⟨c', b, mm, e, _⟩ := h4
        rw [hc1] at e
        obtain ⟨_, rfl⟩ := List.cons.inj e
        simp
  obtain ⟨f, hf⟩ : ∃ f, 12 * ts.length + 11 = f + 11 := ⟨12 * ts.length, by omega⟩
  obtain ⟨e, w1, w2⟩ := glued_read (ts := ts) caret 1 hpc l (0 + 1 + 1) [] (f + 2) hne (by rw [d2]; exact h4) (by omega)
  obtain ⟨t1, t2, t3⟩ := glued_fine caret l hn hl hne
  have hw : pWord ts (f + 3) 1 (0 + 1 + 1) 0 = pOk (gluedP caret l) e := by
    rw [pWord, w1, List.nil_append]
    simp only [pOk, PRes.go]
    rw [show wordOut (tkAt ts (0 + 1 + 1)) 0 (itemsP caret l) = gluedP caret l by
      unfold wordOut
      rw [if_neg (by rw [x2, hc2]; simp), join_glued caret l hne]]
    rw [t1, if_neg (by simp)]
  exact parse_set h1' d0 (by rw [ha0]) (by rw [ha0]) (by rw [ha1]) (by rw [hc1]; simp) hf hw w2 hz t2 (by omega) t3

end Go.Proofs.YtepebnblbheegaaGreatDoor
