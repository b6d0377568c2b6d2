/- BparseTurns: redirections, read by the plain parser. No program stands in it. -/
import Derived.Test.YtepebnblbheegaaGreatDoorParseG
namespace Go.Proofs.YtepebnblbheegaaGreatDoor
open Go Go.RowKit

/-- Lex of what is left, with fuel enough. -/
def LexTo (first : Bool) (l : List UInt8) (p : Nat) (ts : List BTok) : Prop := ∀ f, l.length < f → lexB f first l p = .ok ts
theorem LexTo.cons {first : Bool} {l : List UInt8} {p n : Nat} {t : BTok} {us : List BTok} {s : Nat} (hs : skipN false l = s) (h : tokenB (l.drop s) (p + s) = .ok (t, n)) (hk : t.kind ≠ 0) (hn : 1 ≤ n) (hl : s + n ≤ l.length)
    (hr : LexTo false (l.drop (s + n)) (p + s + n) us) : LexTo first l p ({ t with glue := !first && s == 0 } :: us) := by
  intro f hf
  obtain ⟨f, rfl⟩ : ∃ g, f = g + 1 := ⟨f - 1, by omega⟩
  rw [lexB, hs, h]
  simp only [hk, if_false]
  rw [hr f (by rw [List.length_drop]; omega)]
theorem LexTo.nil {first : Bool} {p : Nat} : LexTo first [] p [⟨0, p, 0, [], !first⟩] := fun f hf => by
  obtain ⟨f, rfl⟩ : ∃ g, f = g + 1 := ⟨f - 1, by simp only [List.length_nil] at hf; omega⟩
  rw [lexB]
  simp [skipN, tokenB]

/-- A redirection's source: its sign, and a variable. -/
def turnSrc (m : Nat) : List UInt8 := (if m = 0 then [60] else if m = 1 then [32, 62, 32] else if m = 2 then [62, 62] else [32, 60, 60, 60, 32]) ++ [36, 102]
def turnsSrc (ms : List Nat) : List UInt8 := (ms.map turnSrc).flatten
/-- A name ends ahead of it. -/
def RestT (l : List UInt8) : Prop := l = [] ∨ ∃ c m, l = c :: m ∧ (c = 60 ∨ c = 62 ∨ c = 32 ∨ c = 10)
theorem RestT.turns {tail : List UInt8} (h : RestT tail) : ∀ ms, RestT (turnsSrc ms ++ tail)
  | [] => h
  | m :: ms => by
    refine .inr ?_
    unfold turnsSrc turnSrc
    simp only [List.map_cons, List.flatten_cons, List.append_assoc]
    split
    · exact ⟨60, _, rfl, by simp⟩
    split
    · exact ⟨32, _, rfl, by simp⟩
    split
    · exact ⟨62, _, rfl, by simp⟩
    · exact ⟨32, _, rfl, by simp⟩

theorem token_f (p : Nat) {rest : List UInt8} (h : RestT rest) : tokenB (36 :: 102 :: rest) p = .ok (⟨20, p, 0, [102], false⟩, 2) := by
  have hr : runName (102 :: rest) = [102] := by
    rcases h with rfl | ⟨c, m, rfl, h⟩
    · rfl
    · rcases h with rfl | rfl | rfl | rfl <;> rfl
  have hb : bestOp (36 :: 102 :: rest) opsB 0 [] 0 = ([], 0) := by simp [bestOp, opsB, Lib.hasPrefix, List.isPrefixOf]
  have hs : starName (102 :: rest) = [102] := by
    unfold starName
    rw [if_neg (by simp [Lib.hasPrefix, List.isPrefixOf]), hr]
  have hd : dollarB (102 :: rest) = some (20, 0, [102], 1) := by
    unfold dollarB
    rw [show (102 :: rest : List UInt8).headD 0 = 102 from rfl, if_neg (by decide), show dPre (102 : UInt8).toNat = 0 from rfl, List.drop_zero, hs, if_pos (.inr (by decide))]
    rfl
  simp [tokenB, hb, hd]

/-- Tokens of redirections, and others behind them. -/
def TurnT : List Nat → List BTok → List BTok → Prop
  | [], ts, tail => ts = tail
  | m :: ms, ts, tail => ∃ a b more, ts = a :: b :: more ∧ a.kind = (if m = 0 then 11 else if m = 1 then 12 else if m = 2 then 13 else 14) ∧ b.kind = 20 ∧ b.text = [102] ∧ TurnT ms more tail

theorem LexTo.at {c : UInt8} {m : List UInt8} {first : Bool} {p n : Nat} {t : BTok} {us : List BTok} (hc : skipN false (c :: m) = 0) (h : tokenB (c :: m) p = .ok (t, n)) (hk : t.kind ≠ 0) (hn : 1 ≤ n) (hl : n ≤ m.length + 1)
    (hr : LexTo false ((c :: m).drop n) (p + n) us) : ∃ g, LexTo first (c :: m) p ({ t with glue := g } :: us) := by
  have h1 := LexTo.cons (first := first) (l := c :: m) (p := p) (s := 0) hc (by simpa using h) hk hn (by simp only [List.length_cons]; omega) (by simpa using hr)
  exact ⟨_, h1⟩
theorem LexTo.blank {c : UInt8} {m : List UInt8} {first : Bool} {p n : Nat} {t : BTok} {us : List BTok} (hc : skipN false (c :: m) = 0) (h : tokenB (c :: m) (p + 1) = .ok (t, n)) (hk : t.kind ≠ 0) (hn : 1 ≤ n) (hl : n ≤ m.length + 1)
    (hr : LexTo false ((c :: m).drop n) (p + 1 + n) us) : ∃ g, LexTo first (32 :: c :: m) p ({ t with glue := g } :: us) := by
  have h1 := LexTo.cons (first := first) (l := 32 :: c :: m) (p := p) (s := 1) (by rw [skipN, if_pos (.inl (by decide)), hc]) (by simpa using h) hk hn (by simp only [List.length_cons]; omega) (by rw [Nat.add_comm 1 n, List.drop_succ_cons]; exact hr)
  exact ⟨_, h1⟩

theorem LexTo.f {rest : List UInt8} (h : RestT rest) {p : Nat} {us : List BTok} (hr : LexTo false rest (p + 2) us) : ∃ g, LexTo false (36 :: 102 :: rest) p (⟨20, p, 0, [102], g⟩ :: us) :=
  LexTo.at (by rfl) (token_f p h) (by simp) (by omega) (by simp) (by simpa using hr)
theorem LexTo.f1 {rest : List UInt8} (h : RestT rest) {p : Nat} {us : List BTok} (hr : LexTo false rest (p + 3) us) : ∃ g, LexTo false (32 :: 36 :: 102 :: rest) p (⟨20, p + 1, 0, [102], g⟩ :: us) :=
  LexTo.blank (by rfl) (token_f (p + 1) h) (by simp) (by omega) (by simp) (by simpa using hr)

theorem op_in (p : Nat) (m : List UInt8) : tokenB (60 :: 36 :: m) p = .ok (⟨11, p, 0, [], false⟩, 1) := by simp [tokenB, bestOp, opsB, Lib.hasPrefix, List.isPrefixOf]
theorem op_out (p : Nat) (m : List UInt8) : tokenB (62 :: 32 :: m) p = .ok (⟨12, p, 0, [], false⟩, 1) := by simp [tokenB, bestOp, opsB, Lib.hasPrefix, List.isPrefixOf]
theorem op_more (p : Nat) (m : List UInt8) : tokenB (62 :: 62 :: m) p = .ok (⟨13, p, 0, [], false⟩, 2) := by simp [tokenB, bestOp, opsB, Lib.hasPrefix, List.isPrefixOf]
theorem op_here (p : Nat) (m : List UInt8) : tokenB (60 :: 60 :: 60 :: m) p = .ok (⟨14, p, 0, [], false⟩, 3) := by simp [tokenB, bestOp, opsB, Lib.hasPrefix, List.isPrefixOf]

theorem lex_turns {tail : List UInt8} (ht : RestT tail) (P : List BTok → Prop) (hT : ∀ p, ∃ us, LexTo false tail p us ∧ P us) : ∀ (ms : List Nat) (p : Nat), ∃ ts tl, LexTo false (turnsSrc ms ++ tail) p ts ∧ TurnT ms ts tl ∧ P tl
  | [], p => by
    obtain ⟨us, h1, h2⟩ := hT p
    exact ⟨us, us, h1, rfl, h2⟩
  | m :: ms, p => by
    have hr := ht.turns ms
    obtain ⟨q, hq⟩ : ∃ q, q = p + (turnSrc m).length := ⟨_, rfl⟩
    obtain ⟨us, tl, h1, h2, h3⟩ := lex_turns ht P hT ms q
    have hs : turnsSrc (m :: ms) ++ tail = turnSrc m ++ (turnsSrc ms ++ tail) := by unfold turnsSrc; simp
    rw [hs]
    generalize turnsSrc ms ++ tail = rest at hr h1
    subst hq
    unfold turnSrc at h1 ⊢
    by_cases m0 : m = 0
    · rw [if_pos m0] at h1 ⊢
      obtain ⟨g1, e1⟩ := LexTo.f hr (p := p + 1) (by simpa using h1)
      obtain ⟨g2, e2⟩ := LexTo.at (first := false) (c := 60) (m := 36 :: 102 :: rest) (p := p) (by rfl) (op_in p (102 :: rest)) (by simp) (by omega) (by simp) (by simpa using e1)
      exact ⟨_, tl, e2, ⟨_, _, us, rfl, by simp [m0], rfl, rfl, h2⟩, h3⟩
    rw [if_neg m0] at h1 ⊢
    by_cases m1 : m = 1
    · rw [if_pos m1] at h1 ⊢
      obtain ⟨g1, e1⟩ := LexTo.f1 hr (p := p + 2) (by simpa using h1)
      obtain ⟨g2, e2⟩ := LexTo.blank (first := false) (c := 62) (m := 32 :: 36 :: 102 :: rest) (p := p) (by rfl) (op_out (p + 1) (36 :: 102 :: rest)) (by simp) (by omega) (by simp) (by simpa using e1)
      exact ⟨_, tl, e2, ⟨_, _, us, rfl, by simp [m1], rfl, rfl, h2⟩, h3⟩
    rw [if_neg m1] at h1 ⊢
    by_cases m2 : m = 2
    · rw [if_pos m2] at h1 ⊢
      obtain ⟨g1, e1⟩ := LexTo.f hr (p := p + 2) (by simpa using h1)
      obtain ⟨g2, e2⟩ := LexTo.at (first := false) (c := 62) (m := 62 :: 36 :: 102 :: rest) (p := p) (by rfl) (op_more p (36 :: 102 :: rest)) (by simp) (by omega) (by simp) (by simpa using e1)
      exact ⟨_, tl, e2, ⟨_, _, us, rfl, by simp [m2], rfl, rfl, h2⟩, h3⟩
    rw [if_neg m2] at h1 ⊢
    obtain ⟨g1, e1⟩ := LexTo.f1 hr (p := p + 4) (by simpa using h1)
    obtain ⟨g2, e2⟩ := LexTo.blank (first := false) (c := 60) (m := 60 :: 60 :: 32 :: 36 :: 102 :: rest) (p := p) (by rfl) (op_here (p + 1) (32 :: 36 :: 102 :: rest)) (by simp) (by omega) (by simp) (by simpa using e1)
    exact ⟨_, tl, e2, ⟨_, _, us, rfl, by simp [m0, m1, m2], rfl, rfl, h2⟩, h3⟩

/-! Reading them. -/
theorem tk_at {ts : List BTok} {i : Nat} {a : BTok} {r : List BTok} (h : ts.drop i = a :: r) : tkAt ts i = a ∧ i < ts.length ∧ ts.drop (i + 1) = r := by
  refine ⟨?_, ?_, ?_⟩
  · have : ts[i]? = some a := by
      have := congrArg (fun m => m[0]?) h
      simpa using this
    unfold tkAt
    rw [List.getD_eq_getElem?_getD, this]
    rfl
  · have := congrArg List.length h
    rw [List.length_drop, List.length_cons] at this
    omega
  · rw [← List.drop_drop, h]
    rfl
theorem sk_at {ts : List BTok} {i : Nat} {a b : BTok} {r : List BTok} (h : ts.drop i = a :: b :: r) : skP ts i = i + 1 := by
  obtain ⟨_, _, h1⟩ := tk_at h
  obtain ⟨_, h2, _⟩ := tk_at h1
  unfold skP
  omega
theorem isK_at {ts : List BTok} {i : Nat} {a : BTok} {r : List BTok} (h : ts.drop i = a :: r) (ks : List Nat) : isK ts i ks = ks.contains a.kind := by
  unfold isK
  rw [(tk_at h).1]

/-- A word of a variable, and no more. -/
theorem word_f {ts : List BTok} {i d : Nat} {a b : BTok} {r : List BTok} (h : ts.drop i = a :: b :: r) (ha : a.kind = 20) (hx : a.text = [102]) (hb : b.kind ∉ [15, 16, 18, 19, 20, 21, 22, 23, 6, 10]) (f : Nat) :
    pWord ts (f + 3) d i 0 = pOk (newP 2 0 [102] []) (i + 1) := by
  obtain ⟨h1, h2, h3⟩ := tk_at h
  have hs := sk_at h
  have hi : itemP ts i = true := by unfold itemP; rw [isK_at h, ha]; rfl
  have hj : itemP ts (i + 1) = false := by
    unfold itemP
    rw [isK_at h3]
    simp only [List.mem_cons, List.not_mem_nil, or_false, not_or] at hb
    simp
    omega
  have hc : isK ts (i + 1) [15] = false := by
    rw [isK_at h3]
    simp only [List.mem_cons, List.not_mem_nil, or_false, not_or] at hb
    simp
    omega
  have h0 : pOne ts (f + 1) d i = pOk (newP 2 0 [102] []) (i + 1) := by
    rw [pOne, h1, hs, ha, hx]
    rfl
  have hR : pWordR ts (f + 2) d i 0 [] = pOk [newP 2 0 [102] []] (i + 1) := by
    rw [pWordR, hi, if_neg (by simp), h0]
    simp only [pOk, PRes.go, hc, hj, List.nil_append]
    rfl
  rw [pWord, hR]
  simp only [pOk, PRes.go]
  rw [show wordOut (tkAt ts i) 0 [newP 2 0 [102] []] = newP 2 0 [102] [] by
    unfold wordOut
    rw [if_neg (by rw [h1, ha]; simp)]
    rfl]
  rfl

def turnK (m : Nat) : Nat := if m = 0 then 11 else if m = 1 then 12 else if m = 2 then 13 else 14
def turnP (m : Nat) : Nat × Prog := (turnK m, newP 2 0 [102] [])
theorem turnK_range (m : Nat) : 11 ≤ turnK m ∧ turnK m ≤ 14 := by unfold turnK; (repeat' split) <;> omega
/-- What stands behind a word without being of it. -/
def EndsW (l : List BTok) : Prop := ∃ b r, l = b :: r ∧ b.kind ∉ [15, 16, 18, 19, 20, 21, 22, 23, 6, 10]
theorem TurnT.head : ∀ {ms : List Nat} {ts tl : List BTok}, TurnT ms ts tl → EndsW tl → EndsW ts
  | [], _, _, h, ht => by cases h; exact ht
  | m :: ms, _, _, ⟨a, b, more, h1, h2, _⟩, _ => by
    refine ⟨a, b :: more, h1, ?_⟩
    have := turnK_range m
    rw [h2, ← turnK]
    simp only [List.mem_cons, List.not_mem_nil, or_false, not_or]
    omega

/-- Redirections, up to what is none. -/
theorem turns_read {ts tl : List BTok} (d : Nat) (he : EndsW tl) (hn : ∀ b r, tl = b :: r → b.kind ∉ [11, 12, 13, 14]) : ∀ (ms : List Nat) (i : Nat) (c : Prog) (L : List (Nat × Prog)) (f : Nat), TurnT ms (ts.drop i) tl → ms.length + 4 ≤ f →
    pTurns ts f d i c L = pOk (aroundP (L ++ ms.map turnP) c) (i + 2 * ms.length) ∧ ts.drop (i + 2 * ms.length) = tl
  | [], i, c, L, f, h, hf => by
    obtain ⟨f, rfl⟩ : ∃ g, f = g + 1 := ⟨f - 1, by omega⟩
    obtain ⟨b, r, hb, _⟩ := he
    have hd : ts.drop i = b :: r := by rw [← hb]; exact h
    have ht : turningP ts i = false := by
      unfold turningP
      rw [isK_at hd]
      have := hn b r hb
      simp only [List.mem_cons, List.not_mem_nil, or_false, not_or] at this
      simp
      omega
    rw [pTurns, ht, if_neg (by simp)]
    simp only [List.map_nil, List.append_nil, List.length_nil, Nat.mul_zero, Nat.add_zero]
    exact ⟨trivial, h⟩
  | m :: ms, i, c, L, f, ⟨a, b, more, h1, h2, h3, h4, h5⟩, hf => by
    obtain ⟨f, rfl⟩ : ∃ g, f = g + 4 := ⟨f - 4, by simp only [List.length_cons] at hf; omega⟩
    obtain ⟨b', r', hm, hbk⟩ := TurnT.head h5 he
    subst hm
    have hk : turningP ts i = true := by
      unfold turningP
      rw [isK_at h1, h2, ← turnK]
      have := turnK_range m
      simp
      omega
    obtain ⟨t1, t2, t3⟩ := tk_at h1
    have hw := word_f (d := d) t3 h3 h4 hbk f
    have t4 := (tk_at t3).2.2
    have ih := turns_read d he hn ms (i + 1 + 1) c (L ++ [(a.kind, newP 2 0 [102] [])]) (f + 3) (by rw [t4]; exact h5) (by simp only [List.length_cons] at hf; omega)
    rw [pTurns, hk, if_pos rfl, sk_at h1, hw]
    simp only [pOk, PRes.go]
    rw [t1, ih.1]
    have hi : i + 1 + 1 + 2 * ms.length = i + 2 * (m :: ms).length := by simp only [List.length_cons]; omega
    rw [hi] at ih ⊢
    refine ⟨?_, ih.2⟩
    rw [h2, List.append_assoc]
    rfl

/-- The same behind a command's words. -/
theorem items_read {ts tl : List BTok} (d : Nat) (he : EndsW tl) (hn : ∀ b r, tl = b :: r → b.kind ∉ [11, 12, 13, 14]) : ∀ (ms : List Nat) (i : Nat) (ws : List Prog) (L : List (Nat × Prog)) (f : Nat), TurnT ms (ts.drop i) tl → ms.length + 4 ≤ f →
    pItems ts f d i ws L = pOk (ws, L ++ ms.map turnP) (i + 2 * ms.length) ∧ ts.drop (i + 2 * ms.length) = tl
  | [], i, ws, L, f, h, hf => by
    obtain ⟨f, rfl⟩ : ∃ g, f = g + 1 := ⟨f - 1, by omega⟩
    obtain ⟨b, r, hb, hbk⟩ := he
    have hd : ts.drop i = b :: r := by rw [← hb]; exact h
    simp only [List.mem_cons, List.not_mem_nil, or_false, not_or] at hbk
    have ht : turningP ts i = false := by
      unfold turningP
      rw [isK_at hd]
      have := hn b r hb
      simp only [List.mem_cons, List.not_mem_nil, or_false, not_or] at this
      simp
      omega
    have hi : itemP ts i = false := by
      unfold itemP
      rw [isK_at hd]
      simp
      omega
    rw [pItems, ht, hi, if_neg (by simp), if_pos (.inl rfl)]
    simp only [List.map_nil, List.append_nil, List.length_nil, Nat.mul_zero, Nat.add_zero]
    exact ⟨trivial, h⟩
  | m :: ms, i, ws, L, f, ⟨a, b, more, h1, h2, h3, h4, h5⟩, hf => by
    obtain ⟨f, rfl⟩ : ∃ g, f = g + 4 := ⟨f - 4, by simp only [List.length_cons] at hf; omega⟩
    obtain ⟨b', r', hm, hbk⟩ := TurnT.head h5 he
    subst hm
    have hk : turningP ts i = true := by
      unfold turningP
      rw [isK_at h1, h2, ← turnK]
      have := turnK_range m
      simp
      omega
    obtain ⟨t1, t2, t3⟩ := tk_at h1
    have hw := word_f (d := d) t3 h3 h4 hbk f
    have t4 := (tk_at t3).2.2
    have ih := items_read d he hn ms (i + 1 + 1) ws (L ++ [(a.kind, newP 2 0 [102] [])]) (f + 3) (by rw [t4]; exact h5) (by simp only [List.length_cons] at hf; omega)
    rw [pItems, hk, if_pos rfl, sk_at h1, hw]
    simp only [pOk, PRes.go]
    rw [t1, ih.1]
    have hi : i + 1 + 1 + 2 * ms.length = i + 2 * (m :: ms).length := by simp only [List.length_cons]; omega
    rw [hi] at ih ⊢
    refine ⟨?_, ih.2⟩
    rw [h2, List.append_assoc]
    rfl

/-- A word of one letter, and no more. -/
theorem word_a {ts : List BTok} {i d : Nat} {a : BTok} {m : List BTok} (h : ts.drop i = a :: m) (ha : a.kind = 18) (hx : a.text = [97]) (he : EndsW m) (f : Nat) :
    pWord ts (f + 3) d i 0 = pOk (litP [97]) (i + 1) := by
  obtain ⟨b, r, rfl, hb⟩ := he
  obtain ⟨h1, h2, h3⟩ := tk_at h
  have hs := sk_at h
  have hi : itemP ts i = true := by unfold itemP; rw [isK_at h, ha]; rfl
  simp only [List.mem_cons, List.not_mem_nil, or_false, not_or] at hb
  have hj : itemP ts (i + 1) = false := by
    unfold itemP
    rw [isK_at h3]
    simp
    omega
  have hc : isK ts (i + 1) [15] = false := by
    rw [isK_at h3]
    simp
    omega
  have h0 : pOne ts (f + 1) d i = pOk (litP [97]) (i + 1) := by
    rw [pOne, h1, hs, ha, hx]
    rfl
  have hR : pWordR ts (f + 2) d i 0 [] = pOk [litP [97]] (i + 1) := by
    rw [pWordR, hi, if_neg (by simp), h0]
    simp only [pOk, PRes.go, hc, hj, List.nil_append]
    rfl
  rw [pWord, hR]
  simp only [pOk, PRes.go]
  rw [show wordOut (tkAt ts i) 0 [litP [97]] = litP [97] by
    unfold wordOut
    rw [if_neg (by rw [h1, ha, hx]; decide)]
    rfl]
  rfl

def callA : Prog := newP 21 0 [] [litP [97]]
/-- A command of a letter, with redirections. -/
theorem command_a {ts tl : List BTok} {i d : Nat} {a : BTok} {m : List BTok} {ms : List Nat} (h : ts.drop i = a :: m) (ha : a.kind = 18) (hx : a.text = [97]) (hT : TurnT ms m tl) (he : EndsW tl) (hn : ∀ b r, tl = b :: r → b.kind ∉ [11, 12, 13, 14]) (f : Nat) (hf : ms.length + 6 ≤ f) :
    pCommand ts (f + 1) d i = pOk (aroundP (ms.map turnP) callA) (i + 1 + 2 * ms.length) ∧ ts.drop (i + 1 + 2 * ms.length) = tl := by
  obtain ⟨f, rfl⟩ : ∃ g, f = g + 6 := ⟨f - 6, by omega⟩
  have hm := TurnT.head hT he
  obtain ⟨h1, h2, h3⟩ := tk_at h
  have hw := word_a (d := d) h ha hx hm (f + 1)
  obtain ⟨b, r, hb, hbk⟩ := hm
  have hi := items_read (ts := ts) d he hn ms (i + 1) [litP [97]] [] (f + 4) (by rw [h3]; exact hT) (by omega)
  have hs1 : skP ts i = i + 1 := sk_at (by rw [h, hb])
  have hb1 : (tkAt ts (i + 1)).kind ≠ 16 := by
    rw [(tk_at (h3.trans hb)).1]
    simp only [List.mem_cons, List.not_mem_nil, or_false, not_or] at hbk
    omega
  have k1 : ∀ ks, isK ts i ks = ks.contains 18 := fun ks => by rw [isK_at h, ha]
  have hkey : keyAt ts i [101, 108, 115, 101] = false := by
    unfold keyAt
    rw [h1, hx]
    simp
  have hsets : pSets ts (f + 5) d i [] = pOk [] i := by
    rw [pSets, if_neg (by rw [hs1]; exact fun hh => hb1 hh.2.1)]
  have hitems : pItems ts (f + 5) d i [] [] = pOk ([litP [97]], ms.map turnP) (i + 1 + 2 * ms.length) := by
    rw [pItems, show turningP ts i = false by unfold turningP; rw [k1]; rfl, show itemP ts i = true by unfold itemP; rw [k1]; rfl, hkey, if_neg (by simp), if_neg (by simp), hw]
    simp only [pOk, PRes.go, List.nil_append]
    exact hi.1
  have hsimple : pSimple ts (f + 6) d i = pOk (aroundP (ms.map turnP) callA) (i + 1 + 2 * ms.length) := by
    rw [pSimple, hsets]
    simp only [pOk, PRes.go]
    rw [hitems]
    simp only [pOk]
    rw [if_neg (by simp)]
    rfl
  refine ⟨?_, hi.2⟩
  rw [pCommand, k1, if_neg (by decide), k1, h1, hx, if_pos (.inr (by decide))]
  exact hsimple

end Go.Proofs.YtepebnblbheegaaGreatDoor

/- BparseTurns: the plain law. No program stands in it. -/
namespace Go.Proofs.YtepebnblbheegaaGreatDoor
open Go Go.RowKit

/-! From a command to a program. -/
theorem pipe_one {ts : List BTok} {d i e f : Nat} {c : Prog} (h : pCommand ts f d i = pOk c e) (h1 : isK ts i [17] = false) (h2 : isK ts e [5] = false) : pPipe ts (f + 2) d i = pOk c e := by
  rw [pPipe, h1, if_neg (by simp), pPipeR, h]
  simp only [pOk, PRes.go, h2, List.nil_append]
  rfl
theorem chain_one {ts : List BTok} {d i e f : Nat} {c : Prog} (h : pPipe ts (f + 2) d i = pOk c e) (h2 : isK ts e [3, 4] = false) : pChain ts (f + 3) d i = pOk c e := by
  rw [pChain, h]
  simp only [pOk, PRes.go]
  rw [pChainR, h2, if_neg (by simp)]
  rfl
theorem pass_no {ts : List BTok} {i : Nat} {ks : List Nat} (h : isK ts i ks = false) : passT ts ks i = i := by
  unfold passT
  cases ts.length with
  | zero => rfl
  | succ n => rw [passP, h, if_neg (by simp)]
theorem chains_end {ts : List BTok} {d i f : Nat} {L : List Prog} (h : isK ts (passT ts [1, 2] i) [0, 7, 9] = true) : pChains ts (f + 1) d i L = pOk (seqP L) (passT ts [1, 2] i) := by
  rw [pChains, if_pos (.inl h)]
theorem chains_one {ts : List BTok} {d i e f : Nat} {c : Prog} (h : pChain ts (f + 3) d i = pOk c e) (h1 : isK ts i [0, 1, 2, 7, 9] = false) (hc : keyAt ts i [99, 97, 115, 101] = false) (h2 : isK ts (passT ts [1, 2] e) [0, 7, 9] = true) :
    pChains ts (f + 4) d i [] = pOk c (passT ts [1, 2] e) := by
  have hh : ∀ k : Nat, [0, 1, 2, 7, 9].contains k = false → [1, 2].contains k = false ∧ [0, 7, 9].contains k = false := fun k hk => by
    simp at hk ⊢
    omega
  obtain ⟨a1, a2⟩ := hh _ h1
  have hp : passT ts [1, 2] i = i := pass_no a1
  rw [pChains, hp, hc, if_neg (by
    intro hx
    rcases hx with hx | hx | hx
    · exact absurd (hx.symm.trans (show isK ts i [0, 7, 9] = false from a2)) (by simp)
    · exact absurd hx (by simp)
    · exact absurd hx.1 (by simp)), h]
  simp only [pOk, PRes.go]
  exact chains_end h2
theorem list_one {ts : List BTok} {d i e f : Nat} {c : Prog} (h : pChains ts (f + 4) (d + 1) i [] = pOk c e) (hd : d < 30) : pList ts (f + 5) d i = pOk c e := by
  rw [pList, if_neg (by omega)]
  exact h

/-- A list of one command. -/
theorem list_of {ts : List BTok} {d i e f : Nat} {c : Prog} (h : pCommand ts f (d + 1) i = pOk c e) (hd : d < 30) (h1 : isK ts i [0, 1, 2, 7, 9, 17] = false) (hc : keyAt ts i [99, 97, 115, 101] = false) (h2 : isK ts e [3, 4, 5] = false) (h3 : isK ts (passT ts [1, 2] e) [0, 7, 9] = true) :
    pList ts (f + 5) d i = pOk c (passT ts [1, 2] e) := by
  have hh : ∀ k : Nat, [0, 1, 2, 7, 9, 17].contains k = false → [17].contains k = false ∧ [0, 1, 2, 7, 9].contains k = false := fun k hk => by
    simp at hk ⊢
    omega
  have hg : ∀ k : Nat, [3, 4, 5].contains k = false → [3, 4].contains k = false ∧ [5].contains k = false := fun k hk => by
    simp at hk ⊢
    omega
  obtain ⟨a1, a2⟩ := hh _ h1
  obtain ⟨b1, b2⟩ := hg _ h2
  exact list_one (chains_one (chain_one (pipe_one h a1 b2) b1) a2 hc h3) hd

/-! Programs that may be. -/
theorem turns_wfp : ∀ (l : List (Nat × Prog)) (D : Nat) (c : Prog), 1 ≤ D → (∀ t ∈ l, (t.1 = 11 ∨ t.1 = 12 ∨ t.1 = 13 ∨ t.1 = 14) ∧ WFP okB 2000 true 1 t.2) → WFP okB 2000 false D c → WFP okB 2000 false (D + l.length) (aroundP l c)
  | [], D, c, _, _, hc => hc
  | t :: l, D, c, hD, hl, hc => by
    have ih := turns_wfp l D c hD (fun t ht => hl t (by simp [ht])) hc
    obtain ⟨h1, h2⟩ := hl t (by simp)
    rw [List.length_cons, ← Nat.add_assoc]
    show WFP okB 2000 false (D + l.length + 1) (if t.1 = 14 then newP 34 0 [] [t.2, aroundP l c] else newP 33 ((t.1 : Int) - 10) [] [t.2, aroundP l c])
    split
    · exact .node _ _ _ _ _ _ (by rfl) (by rfl) (by rfl) (kids2 (h2.mono (by omega)) ih)
    · refine .node _ _ _ _ _ _ (by rfl) ?_ (by rfl) (kids2 (h2.mono (by omega)) ih)
      simp [fieldsM]
      omega
theorem turnP_ok (ms : List Nat) : ∀ t ∈ ms.map turnP, (t.1 = 11 ∨ t.1 = 12 ∨ t.1 = 13 ∨ t.1 = 14) ∧ WFP okB 2000 true 1 t.2 := fun t ht => by
  obtain ⟨m, _, rfl⟩ := List.mem_map.1 ht
  have := turnK_range m
  exact ⟨by unfold turnP; dsimp only; omega, .node _ _ _ _ _ _ (by rfl) (by rfl) (by rfl) fun j kid hj => by simp at hj⟩
theorem callA_wfp : WFP okB 2000 false 2 callA := .node _ _ _ _ _ _ (by rfl) (by rfl) (by rfl) (kids1 (.node _ _ _ _ _ _ (by rfl) (by rfl) (by rfl) fun j kid hj => by simp at hj))
theorem check_ok {l : Prog} {D : Nat} (h : WFP okB 2000 false D l) (hD : D ≤ 30) (hl : l.length ≤ 3000) : checkP l = none := by
  unfold checkP
  have hp := h.pos.1
  rw [if_neg (by omega)]
  obtain ⟨r, h1, _, h3⟩ := look_wf h l 0 l.length 1 true [] (3 * l.length) (by simp) (by omega) (fun _ => by omega) (Nat.le_refl _)
  rw [h1, h3 (by omega)]

/-! The four sources. -/
theorem tok_a (p : Nat) {c : UInt8} {m : List UInt8} (hc : endsB c = true) : tokenB (97 :: c :: m) p = .ok (⟨18, p, 0, [97], false⟩, 1) := by
  simp [tokenB, bestOp, opsB, Lib.hasPrefix, List.isPrefixOf, hc, show endsB 97 = false by decide]
theorem tok_a_end (p : Nat) : tokenB [97] p = .ok (⟨18, p, 0, [97], false⟩, 1) := by
  simp [tokenB, bestOp, opsB, Lib.hasPrefix, List.isPrefixOf, show endsB 97 = false by decide]
theorem tok_left (p : Nat) (m : List UInt8) : tokenB (123 :: m) p = .ok (⟨8, p, 0, [], false⟩, 1) := by simp [tokenB, bestOp, opsB, Lib.hasPrefix, List.isPrefixOf]
theorem tok_right (p : Nat) (m : List UInt8) : tokenB (125 :: m) p = .ok (⟨9, p, 0, [], false⟩, 1) := by simp [tokenB, bestOp, opsB, Lib.hasPrefix, List.isPrefixOf]
theorem tok_pipe (p : Nat) (m : List UInt8) : tokenB (124 :: 32 :: m) p = .ok (⟨5, p, 0, [], false⟩, 1) := by simp [tokenB, bestOp, opsB, Lib.hasPrefix, List.isPrefixOf]
theorem tok_not (p : Nat) (m : List UInt8) : tokenB (33 :: m) p = .ok (⟨17, p, 0, [], false⟩, 1) := by simp [tokenB, bestOp, opsB, Lib.hasPrefix, List.isPrefixOf]
theorem tok_line (p : Nat) (m : List UInt8) : tokenB (10 :: m) p = .ok (⟨1, p, 0, [], false⟩, 1) := by simp [tokenB, bestOp, opsB, Lib.hasPrefix, List.isPrefixOf]

/-- One blank more ahead. -/
theorem LexTo.blank1 {l : List UInt8} {p : Nat} {t : BTok} {us : List BTok} (h : LexTo false l (p + 1) (t :: us)) : ∃ g, LexTo false (32 :: l) p ({ t with glue := g } :: us) := by
  have hs : skipN false (32 :: l) = skipN false l + 1 := by rw [skipN, if_pos (.inl (by decide))]
  obtain ⟨s, hsn⟩ : ∃ s, skipN false l = s := ⟨_, rfl⟩
  rw [hsn] at hs
  refine ⟨false, fun f hf => ?_⟩
  obtain ⟨f, rfl⟩ : ∃ g, f = g + 1 := ⟨f - 1, by omega⟩
  have h1 := h (f + 1) (by simp only [List.length_cons] at hf; omega)
  rw [lexB, hsn] at h1
  rw [lexB, hs, List.drop_succ_cons, show p + (s + 1) = p + 1 + s by omega, show s + 1 + 0 = s + 1 from rfl]
  cases ht : tokenB (l.drop s) (p + 1 + s) with
  | error e => rw [ht] at h1; cases h1
  | ok y =>
    obtain ⟨t', n⟩ := y
    rw [ht] at h1
    dsimp only at h1 ⊢
    rw [show (32 :: l).drop (s + 1 + n) = l.drop (s + n) by rw [show s + 1 + n = (s + n) + 1 by omega, List.drop_succ_cons]]
    by_cases hk : t'.kind = 0
    · rw [if_pos hk] at h1 ⊢
      simp only [Except.ok.injEq, List.cons.injEq] at h1
      obtain ⟨rfl, rfl⟩ := h1
      simp
    · rw [if_neg hk] at h1 ⊢
      cases hl : lexB f false (l.drop (s + n)) (p + 1 + s + n) with
      | error e => rw [hl] at h1; cases h1
      | ok vs =>
        rw [hl] at h1
        dsimp only at h1 ⊢
        simp only [Except.ok.injEq, List.cons.injEq] at h1
        obtain ⟨rfl, rfl⟩ := h1
        simp

theorem TurnT.glue {P : List BTok → Prop} (hP : ∀ t r g, P (t :: r) → P ({ t with glue := g } :: r)) {ms : List Nat} {t : BTok} {us tl : List BTok} (g : Bool) (h : TurnT ms (t :: us) tl) (hp : P tl) : ∃ tl', TurnT ms ({ t with glue := g } :: us) tl' ∧ P tl' := by
  cases ms with
  | nil =>
    cases h
    exact ⟨_, rfl, hP _ _ _ hp⟩
  | cons m ms =>
    obtain ⟨a, b, more, h1, h2, h3, h4, h5⟩ := h
    obtain ⟨rfl, rfl⟩ := List.cons.inj h1
    exact ⟨tl, ⟨_, b, more, rfl, h2, h3, h4, h5⟩, hp⟩
theorem turnsT_cons {ms : List Nat} {ts tl : List BTok} (h : TurnT ms ts tl) (ht : ∃ b r, tl = b :: r) : ∃ t us, ts = t :: us := by
  cases ms with
  | nil => cases h; exact ht
  | cons m ms =>
    obtain ⟨a, b, more, h1, _⟩ := h
    exact ⟨a, b :: more, h1⟩

/-- What may stand behind the redirections. -/
structure TailT (tail : List UInt8) (P : List BTok → Prop) : Prop where
  rest : RestT tail
  lex : ∀ p, ∃ us, LexTo false tail p us ∧ P us
  glue : ∀ t r g, P (t :: r) → P ({ t with glue := g } :: r)
  pos : ∀ us, P us → ∃ b r, us = b :: r

/-- A letter, a blank, redirections, a tail. -/
theorem lex_a {tail : List UInt8} {P : List BTok → Prop} (h : TailT tail P) (ms : List Nat) (first : Bool) (p : Nat) : ∃ a more tl, LexTo first (97 :: 32 :: (turnsSrc ms ++ tail)) p (a :: more) ∧ a.kind = 18 ∧ a.text = [97] ∧ TurnT ms more tl ∧ P tl := by
  obtain ⟨ts, tl, h1, h2, h3⟩ := lex_turns h.rest P h.lex ms (p + 1 + 1)
  obtain ⟨t, us, rfl⟩ := turnsT_cons h2 (h.pos _ h3)
  obtain ⟨g, h4⟩ := h1.blank1
  obtain ⟨tl', h5, h6⟩ := h2.glue h.glue g h3
  obtain ⟨g2, h7⟩ := LexTo.at (first := first) (c := 97) (m := 32 :: (turnsSrc ms ++ tail)) (p := p) (by rfl) (tok_a p (by decide)) (by simp) (by omega) (by simp) h4
  exact ⟨_, _, tl', h7, rfl, rfl, h5, h6⟩
/-- The same behind 'a | '. -/
theorem lex_pipe {tail : List UInt8} {P : List BTok → Prop} (h : TailT tail P) (ms : List Nat) (first : Bool) (p : Nat) : ∃ a b c more tl, LexTo first (97 :: 32 :: 124 :: 32 :: 97 :: 32 :: (turnsSrc ms ++ tail)) p (a :: b :: c :: more) ∧ a.kind = 18 ∧ a.text = [97] ∧ b.kind = 5 ∧ c.kind = 18 ∧ c.text = [97] ∧ TurnT ms more tl ∧ P tl := by
  obtain ⟨c, more, tl, h1, h2, h3, h4, h5⟩ := lex_a h ms false (p + 1 + 1 + 1 + 1)
  obtain ⟨g1, h6⟩ := h1.blank1
  obtain ⟨g2, h7⟩ := LexTo.at (first := false) (c := 124) (p := p + 1 + 1) (by rfl) (tok_pipe _ (97 :: 32 :: (turnsSrc ms ++ tail))) (by simp) (by omega) (by simp) h6
  obtain ⟨g3, h8⟩ := h7.blank1
  obtain ⟨g4, h9⟩ := LexTo.at (first := first) (c := 97) (p := p) (by rfl) (tok_a p (c := 32) (m := 124 :: 32 :: 97 :: 32 :: (turnsSrc ms ++ tail)) (by decide)) (by simp) (by omega) (by simp) h8
  exact ⟨_, _, _, more, tl, h9, rfl, rfl, rfl, h2, h3, h4, h5⟩

def PEnd (us : List BTok) : Prop := ∃ b, us = [b] ∧ b.kind = 0
theorem tail_end : TailT [] PEnd := ⟨.inl rfl, fun p => ⟨_, LexTo.nil, _, rfl, rfl⟩, fun t r g ⟨b, h1, h2⟩ => by
  obtain ⟨rfl, rfl⟩ := List.cons.inj h1
  exact ⟨_, rfl, h2⟩, fun us ⟨b, h1, _⟩ => ⟨b, [], h1⟩⟩
def PLine (us : List BTok) : Prop := ∃ a b, us = [a, b] ∧ a.kind = 1 ∧ b.kind = 0
theorem tail_line : TailT [10] PLine := ⟨.inr ⟨10, [], rfl, by simp⟩, fun p => by
  obtain ⟨g, h⟩ := LexTo.at (first := false) (c := 10) (m := []) (p := p) (by rfl) (tok_line p []) (by simp) (by omega) (by simp) (LexTo.nil (p := p + 1))
  exact ⟨_, h, _, _, rfl, rfl, rfl⟩, fun t r g ⟨a, b, h1, h2, h3⟩ => by
  obtain ⟨rfl, rfl⟩ := List.cons.inj h1
  exact ⟨_, b, rfl, h2, h3⟩, fun us ⟨a, b, h1, _⟩ => ⟨a, [b], h1⟩⟩
def PNot (us : List BTok) : Prop := ∃ a b r, us = a :: b :: r ∧ a.kind = 5 ∧ b.kind = 17
theorem tail_not : TailT [32, 124, 32, 33, 97] PNot := ⟨.inr ⟨32, _, rfl, by simp⟩, fun p => by
  obtain ⟨g1, h1⟩ := LexTo.at (first := false) (c := 97) (m := []) (p := p + 1 + 1 + 1 + 1) (by rfl) (tok_a_end _) (by simp) (by omega) (by simp) (LexTo.nil (p := p + 1 + 1 + 1 + 1 + 1))
  obtain ⟨g2, h2⟩ := LexTo.at (first := false) (c := 33) (m := [97]) (p := p + 1 + 1 + 1) (by rfl) (tok_not _ _) (by simp) (by omega) (by simp) h1
  obtain ⟨g3, h3⟩ := h2.blank1
  obtain ⟨g4, h4⟩ := LexTo.at (first := false) (c := 124) (m := [32, 33, 97]) (p := p + 1) (by rfl) (tok_pipe _ _) (by simp) (by omega) (by simp) h3
  obtain ⟨g5, h5⟩ := h4.blank1
  exact ⟨_, h5, _, _, _, rfl, rfl, rfl⟩, fun t r g ⟨a, b, q, h1, h2, h3⟩ => by
  obtain ⟨rfl, rfl⟩ := List.cons.inj h1
  exact ⟨_, b, q, rfl, h2, h3⟩, fun us ⟨a, b, q, h1, _⟩ => ⟨a, b :: q, h1⟩⟩

end Go.Proofs.YtepebnblbheegaaGreatDoor

/- BparseTurns: the plain law, its four sources. No program stands in it. -/
namespace Go.Proofs.YtepebnblbheegaaGreatDoor
open Go Go.RowKit

theorem ends_kind {b : BTok} {r : List BTok} (h : b.kind = 0 ∨ b.kind = 1 ∨ b.kind = 5 ∨ b.kind = 9) : EndsW (b :: r) ∧ ∀ b' r', b :: r = b' :: r' → b'.kind ∉ [11, 12, 13, 14] :=
  ⟨⟨b, r, rfl, by simp only [List.mem_cons, List.not_mem_nil, or_false, not_or]; omega⟩, fun b' r' e => by
    obtain ⟨rfl, rfl⟩ := List.cons.inj e
    simp only [List.mem_cons, List.not_mem_nil, or_false, not_or]
    omega⟩
theorem around_wfp (ms : List Nat) (hm : ms.length ≤ 10) : WFP okB 2000 false 12 (aroundP (ms.map turnP) callA) := by
  have := turns_wfp (ms.map turnP) 2 callA (by omega) (turnP_ok ms) callA_wfp
  rw [List.length_map] at this
  exact this.mono (by omega)
theorem around_size (ms : List Nat) : (aroundP (ms.map turnP) callA).length = 2 * ms.length + 2 := by
  rw [(around_len _ _).1]
  have : ∀ ms : List Nat, turnsLen (ms.map turnP) = 2 * ms.length := fun ms => by
    induction ms with
    | nil => rfl
    | cons m ms ih =>
      have h2 : turnsLen ((m :: ms).map turnP) = 2 + turnsLen (ms.map turnP) := by simp [turnsLen, turnP, newP]
      rw [h2, ih, List.length_cons]
      omega
  rw [this]
  rfl
theorem lex_of {L : List UInt8} {ts : List BTok} (h : LexTo true L 0 ts) : lexB (L.length + 1) true L 0 = .ok ts := h _ (by omega)
theorem len_drop {ts : List BTok} {i : Nat} {b : BTok} {r : List BTok} (h : ts.drop i = b :: r) : i < ts.length := (tk_at h).2.1
theorem key_no {ts : List BTok} {i : Nat} {a : BTok} {r : List BTok} (h : ts.drop i = a :: r) (hx : a.kind = 18 → a.text = [97]) (s : List UInt8) (hs : s ≠ [97]) : keyAt ts i s = false := by
  unfold keyAt
  rw [isK_at h, (tk_at h).1]
  by_cases hk : a.kind = 18
  · rw [hx hk, decide_eq_false (fun e => hs e.symm), Bool.and_false]
  · rw [show [18].contains a.kind = false by simp [hk], Bool.false_and]

/-- 'a ' and redirections. -/
theorem parse_a (ms : List Nat) (hm : ms.length ≤ 10) : parseB (97 :: 32 :: turnsSrc ms) = .ok (aroundP (ms.map turnP) callA) := by
  obtain ⟨a, more, tl, h1, h2, h3, h4, h5⟩ := lex_a tail_end ms true 0
  rw [List.append_nil] at h1
  obtain ⟨b, rfl, hb⟩ := h5
  obtain ⟨ts, hts⟩ : ∃ ts, a :: more = ts := ⟨_, rfl⟩
  rw [hts] at h1
  have hd : ts.drop 0 = a :: more := hts.symm
  obtain ⟨e1, e2⟩ := ends_kind (b := b) (r := []) (.inl hb)
  obtain ⟨f, hf⟩ : ∃ f, 12 * ts.length + 11 = f + 1 + 5 := ⟨12 * ts.length + 5, by omega⟩
  have hc := command_a (d := 1) hd h2 h3 h4 e1 e2 f
  have hdl : ∀ g, ms.length + 6 ≤ g → ts.drop (0 + 1 + 2 * ms.length) = [b] := fun g hg => (command_a (d := 1) hd h2 h3 h4 e1 e2 g hg).2
  have hd2 := hdl _ (Nat.le_refl _)
  have hlen := len_drop hd2
  obtain ⟨c1, _⟩ := hc (by omega)
  have hk : ∀ ks, isK ts (0 + 1 + 2 * ms.length) ks = ks.contains 0 := fun ks => by rw [isK_at hd2, hb]
  have hp : passT ts [1, 2] (0 + 1 + 2 * ms.length) = 0 + 1 + 2 * ms.length := pass_no (by simp [hk])
  have hl := list_of c1 (by omega) (by rw [isK_at hd, h2]; rfl) (key_no hd (fun _ => h3) _ (by simp)) (by simp [hk]) (by rw [hp]; simp [hk])
  rw [hp] at hl
  have hch := check_ok (around_wfp ms hm) (by omega) (by rw [around_size]; omega)
  unfold parseB
  rw [lex_of h1]
  dsimp only
  rw [hf, hl]
  simp only [pOk]
  rw [hk, if_neg (by decide), hch]

theorem lex_b (ms : List Nat) : ∃ a b c more tl, LexTo true (123 :: 97 :: 125 :: turnsSrc ms) 0 (a :: b :: c :: more) ∧ a.kind = 8 ∧ b.kind = 18 ∧ b.text = [97] ∧ c.kind = 9 ∧ TurnT ms more tl ∧ PEnd tl := by
  obtain ⟨rest, tl, g0, h4, h5⟩ := lex_turns tail_end.rest PEnd tail_end.lex ms (0 + 1 + 1 + 1)
  rw [List.append_nil] at g0
  obtain ⟨g1, k1⟩ := LexTo.at (first := false) (c := 125) (m := turnsSrc ms) (p := 0 + 1 + 1) (by rfl) (tok_right _ _) (by simp) (by omega) (by simp) g0
  obtain ⟨g2, k2⟩ := LexTo.at (first := false) (c := 97) (m := 125 :: turnsSrc ms) (p := 0 + 1) (by rfl) (tok_a _ (by decide)) (by simp) (by omega) (by simp) k1
  obtain ⟨g3, h1⟩ := LexTo.at (first := true) (c := 123) (m := 97 :: 125 :: turnsSrc ms) (p := 0) (by rfl) (tok_left _ _) (by simp) (by omega) (by simp) k2
  exact ⟨_, _, _, rest, tl, h1, rfl, rfl, rfl, rfl, h4, h5⟩

/-- '{a}' and redirections. -/
theorem parse_b (ms : List Nat) (hm : ms.length ≤ 10) : parseB (123 :: 97 :: 125 :: turnsSrc ms) = .ok (aroundP (ms.map turnP) callA) := by
  obtain ⟨a0, a1, a2, more, tl, h1, i0, i1, i2, i3, h4, h5⟩ := lex_b ms
  obtain ⟨b, rfl, hb⟩ := h5
  obtain ⟨ts, hts⟩ : ∃ ts, a0 :: a1 :: a2 :: more = ts := ⟨_, rfl⟩
  rw [hts] at h1
  have d0 : ts.drop 0 = a0 :: a1 :: a2 :: more := hts.symm
  obtain ⟨x0, y0, d1⟩ := tk_at d0
  obtain ⟨x1, y1, d2⟩ := tk_at d1
  obtain ⟨x2, y2, d3⟩ := tk_at d2
  obtain ⟨e1, e2⟩ := ends_kind (b := b) (r := []) (.inl hb)
  obtain ⟨n1, n2⟩ := ends_kind (b := a2) (r := more) (by omega)
  obtain ⟨f, hf⟩ : ∃ f, 12 * ts.length + 11 = f + 8 + 1 + 5 := ⟨12 * ts.length - 3, by omega⟩
  have hR := turns_read (ts := ts) 1 e1 e2 ms (0 + 1 + 1 + 1) callA []
  have hd2 := (hR (ms.length + 4) (by rw [d3]; exact h4) (Nat.le_refl _)).2
  have hlen := len_drop hd2
  obtain ⟨c1, _⟩ := command_a (d := 2) (ms := []) (tl := a2 :: more) d1 i1 i2 rfl n1 n2 (f + 1) (by simp only [List.length_nil]; omega)
  obtain ⟨c2, _⟩ := hR (f + 8) (by rw [d3]; exact h4) (by omega)
  have hk2 : ∀ ks, isK ts (0 + 1 + 1) ks = ks.contains 9 := fun ks => by rw [isK_at d2, i3]
  have hk1 : ∀ ks, isK ts (0 + 1) ks = ks.contains 18 := fun ks => by rw [isK_at d1, i1]
  have hk0 : ∀ ks, isK ts 0 ks = ks.contains 8 := fun ks => by rw [isK_at d0, i0]
  have hk : ∀ ks, isK ts (0 + 1 + 1 + 1 + 2 * ms.length) ks = ks.contains 0 := fun ks => by rw [isK_at hd2, hb]
  simp only [List.length_nil, Nat.mul_zero, Nat.add_zero, List.map_nil] at c1
  have hp1 : passT ts [1, 2] (0 + 1 + 1) = 0 + 1 + 1 := pass_no (by simp [hk2])
  have hl1 := list_of (d := 1) c1 (by omega) (by simp [hk1]) (key_no d1 (fun _ => i2) _ (by simp)) (by simp [hk2]) (by rw [hp1]; simp [hk2])
  rw [hp1] at hl1
  replace hl1 : pList ts (f + 7) 1 (0 + 1) = pOk callA (0 + 1 + 1) := hl1
  have s0 : skP ts 0 = 0 + 1 := sk_at d0
  have s2 : skP ts (0 + 1 + 1) = 0 + 1 + 1 + 1 := by
    have := tk_at d2
    unfold skP
    omega
  have hb1 : pBlock ts (f + 8) 1 0 = pOk callA (0 + 1 + 1 + 1) := by
    rw [pBlock]
    unfold takeP
    rw [hk0, if_pos (by decide), s0]
    dsimp only
    rw [hl1]
    simp only [pOk, PRes.go]
    rw [hk2, if_pos (by decide), s2]
  have hcm : pCommand ts (f + 8 + 1) 1 0 = pOk (aroundP (ms.map turnP) callA) (0 + 1 + 1 + 1 + 2 * ms.length) := by
    rw [pCommand, hk0, if_pos (by decide), hb1]
    simp only [pOk, PRes.go]
    exact c2
  have hp : passT ts [1, 2] (0 + 1 + 1 + 1 + 2 * ms.length) = 0 + 1 + 1 + 1 + 2 * ms.length := pass_no (by simp [hk])
  have hl := list_of hcm (by omega) (by simp [hk0]) (by
    unfold keyAt
    rw [hk0]
    rfl) (by simp [hk]) (by rw [hp]; simp [hk])
  rw [hp] at hl
  have hch := check_ok (around_wfp ms hm) (by omega) (by rw [around_size]; omega)
  unfold parseB
  rw [lex_of h1]
  dsimp only
  rw [hf, hl]
  simp only [pOk]
  rw [hk, if_neg (by decide), hch]

theorem lex_n {tail : List UInt8} {P : List BTok → Prop} (h : TailT tail P) (ms : List Nat) : ∃ n a b c more tl, LexTo true (33 :: 97 :: 32 :: 124 :: 32 :: 97 :: 32 :: (turnsSrc ms ++ tail)) 0 (n :: a :: b :: c :: more) ∧ n.kind = 17 ∧ a.kind = 18 ∧ a.text = [97] ∧ b.kind = 5 ∧ c.kind = 18 ∧ c.text = [97] ∧ TurnT ms more tl ∧ P tl := by
  obtain ⟨a, b, c, more, tl, h1, i1, i2, i3, i4, i5, h4, h5⟩ := lex_pipe h ms false (0 + 1)
  obtain ⟨g3, h2⟩ := LexTo.at (first := true) (c := 33) (p := 0) (by rfl) (tok_not _ (97 :: 32 :: 124 :: 32 :: 97 :: 32 :: (turnsSrc ms ++ tail))) (by simp) (by omega) (by simp) h1
  exact ⟨_, a, b, c, more, tl, h2, rfl, i1, i2, i3, i4, i5, h4, h5⟩

/-- '!a | a ', redirections, and a line's end. -/
theorem parse_n (ms : List Nat) (hm : ms.length ≤ 10) : parseB (33 :: 97 :: 32 :: 124 :: 32 :: 97 :: 32 :: (turnsSrc ms ++ [10])) = .ok (newP 27 0 [] [newP 32 0 [] [callA, aroundP (ms.map turnP) callA]]) := by
  obtain ⟨a0, a1, a2, a3, more, tl, h1, i0, i1, i2, i3, i4, i5, h4, h5⟩ := lex_n tail_line ms
  obtain ⟨b, e, rfl, hb, he⟩ := h5
  obtain ⟨ts, hts⟩ : ∃ ts, a0 :: a1 :: a2 :: a3 :: more = ts := ⟨_, rfl⟩
  rw [hts] at h1
  have d0 : ts.drop 0 = a0 :: a1 :: a2 :: a3 :: more := hts.symm
  obtain ⟨x0, y0, d1⟩ := tk_at d0
  obtain ⟨x1, y1, d2⟩ := tk_at d1
  obtain ⟨x2, y2, d3⟩ := tk_at d2
  obtain ⟨e1, e2⟩ := ends_kind (b := b) (r := [e]) (by omega)
  obtain ⟨n1, n2⟩ := ends_kind (b := a2) (r := a3 :: more) (by omega)
  obtain ⟨f, hf⟩ : ∃ f, 12 * ts.length + 11 = f + 15 := ⟨12 * ts.length - 4, by omega⟩
  have hC := fun g => command_a (d := 1) (i := 0 + 1 + 1 + 1) d3 i4 i5 h4 e1 e2 g
  have hd2 := (hC _ (Nat.le_refl _)).2
  have hlen := len_drop hd2
  obtain ⟨c1, _⟩ := command_a (d := 1) (ms := []) (tl := a2 :: a3 :: more) d1 i1 i2 rfl n1 n2 (f + 9) (by simp only [List.length_nil]; omega)
  obtain ⟨c2, _⟩ := hC (f + 8) (by omega)
  simp only [List.length_nil, Nat.mul_zero, Nat.add_zero, List.map_nil] at c1
  replace c1 : pCommand ts (f + 10) 1 (0 + 1) = pOk callA (0 + 1 + 1) := c1
  replace c2 : pCommand ts (f + 9) 1 (0 + 1 + 1 + 1) = pOk (aroundP (ms.map turnP) callA) (0 + 1 + 1 + 1 + 1 + 2 * ms.length) := c2
  have hk2 : ∀ ks, isK ts (0 + 1 + 1) ks = ks.contains 5 := fun ks => by rw [isK_at d2, i3]
  have hk3 : ∀ ks, isK ts (0 + 1 + 1 + 1) ks = ks.contains 18 := fun ks => by rw [isK_at d3, i4]
  have hk0 : ∀ ks, isK ts 0 ks = ks.contains 17 := fun ks => by rw [isK_at d0, i0]
  obtain ⟨q, hq⟩ : ∃ q, 0 + 1 + 1 + 1 + 1 + 2 * ms.length = q := ⟨_, rfl⟩
  rw [hq] at hd2 c2 hlen
  obtain ⟨x4, y4, d5⟩ := tk_at hd2
  have hk : ∀ ks, isK ts q ks = ks.contains 1 := fun ks => by rw [isK_at hd2, hb]
  have hke : ∀ ks, isK ts (q + 1) ks = ks.contains 0 := fun ks => by rw [isK_at d5, he]
  have s0 : skP ts 0 = 0 + 1 := sk_at d0
  have s2 : skP ts (0 + 1 + 1) = 0 + 1 + 1 + 1 := sk_at d2
  have sq : skP ts q = q + 1 := sk_at hd2
  have hp3 : passT ts [1] (0 + 1 + 1 + 1) = 0 + 1 + 1 + 1 := pass_no (by simp [hk3])
  have hp0 : passT ts [1, 2] 0 = 0 := pass_no (by simp [hk0])
  have hpq : passT ts [1, 2] q = q + 1 := by
    have := len_drop d5
    unfold passT
    obtain ⟨n, hn⟩ : ∃ n, ts.length = n + 2 := ⟨ts.length - 2, by omega⟩
    rw [hn, passP, hk, if_pos (by decide), sq, passP, hke, if_neg (by decide)]
  have hpr : pPipeR ts (f + 11) 1 (0 + 1) [] = pOk [callA, aroundP (ms.map turnP) callA] q := by
    rw [pPipeR, c1]
    simp only [pOk, PRes.go]
    rw [hk2, if_pos (by decide), s2, hp3, pPipeR, c2]
    simp only [pOk, PRes.go]
    rw [hk, if_neg (by decide)]
    rfl
  have hpp : pPipe ts (f + 12) 1 0 = pOk (newP 27 0 [] [newP 32 0 [] [callA, aroundP (ms.map turnP) callA]]) q := by
    rw [pPipe, hk0, if_pos (by decide), s0, hpr]
    simp only [pOk, PRes.go]
    rw [if_pos (by decide), if_pos (by simp)]
  have hch : pChain ts (f + 13) 1 0 = pOk (newP 27 0 [] [newP 32 0 [] [callA, aroundP (ms.map turnP) callA]]) q := chain_one (f := f + 10) hpp (by simp [hk])
  have hcs : pChains ts (f + 14) 1 0 [] = pOk (newP 27 0 [] [newP 32 0 [] [callA, aroundP (ms.map turnP) callA]]) (q + 1) := by
    have := chains_one (f := f + 10) hch (by simp [hk0]) (by unfold keyAt; rw [hk0]; rfl) (by rw [hpq]; simp [hke])
    rw [hpq] at this
    exact this
  have hch2 : checkP (newP 27 0 [] [newP 32 0 [] [callA, aroundP (ms.map turnP) callA]]) = none := by
    refine check_ok (D := 14) (.node _ _ _ _ _ _ (by rfl) (by rfl) (by rfl) (kids1 (.node _ _ _ _ _ _ (by rfl) (by rfl) (by rfl) (kids2 (callA_wfp.mono (by omega)) (around_wfp ms hm))))) (by omega) ?_
    rw [(len_one _ _ _ _).1, (len_two _ _ _ _ _).1, around_size]
    have : callA.length = 2 := rfl
    omega
  unfold parseB
  rw [lex_of h1]
  dsimp only
  rw [hf, pList, if_neg (by omega), hcs]
  simp only [pOk]
  rw [hke, if_neg (by decide), hch2]

/-- 'a | a ', redirections, and ' | !a'. -/
theorem parse_x (ms : List Nat) : ∃ p, parseB (97 :: 32 :: 124 :: 32 :: 97 :: 32 :: (turnsSrc ms ++ [32, 124, 32, 33, 97])) = .error (108, p) := by
  obtain ⟨a1, a2, a3, more, tl, h1, i1, i2, i3, i4, i5, h4, h5⟩ := lex_pipe tail_not ms true 0
  obtain ⟨b, e, r, rfl, hb, he⟩ := h5
  obtain ⟨ts, hts⟩ : ∃ ts, a1 :: a2 :: a3 :: more = ts := ⟨_, rfl⟩
  rw [hts] at h1
  have d1 : ts.drop 0 = a1 :: a2 :: a3 :: more := hts.symm
  obtain ⟨x1, y1, d2⟩ := tk_at d1
  obtain ⟨x2, y2, d3⟩ := tk_at d2
  obtain ⟨e1, e2⟩ := ends_kind (b := b) (r := e :: r) (by omega)
  obtain ⟨n1, n2⟩ := ends_kind (b := a2) (r := a3 :: more) (by omega)
  obtain ⟨f, hf⟩ : ∃ f, 12 * ts.length + 11 = f + 15 := ⟨12 * ts.length - 4, by omega⟩
  have hC := fun g => command_a (d := 1) (i := 0 + 1 + 1) d3 i4 i5 h4 e1 e2 g
  have hd2 := (hC _ (Nat.le_refl _)).2
  have hlen := len_drop hd2
  obtain ⟨c1, _⟩ := command_a (d := 1) (ms := []) (tl := a2 :: a3 :: more) d1 i1 i2 rfl n1 n2 (f + 9) (by simp only [List.length_nil]; omega)
  obtain ⟨c2, _⟩ := hC (f + 8) (by omega)
  simp only [List.length_nil, Nat.mul_zero, Nat.add_zero, List.map_nil] at c1
  replace c1 : pCommand ts (f + 10) 1 0 = pOk callA (0 + 1) := c1
  replace c2 : pCommand ts (f + 9) 1 (0 + 1 + 1) = pOk (aroundP (ms.map turnP) callA) (0 + 1 + 1 + 1 + 2 * ms.length) := c2
  have hk2 : ∀ ks, isK ts (0 + 1) ks = ks.contains 5 := fun ks => by rw [isK_at d2, i3]
  have hk3 : ∀ ks, isK ts (0 + 1 + 1) ks = ks.contains 18 := fun ks => by rw [isK_at d3, i4]
  have hk0 : ∀ ks, isK ts 0 ks = ks.contains 18 := fun ks => by rw [isK_at d1, i1]
  obtain ⟨q, hq⟩ : ∃ q, 0 + 1 + 1 + 1 + 2 * ms.length = q := ⟨_, rfl⟩
  rw [hq] at hd2 c2 hlen
  obtain ⟨x4, y4, d5⟩ := tk_at hd2
  have hk : ∀ ks, isK ts q ks = ks.contains 5 := fun ks => by rw [isK_at hd2, hb]
  have hke : ∀ ks, isK ts (q + 1) ks = ks.contains 17 := fun ks => by rw [isK_at d5, he]
  have s2 : skP ts (0 + 1) = 0 + 1 + 1 := sk_at d2
  have sq : skP ts q = q + 1 := sk_at hd2
  have hp3 : passT ts [1] (0 + 1 + 1) = 0 + 1 + 1 := pass_no (by simp [hk3])
  have hpq : passT ts [1] (q + 1) = q + 1 := pass_no (by simp [hke])
  have hp0 : passT ts [1, 2] 0 = 0 := pass_no (by simp [hk0])
  have hform : ∀ {α : Type}, (formP ts (q + 1) : PRes α) = pErr 108 (tkAt ts (q + 1)).place := by
    intro α
    unfold formP
    rw [hke]
    rfl
  have hsim : pSimple ts (f + 7) 1 (q + 1) = pErr 108 (tkAt ts (q + 1)).place := by
    have hs : pSets ts (f + 6) 1 (q + 1) [] = pOk [] (q + 1) := by rw [pSets, hke, if_neg (by intro h; exact absurd h.1 (by decide))]
    have hi : pItems ts (f + 6) 1 (q + 1) [] [] = pOk ([], []) (q + 1) := by
      rw [pItems, show turningP ts (q + 1) = false by unfold turningP; rw [hke]; rfl, show itemP ts (q + 1) = false by unfold itemP; rw [hke]; rfl, if_neg (by simp), if_pos (.inl rfl)]
    rw [pSimple, hs]
    simp only [pOk, PRes.go]
    rw [hi]
    simp only [pOk]
    rw [if_pos (by simp)]
    exact hform
  have c3 : pCommand ts (f + 8) 1 (q + 1) = pErr 108 (tkAt ts (q + 1)).place := by
    rw [pCommand, hke, if_neg (by decide), hke, if_pos (.inl (by decide))]
    exact hsim
  have hpr : pPipeR ts (f + 11) 1 0 [] = pErr 108 (tkAt ts (q + 1)).place := by
    rw [pPipeR, c1]
    simp only [pOk, PRes.go]
    rw [hk2, if_pos (by decide), s2, hp3, pPipeR, c2]
    simp only [pOk, PRes.go]
    rw [hk, if_pos (by decide), sq, hpq, pPipeR, c3]
    rfl
  have hpp : pPipe ts (f + 12) 1 0 = pErr 108 (tkAt ts (q + 1)).place := by
    rw [pPipe, hk0, if_neg (by decide), hpr]
    rfl
  have hcs : pChains ts (f + 14) 1 0 [] = pErr 108 (tkAt ts (q + 1)).place := by
    rw [pChains, hp0, hk0, show keyAt ts 0 [99, 97, 115, 101] = false from key_no d1 (fun _ => i2) _ (by simp), if_neg (by simp), pChain, hpp]
    rfl
  refine ⟨some (tkAt ts (q + 1)).place, ?_⟩
  unfold parseB
  rw [lex_of h1]
  dsimp only
  rw [hf, pList, if_neg (by omega), hcs]
  rfl

end Go.Proofs.YtepebnblbheegaaGreatDoor
