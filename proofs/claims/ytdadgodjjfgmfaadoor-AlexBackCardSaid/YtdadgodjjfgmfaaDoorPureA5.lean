/- A source of dialect A's tokens, and what it is read as: plain functions on lists of bytes. No program stands in it. -/
import Derived.Test.YtdadgodjjfgmfaaDoorPureA4
namespace Go.Proofs.YtdadgodjjfgmfaaDoor
open Go Go.RowKit

/-- A part between its quotes. -/
def coreA (p : APart) : List UInt8 :=
  if p.kind = 3 then (if p.text = [42] then [36, 42] else 36 :: 123 :: (p.text ++ [125]))
  else if p.kind = 4 then 36 :: 40 :: (p.text ++ [41])
  else if p.kind = 5 then [36, (48 + p.num).toUInt8]
  else if p.kind = 6 then [36, 35]
  else []
/-- A part as a source has it. -/
def shownA (p : APart) : List UInt8 :=
  if p.kind = 1 then p.text
  else if p.kind = 2 then 39 :: (sglA p.text ++ [39])
  else if p.quoted = true then 34 :: (coreA p ++ [34]) else coreA p
def wordP (P : List APart) : List UInt8 := P.flatMap shownA
def tokP (t : ATok) : List UInt8 := if t.kind = 13 then wordP t.parts else opsA.getD t.kind []
/-- A source with these tokens; 'false': others stand ahead. -/
def printA : Bool → List ATok → List UInt8
  | _, [] => []
  | first, t :: ts => (if first = false ∧ t.kind ≠ 0 then [32] else []) ++ (tokP t ++ printA false ts)

/-- What of a part is compared. -/
abbrev AKey := Nat × Nat × Bool × List UInt8
def akey (p : APart) : AKey := (p.kind, p.num, p.quoted, p.text)
def pushK (acc : List AKey) (p : AKey) : List AKey :=
  if (p.1 = 1 ∨ p.1 = 2) ∧ p.2.2.2 = [] then acc
  else match acc.getLast? with
    | none => acc ++ [p]
    | some x => if (p.1 = 1 ∨ p.1 = 2) ∧ x.1 = p.1 then acc.dropLast ++ [(x.1, x.2.1, x.2.2.1, x.2.2.2 ++ p.2.2.2)] else acc ++ [p]
def foldK (acc : List AKey) (P : List APart) : List AKey := (P.map akey).foldl pushK acc
theorem foldK_append (acc : List AKey) (P Q : List APart) : foldK acc (P ++ Q) = foldK (foldK acc P) Q := by
  simp [foldK, List.map_append, List.foldl_append]
theorem foldK_one (acc : List AKey) (p : APart) : foldK acc [p] = pushK acc (akey p) := rfl
theorem foldK_cons (acc : List AKey) (p : APart) (P : List APart) : foldK acc (p :: P) = foldK (pushK acc (akey p)) P := rfl

theorem pushK_empty (acc : List AKey) : pushK acc (2, 0, false, []) = acc := by simp [pushK]
theorem pushK_two (acc : List AKey) (a b : List UInt8) : pushK (pushK acc (2, 0, false, a)) (2, 0, false, b) = pushK acc (2, 0, false, a ++ b) := by
  by_cases ha : a = []
  · subst ha
    rw [pushK_empty, List.nil_append]
  · by_cases hb : b = []
    · subst hb
      rw [pushK_empty, List.append_nil]
    · have hab : ¬ a ++ b = [] := by simp [ha]
      unfold pushK
      simp only [ha, hb, hab, and_false, if_false]
      cases hl : acc.getLast? with
      | none => simp
      | some x =>
        obtain ⟨Q, rfl⟩ := List.getLast?_eq_some_iff.1 hl
        by_cases hx : x.1 = 2
        · simp [hx]
        · simp [hx]

/-- Parts that are dead, and nothing else. -/
def PlainDead (D : List APart) : Prop := ∀ p ∈ D, p.kind = 2 ∧ p.num = 0 ∧ p.quoted = false
theorem fold_dead : ∀ (D : List APart) (acc : List AKey), PlainDead D → foldK acc D = pushK acc (2, 0, false, deadText D)
  | [], acc, _ => (pushK_empty acc).symm
  | p :: D, acc, h => by
    obtain ⟨h1, h2, h3⟩ := h p (by simp)
    rw [foldK_cons, fold_dead D _ (fun q hq => h q (by simp [hq])), deadText, ← pushK_two]
    congr 1
    unfold akey
    rw [h1, h2, h3]

/-- Bytes behind a dollar that make it more than a dollar. -/
def SpecialA (c : UInt8) : Prop := isBegin c = true ∨ c.toNat = 123 ∨ c.toNat = 42 ∨ (49 ≤ c.toNat ∧ c.toNat ≤ 57) ∨ c.toNat = 35 ∨ c.toNat = 40
def PlainA (c : UInt8) : Prop := endsA c = false ∧ c.toNat ≠ 92 ∧ c.toNat ≠ 39 ∧ c.toNat ≠ 34
/-- A text that stands as it is, ahead of a byte. -/
def TextV : List UInt8 → UInt8 → Prop
  | [], _ => True
  | c :: l, n => PlainA c ∧ (c.toNat = 36 → ¬ SpecialA (l.headD n)) ∧ TextV l n
/-- What is between dollar brackets. -/
def ScanV (S : List UInt8) : Prop := ∀ (L : List UInt8) (k : Nat) (tail : List UInt8) (f : Nat), L.drop k = S ++ 41 :: tail → L.length - k < f → scanA L f false 0 k = some (k + S.length)

def PartV (p : APart) : Prop :=
  (p.kind = 1 ∧ p.num = 0 ∧ p.quoted = false ∧ p.text ≠ [] ∧ ∃ n, TextV p.text n) ∨
  (p.kind = 2 ∧ p.num = 0 ∧ p.quoted = false) ∨
  (p.kind = 3 ∧ p.num = 0 ∧ (p.text = [42] ∨ NameBytes p.text ∧ p.text.length ≤ 20)) ∨
  (p.kind = 4 ∧ p.num = 0 ∧ ScanV p.text) ∨
  (p.kind = 5 ∧ 1 ≤ p.num ∧ p.num ≤ 9 ∧ p.text = []) ∨
  (p.kind = 6 ∧ p.num = 0 ∧ p.text = [])
/-- No two texts stand behind one another. -/
def NoTwo : List APart → Prop
  | [] => True
  | [_] => True
  | p :: q :: P => ¬ (p.kind = 1 ∧ q.kind = 1) ∧ NoTwo (q :: P)

/-- A text between single quotes, read: dead parts with that text. -/
theorem word_single2 (L : List UInt8) (tail : List UInt8) : ∀ (l acc : List UInt8) (f i : Nat) (P : List APart) (j : Bool), (∀ x ∈ acc, x.toNat ≠ 39) → L.length - i < f → L.drop i = 39 :: (acc ++ (sglA l ++ 39 :: tail)) →
    ∃ f' D, wordA L f i P j = wordA L f' (i + acc.length + (sglA l).length + 2) (P ++ D) false ∧ L.length - (i + acc.length + (sglA l).length + 2) < f' ∧ PlainDead D ∧ deadText D = acc ++ l := by
  intro l
  induction l with
  | nil =>
    intro acc f i P j hacc hf hd
    obtain ⟨f, rfl⟩ : ∃ g, f = g + 1 := ⟨f - 1, by omega⟩
    obtain ⟨h1, h2, h3⟩ := drop_head hd
    have hx : idxA 39 (L.drop (i + 1)) = some acc.length := by rw [h3]; exact idxA_of acc tail 39 39 rfl hacc
    have h4 := drop_more h3
    obtain ⟨h5, h6, h7⟩ := drop_head h4
    refine ⟨f, [⟨2, i, 0, false, subs L (i + 1 : Nat) (i + 1 + acc.length : Nat)⟩], ?_, ?_, ?_, ?_⟩
    · rw [wordA, if_neg (by omega), h2, if_neg (by decide), if_neg (by decide), if_pos (by decide), hx]
      rfl
    · simp only [sglA, List.length_nil]
      omega
    · intro p hp
      rw [List.mem_singleton] at hp
      subst hp
      exact ⟨rfl, rfl, rfl⟩
    · rw [subs_of h3]
      simp [deadText]
  | cons c l ih =>
    intro acc f i P j hacc hf hd
    rw [sglA] at hd
    by_cases hc : c.toNat = 39
    · obtain rfl : c = 39 := UInt8.toNat_inj.1 hc
      rw [if_pos (by decide)] at hd
      obtain ⟨f, rfl⟩ : ∃ g, f = g + 1 := ⟨f - 1, by omega⟩
      obtain ⟨h1, h2, h3⟩ := drop_head hd
      have hx : idxA 39 (L.drop (i + 1)) = some acc.length := by rw [h3]; exact idxA_of acc _ 39 39 rfl hacc
      have h4 := drop_more h3
      simp only [List.cons_append] at h4
      obtain ⟨h5, h6, h7⟩ := drop_head h4
      obtain ⟨h8, h9, h10⟩ := drop_head h7
      obtain ⟨h11, h12, h13⟩ := drop_head h10
      obtain ⟨f, rfl⟩ : ∃ g, f = g + 1 := ⟨f - 1, by omega⟩
      obtain ⟨f', D, e1, e2, e3, e4⟩ := ih [] f (i + acc.length + 4) (P ++ [⟨2, i, 0, false, subs L (i + 1 : Nat) (i + 1 + acc.length : Nat)⟩] ++ [⟨2, i + acc.length + 2, 0, false, [39]⟩]) false (fun x hx => by cases hx) (by omega) (by
        rw [show i + acc.length + 4 = i + 1 + acc.length + 1 + 1 + 1 from by omega, h13]
        rfl)
      have hlen : i + acc.length + (sglA (39 :: l)).length + 2 = i + acc.length + 4 + ([] : List UInt8).length + (sglA l).length + 2 := by
        rw [sglA, if_pos (by decide)]
        simp only [List.length_cons, List.length_nil]
        omega
      refine ⟨f', ⟨2, i, 0, false, subs L (i + 1 : Nat) (i + 1 + acc.length : Nat)⟩ :: ⟨2, i + acc.length + 2, 0, false, [39]⟩ :: D, ?_, ?_, ?_, ?_⟩
      · rw [hlen, show P ++ ⟨2, i, 0, false, subs L (i + 1 : Nat) (i + 1 + acc.length : Nat)⟩ :: ⟨2, i + acc.length + 2, 0, false, [39]⟩ :: D = P ++ [⟨2, i, 0, false, subs L (i + 1 : Nat) (i + 1 + acc.length : Nat)⟩] ++ [⟨2, i + acc.length + 2, 0, false, [39]⟩] ++ D from by simp, ← e1, wordA, if_neg (by omega), h2, if_neg (by decide), if_neg (by decide), if_pos (by decide), hx]
        show wordA L (f + 1) (i + acc.length + 2) _ false = _
        have g1 : L.getD (i + acc.length + 2) 0 = 92 := by rw [← h9]; congr 1; omega
        have g2 : L.getD (i + acc.length + 2 + 1) 0 = 39 := by rw [← h12]; congr 1; omega
        rw [wordA, if_neg (by omega), g1, if_neg (by decide), if_pos (by decide), if_pos (by omega), g2, show min (i + acc.length + 2 + 2) L.length = i + acc.length + 4 from by omega]
        rfl
      · rw [hlen]
        exact e2
      · intro p hp
        simp only [List.mem_cons] at hp
        rcases hp with rfl | rfl | hp
        · exact ⟨rfl, rfl, rfl⟩
        · exact ⟨rfl, rfl, rfl⟩
        · exact e3 p hp
      · rw [deadText, deadText, e4, subs_of h3]
        simp
    · rw [if_neg hc] at hd
      obtain ⟨f', D, e1, e2, e3, e4⟩ := ih (acc ++ [c]) f i P j (by
        intro x hx
        rw [List.mem_append, List.mem_singleton] at hx
        rcases hx with hx | rfl
        · exact hacc x hx
        · exact hc) hf (by rw [hd]; simp)
      have hlen : i + acc.length + (sglA (c :: l)).length + 2 = i + (acc ++ [c]).length + (sglA l).length + 2 := by
        rw [sglA, if_neg hc]
        simp only [List.length_append, List.length_cons, List.length_nil]
        omega
      rw [hlen]
      exact ⟨f', D, e1, e2, e3, by rw [e4]; simp⟩

theorem dollarA_bare (L : List UInt8) (q : Bool) (i : Nat) (P : List APart) (j : Bool) (h : ¬ SpecialA (L.getD (i + 1) 0)) : dollarA L q i P j = .ok (i + 1, bytesA P j (if q then 2 else 1) i [36], true) := by
  have hr : runName (L.drop (i + 1)) = [] := by
    cases hd : L.drop (i + 1) with
    | nil => rfl
    | cons c m =>
      obtain ⟨h1, h2, h3⟩ := drop_head hd
      rw [h2] at h
      rw [runName, if_neg (fun e => h (.inl e))]
  unfold SpecialA at h
  unfold dollarA
  simp only [hr]
  rw [if_neg (by simp), if_neg (by omega), if_neg (by omega), if_neg (by omega), if_neg (by omega), if_neg (by omega)]

theorem word_byte (L : List UInt8) (f i : Nat) (P : List APart) (j : Bool) (hi : i < L.length) (hp : PlainA (L.getD i 0)) (hs : (L.getD i 0).toNat = 36 → ¬ SpecialA (L.getD (i + 1) 0)) :
    wordA L (f + 1) i P j = wordA L f (i + 1) (bytesA P j 1 i [L.getD i 0]) true := by
  obtain ⟨h1, h2, h3, h4⟩ := hp
  rw [wordA, if_neg (by omega), if_neg (by rw [h1]; decide), if_neg h2, if_neg h3, if_neg h4]
  by_cases h36 : (L.getD i 0).toNat = 36
  · rw [if_pos h36, dollarA_bare L false i P j (hs h36), show L.getD i 0 = 36 from UInt8.toNat_inj.1 h36]
    rfl
  · rw [if_neg h36]

theorem bytesA_join1 (P : List APart) (a i : Nat) (acc s : List UInt8) : bytesA (P ++ [⟨1, a, 0, false, acc⟩]) true 1 i s = P ++ [⟨1, a, 0, false, acc ++ s⟩] := by
  unfold bytesA
  rw [List.getLast?_concat]
  simp

theorem getD_head (L : List UInt8) (i : Nat) : L.getD i 0 = (L.drop i).headD 0 := by
  rw [List.getD_eq_getElem?_getD, List.headD_eq_head?_getD, List.head?_drop]

theorem headD_append (l m : List UInt8) (n : UInt8) : (l ++ m).headD n = l.headD (m.headD n) := by
  cases l <;> rfl

/-- A text as it is, read behind a part of its kind. -/
theorem word_text (L : List UInt8) (tail : List UInt8) (a : Nat) (P : List APart) : ∀ (l acc : List UInt8) (f i : Nat), L.length - i < f → L.drop i = l ++ tail → TextV l (tail.headD 0) →
    ∃ f', wordA L f i (P ++ [⟨1, a, 0, false, acc⟩]) true = wordA L f' (i + l.length) (P ++ [⟨1, a, 0, false, acc ++ l⟩]) true ∧ L.length - (i + l.length) < f' := by
  intro l
  induction l with
  | nil => intro acc f i hf hd _; exact ⟨f, by simp, by simpa using hf⟩
  | cons c l ih =>
    intro acc f i hf hd hv
    obtain ⟨f, rfl⟩ : ∃ g, f = g + 1 := ⟨f - 1, by omega⟩
    obtain ⟨h1, h2, h3⟩ := drop_head hd
    obtain ⟨v1, v2, v3⟩ := hv
    have hn : L.getD (i + 1) 0 = l.headD (tail.headD 0) := by
      rw [getD_head, h3]
      exact headD_append l tail 0
    obtain ⟨f', e1, e2⟩ := ih (acc ++ [c]) f (i + 1) (by omega) h3 v3
    refine ⟨f', ?_, by simp only [List.length_cons]; omega⟩
    rw [word_byte L f i _ _ h1 (by rw [h2]; exact v1) (by rw [h2, hn]; exact v2), h2, bytesA_join1, e1]
    rw [show i + 1 + l.length = i + (c :: l).length from by simp only [List.length_cons]; omega]
    simp

/-- A text as it is, read from its beginning. -/
theorem word_text0 (L : List UInt8) (tail l : List UInt8) (f i : Nat) (P : List APart) (hne : l ≠ []) (hf : L.length - i < f) (hd : L.drop i = l ++ tail) (hv : TextV l (tail.headD 0)) :
    ∃ f', wordA L f i P false = wordA L f' (i + l.length) (P ++ [⟨1, i, 0, false, l⟩]) true ∧ L.length - (i + l.length) < f' := by
  cases l with
  | nil => exact absurd rfl hne
  | cons c l =>
    obtain ⟨f, rfl⟩ : ∃ g, f = g + 1 := ⟨f - 1, by omega⟩
    obtain ⟨h1, h2, h3⟩ := drop_head hd
    obtain ⟨v1, v2, v3⟩ := hv
    have hn : L.getD (i + 1) 0 = l.headD (tail.headD 0) := by
      rw [getD_head, h3]
      exact headD_append l tail 0
    obtain ⟨f', e1, e2⟩ := word_text L tail i P l [c] f (i + 1) (by omega) h3 v3
    have hb : bytesA P false 1 i [c] = P ++ [⟨1, i, 0, false, [c]⟩] := by
      unfold bytesA
      split <;> simp
    refine ⟨f', ?_, by simp only [List.length_cons]; omega⟩
    rw [word_byte L f i _ _ h1 (by rw [h2]; exact v1) (by rw [h2, hn]; exact v2), h2, hb, e1]
    rw [show i + 1 + l.length = i + (c :: l).length from by simp only [List.length_cons]; omega]
    rfl

theorem runName_no (c : UInt8) (m : List UInt8) (h : isBegin c = false) : runName (c :: m) = [] := by
  rw [runName, if_neg (by rw [h]; decide)]

/-- What begins with a dollar, read. -/
theorem dollar_read (L tail : List UInt8) (q : Bool) (i : Nat) (P : List APart) (j : Bool) (p : APart) (hp : PartV p) (h1 : p.kind ≠ 1) (h2 : p.kind ≠ 2) (hd : L.drop i = coreA p ++ tail) :
    dollarA L q i P j = .ok (i + (coreA p).length, P ++ [⟨p.kind, i, p.num, q, p.text⟩], false) := by
  rcases hp with ⟨e, _⟩ | ⟨e, _⟩ | ⟨e, hn, ht⟩ | ⟨e, hn, ht⟩ | ⟨e, hn1, hn2, ht⟩ | ⟨e, hn, ht⟩
  · exact absurd e h1
  · exact absurd e h2
  · unfold coreA at hd ⊢
    rw [if_pos e] at hd ⊢
    by_cases hs : p.text = [42]
    · rw [if_pos hs] at hd ⊢
      obtain ⟨a1, a2, a3⟩ := drop_head hd
      obtain ⟨b1, b2, b3⟩ := drop_head a3
      unfold dollarA
      simp only [a3, b2]
      rw [show ((List.append [42] tail : List UInt8)) = 42 :: tail from rfl, runName_no 42 tail (by decide)]
      rw [if_neg (by simp), if_neg (by decide), if_pos (by decide), e, hn, hs]
      rfl
    · rw [if_neg hs] at hd ⊢
      obtain ⟨hb, hl⟩ := ht.resolve_left hs
      obtain ⟨a1, a2, a3⟩ := drop_head hd
      rw [dollarA_brace L q i P j p.text tail hb (by rw [a3]; simp), if_pos hl, e, hn]
      congr 2
      simp only [List.length_cons, List.length_append, List.length_nil]
      omega
  · unfold coreA at hd ⊢
    rw [if_neg (by omega), if_pos e] at hd ⊢
    obtain ⟨a1, a2, a3⟩ := drop_head hd
    obtain ⟨b1, b2, b3⟩ := drop_head a3
    have hsc := ht L (i + 2) tail (L.length + 1) (by rw [b3]; simp) (by omega)
    have hsub : subs L ((i : Int) + 2) ((i + 2 + p.text.length : Nat) : Int) = p.text := by
      have h := subs_of (L := L) (a := p.text) (m := 41 :: tail) (i := i + 2) (by rw [b3]; simp)
      exact h
    unfold dollarA
    simp only [a3, b2, hsc, hsub]
    rw [show (List.append (40 :: (p.text ++ [41])) tail : List UInt8) = 40 :: (p.text ++ [41] ++ tail) from rfl, runName_no 40 _ (by decide)]
    rw [if_neg (by simp), if_neg (by decide), if_neg (by decide), if_neg (by decide), if_neg (by decide), if_pos (by decide), e, hn]
    congr 2
    simp only [List.length_cons, List.length_append, List.length_nil]
    omega
  · unfold coreA at hd ⊢
    rw [if_neg (by omega), if_neg (by omega), if_pos e] at hd ⊢
    obtain ⟨a1, a2, a3⟩ := drop_head hd
    obtain ⟨b1, b2, b3⟩ := drop_head a3
    have hc : ((48 + p.num).toUInt8).toNat = 48 + p.num := by rw [Nat.toUInt8, UInt8.toNat_ofNat']; omega
    have hnb : isBegin ((48 + p.num).toUInt8) = false := by
      unfold isBegin isLetter
      rw [hc]
      simp
      omega
    unfold dollarA
    simp only [a3, b2]
    rw [show (List.append [(48 + p.num).toUInt8] tail : List UInt8) = (48 + p.num).toUInt8 :: tail from rfl, runName_no _ tail hnb, hc]
    rw [if_neg (by simp), if_neg (by omega), if_neg (by omega), if_pos (by omega), e, ht]
    simp
  · unfold coreA at hd ⊢
    rw [if_neg (by omega), if_neg (by omega), if_neg (by omega), if_pos e] at hd ⊢
    obtain ⟨a1, a2, a3⟩ := drop_head hd
    obtain ⟨b1, b2, b3⟩ := drop_head a3
    unfold dollarA
    simp only [a3, b2]
    rw [show (List.append [35] tail : List UInt8) = 35 :: tail from rfl, runName_no 35 tail (by decide)]
    rw [if_neg (by simp), if_neg (by decide), if_neg (by decide), if_neg (by decide), if_pos (by decide), e, hn, ht]
    rfl

theorem core_head (p : APart) (hp : PartV p) (h1 : p.kind ≠ 1) (h2 : p.kind ≠ 2) : ∃ m, coreA p = 36 :: m := by
  rcases hp with ⟨e, _⟩ | ⟨e, _⟩ | ⟨e, _⟩ | ⟨e, _⟩ | ⟨e, _⟩ | ⟨e, _⟩
  · exact absurd e h1
  · exact absurd e h2
  · unfold coreA
    rw [if_pos e]
    split <;> exact ⟨_, rfl⟩
  · unfold coreA
    rw [if_neg (by omega), if_pos e]
    exact ⟨_, rfl⟩
  · unfold coreA
    rw [if_neg (by omega), if_neg (by omega), if_pos e]
    exact ⟨_, rfl⟩
  · unfold coreA
    rw [if_neg (by omega), if_neg (by omega), if_neg (by omega), if_pos e]
    exact ⟨_, rfl⟩

/-- A part that is no text as it is, read. -/
theorem part_read (L tail : List UInt8) (f i : Nat) (P : List APart) (j : Bool) (p : APart) (hp : PartV p) (h1 : p.kind ≠ 1) (hf : L.length - i < f) (hd : L.drop i = shownA p ++ tail) :
    ∃ f' D, wordA L f i P j = wordA L f' (i + (shownA p).length) (P ++ D) false ∧ L.length - (i + (shownA p).length) < f' ∧ ∀ acc, foldK acc D = pushK acc (akey p) := by
  unfold shownA at hd ⊢
  rw [if_neg h1] at hd ⊢
  by_cases h2 : p.kind = 2
  · rw [if_pos h2] at hd ⊢
    obtain ⟨f', D, e1, e2, e3, e4⟩ := word_single2 L tail p.text [] f i P j (fun x hx => by cases hx) hf (by rw [hd]; simp)
    have hlen : i + ([] : List UInt8).length + (sglA p.text).length + 2 = i + (39 :: (sglA p.text ++ [39])).length := by
      simp only [List.length_cons, List.length_append, List.length_nil]
      omega
    rw [hlen] at e1 e2
    refine ⟨f', D, e1, e2, fun acc => ?_⟩
    rw [fold_dead D acc e3, e4]
    rcases hp with ⟨e, _⟩ | ⟨e, hn, hq⟩ | ⟨e, _⟩ | ⟨e, _⟩ | ⟨e, _⟩ | ⟨e, _⟩
    · exact absurd e h1
    · unfold akey
      rw [h2, hn, hq]
      rfl
    all_goals omega
  · rw [if_neg h2] at hd ⊢
    obtain ⟨m, hm⟩ := core_head p hp h1 h2
    obtain ⟨f, rfl⟩ : ∃ g, f = g + 1 := ⟨f - 1, by omega⟩
    cases hq : p.quoted with
    | true =>
      rw [hq, if_pos rfl] at hd
      rw [if_pos rfl]
      obtain ⟨a1, a2, a3⟩ := drop_head hd
      have a3' : L.drop (i + 1) = coreA p ++ (34 :: tail) := by rw [a3]; simp
      have hdr := dollar_read L (34 :: tail) true (i + 1) (P ++ [⟨2, i, 0, false, []⟩]) true p hp h1 h2 a3'
      have b0 := a3'
      rw [hm] at b0
      obtain ⟨b1, b2, -⟩ := drop_head b0
      have c0 := drop_more a3'
      obtain ⟨c1, c2, -⟩ := drop_head c0
      have hdb : doubleA L i (L.length + 1) (i + 1) (P ++ [⟨2, i, 0, false, []⟩]) true = .ok (i + 1 + (coreA p).length + 1, P ++ [⟨2, i, 0, false, []⟩] ++ [⟨p.kind, i + 1, p.num, true, p.text⟩], false) := by
        obtain ⟨n, hn⟩ : ∃ n, L.length = n + 1 := ⟨L.length - 1, by omega⟩
        rw [show doubleA L i (L.length + 1) (i + 1) (P ++ [⟨2, i, 0, false, []⟩]) true = doubleA L i (n + 1 + 1) (i + 1) (P ++ [⟨2, i, 0, false, []⟩]) true from by rw [hn]]
        rw [doubleA, if_neg (by omega), b2, if_neg (by decide), if_neg (fun h => absurd h.1 (by decide)), if_pos (by decide), hdr]
        show doubleA L i (n + 1) (i + 1 + (coreA p).length) _ false = _
        rw [doubleA, if_neg (by omega), c2, if_pos (by decide)]
      refine ⟨f, [⟨2, i, 0, false, []⟩, ⟨p.kind, i + 1, p.num, true, p.text⟩], ?_, ?_, fun acc => ?_⟩
      · rw [wordA, if_neg (by omega), a2, if_neg (by decide), if_neg (by decide), if_neg (by decide), if_pos (by decide), hdb]
        show wordA L f _ _ false = _
        rw [show i + 1 + (coreA p).length + 1 = i + (34 :: (coreA p ++ [34])).length from by simp only [List.length_cons, List.length_append, List.length_nil]; omega]
        simp
      · simp only [List.length_cons, List.length_append, List.length_nil]
        omega
      · rw [foldK_cons, foldK_one]
        show pushK (pushK acc (2, 0, false, [])) (p.kind, p.num, true, p.text) = _
        rw [pushK_empty]
        unfold akey
        rw [hq]
    | false =>
      rw [hq, if_neg (by decide)] at hd
      rw [if_neg (by decide)]
      have hdr := dollar_read L tail false i P j p hp h1 h2 hd
      have b0 := hd
      rw [hm] at b0
      obtain ⟨b1, b2, -⟩ := drop_head b0
      refine ⟨f, [⟨p.kind, i, p.num, false, p.text⟩], ?_, ?_, fun acc => ?_⟩
      · rw [wordA, if_neg (by omega), b2, if_neg (by decide), if_neg (by decide), if_neg (by decide), if_neg (by decide), if_pos (by decide), hdr]
      · rw [hm]
        simp only [List.length_cons]
        omega
      · rw [foldK_one]
        unfold akey
        rw [hq]

/-- The first byte of what a part is shown as; 0: there is none. -/
theorem shown_head (p : APart) (hp : PartV p) (h1 : p.kind ≠ 1) : ∃ c m, shownA p = c :: m ∧ (c = 39 ∨ c = 34 ∨ c = 36) := by
  unfold shownA
  rw [if_neg h1]
  split
  · exact ⟨_, _, rfl, .inl rfl⟩
  · rename_i h2
    split
    · exact ⟨_, _, rfl, .inr (.inl rfl)⟩
    · obtain ⟨m, hm⟩ := core_head p hp h1 h2
      exact ⟨_, m, hm, .inr (.inr rfl)⟩
theorem special_not (c : UInt8) (h : c = 39 ∨ c = 34 ∨ c = 36 ∨ c = 32 ∨ c = 0) : ¬ SpecialA c := by
  unfold SpecialA
  rcases h with rfl | rfl | rfl | rfl | rfl <;> decide

theorem TextV.next {l : List UInt8} : ∀ {n m : UInt8}, TextV l n → ¬ SpecialA m → TextV l m := by
  induction l with
  | nil => intro n m _ _; exact trivial
  | cons c l ih =>
    intro n m h hm
    refine ⟨h.1, fun e => ?_, ih h.2.2 hm⟩
    cases l with
    | nil => exact hm
    | cons d l => exact h.2.1 e

/-- What stands behind a word: nothing, or a blank. -/
def TailOk (tail : List UInt8) : Prop := tail = [] ∨ ∃ m, tail = 32 :: m

theorem word_stop (L tail : List UInt8) (f i : Nat) (P : List APart) (j : Bool) (hd : L.drop i = tail) (ht : TailOk tail) (hf : L.length - i < f) : wordA L f i P j = .ok (i, P) := by
  obtain ⟨f, rfl⟩ : ∃ g, f = g + 1 := ⟨f - 1, by omega⟩
  rcases ht with rfl | ⟨m, rfl⟩
  · have := congrArg List.length hd
    rw [List.length_drop] at this
    simp only [List.length_nil] at this
    rw [wordA, if_pos (by omega)]
  · exact word_end_blank L f i P j m hd

/-- A word's parts, read. -/
theorem word_read (L tail : List UInt8) (ht : TailOk tail) : ∀ (Ps P : List APart) (f i : Nat) (j : Bool), (∀ p ∈ Ps, PartV p) → NoTwo Ps → (j = true → ∀ p, Ps.head? = some p → p.kind ≠ 1) → L.drop i = wordP Ps ++ tail → L.length - i < f →
    ∃ Q, wordA L f i P j = .ok (i + (wordP Ps).length, P ++ Q) ∧ ∀ acc, foldK acc Q = foldK acc Ps := by
  intro Ps
  induction Ps with
  | nil =>
    intro P f i j _ _ _ hd hf
    exact ⟨[], by rw [word_stop L tail f i P j (by simpa [wordP] using hd) ht hf]; simp [wordP], fun acc => rfl⟩
  | cons p Ps ih =>
    intro P f i j hV hN hj hd hf
    have hp := hV p (by simp)
    have hw : wordP (p :: Ps) = shownA p ++ wordP Ps := by simp [wordP]
    rw [hw, List.append_assoc] at hd
    have hN' : NoTwo Ps := by
      cases Ps with
      | nil => trivial
      | cons q Ps => exact hN.2
    have hd2 := drop_more hd
    by_cases h1 : p.kind = 1
    · have hnext : ∀ q, Ps.head? = some q → q.kind ≠ 1 := by
        intro q hq
        cases Ps with
        | nil => cases hq
        | cons r Ps =>
          cases hq
          exact fun e => hN.1 ⟨h1, e⟩
      have hjf : j = false := by
        cases j with
        | false => rfl
        | true => exact absurd h1 (hj rfl p rfl)
      subst hjf
      rcases hp with ⟨_, hn, hq, hne, n, hv⟩ | ⟨e, _⟩ | ⟨e, _⟩ | ⟨e, _⟩ | ⟨e, _⟩ | ⟨e, _⟩
      · have hs : shownA p = p.text := by unfold shownA; rw [if_pos h1]
        rw [hs] at hd hd2
        have hb : ¬ SpecialA ((wordP Ps ++ tail).headD 0) := by
          cases hPs : Ps with
          | nil =>
            rcases ht with rfl | ⟨m, rfl⟩
            · exact special_not _ (by simp [wordP])
            · exact special_not _ (by simp [wordP])
          | cons r Rs =>
            obtain ⟨c, m, e1, e2⟩ := shown_head r (hV r (by simp [hPs])) (hnext r (by rw [hPs]; rfl))
            have : (wordP (r :: Rs) ++ tail).headD 0 = c := by simp [wordP, e1]
            rw [this]
            exact special_not c (by rcases e2 with h | h | h <;> simp [h])
        obtain ⟨f', e1, e2⟩ := word_text0 L (wordP Ps ++ tail) p.text f i P hne hf hd (hv.next hb)
        obtain ⟨Q, e3, e4⟩ := ih (P ++ [⟨1, i, 0, false, p.text⟩]) f' (i + p.text.length) true (fun q hq => hV q (by simp [hq])) hN' (fun _ => hnext) hd2 e2
        refine ⟨⟨1, i, 0, false, p.text⟩ :: Q, ?_, fun acc => ?_⟩
        · rw [e1, e3, hw, hs, List.length_append, Nat.add_assoc]
          simp
        · rw [foldK_cons, foldK_cons, e4]
          unfold akey
          rw [h1, hn, hq]
      all_goals omega
    · obtain ⟨f', D, e1, e2, e3⟩ := part_read L (wordP Ps ++ tail) f i P j p hp h1 hf hd
      obtain ⟨Q, e4, e5⟩ := ih (P ++ D) f' (i + (shownA p).length) false (fun q hq => hV q (by simp [hq])) hN' (fun e => by cases e) hd2 e2
      refine ⟨D ++ Q, ?_, fun acc => ?_⟩
      · rw [e1, e4, hw, List.length_append, Nat.add_assoc]
        simp
      · rw [foldK_append, e3, e5, foldK_cons]

end Go.Proofs.YtdadgodjjfgmfaaDoor
