/- Dialect A: quoted texts and names. No program stands in it. -/
import Derived.Test.YtdadgodjjfgmfaaDoorPureA2
namespace Go.Proofs.YtdadgodjjfgmfaaDoor
open Go Go.RowKit

/-- Between single quotes, each quote left and taken up again. -/
def sglA : List UInt8 → List UInt8
  | [] => []
  | c :: l => if c.toNat = 39 then 39 :: 92 :: 39 :: 39 :: sglA l else c :: sglA l
/-- Between double quotes. -/
def dblA : List UInt8 → List UInt8
  | [] => []
  | c :: l => if [36, 34, 92].contains c.toNat then 92 :: c :: dblA l else c :: dblA l
/-- A backslash ahead of each byte. -/
def bckA : List UInt8 → List UInt8
  | [] => []
  | c :: l => 92 :: c :: bckA l

theorem sglA_append (l m : List UInt8) : sglA (l ++ m) = sglA l ++ sglA m := by
  induction l with
  | nil => rfl
  | cons c l ih => rw [List.cons_append, sglA, sglA, ih]; split <;> rfl
theorem dblA_append (l m : List UInt8) : dblA (l ++ m) = dblA l ++ dblA m := by
  induction l with
  | nil => rfl
  | cons c l ih => rw [List.cons_append, dblA, dblA, ih]; split <;> rfl
theorem bckA_append (l m : List UInt8) : bckA (l ++ m) = bckA l ++ bckA m := by
  induction l with
  | nil => rfl
  | cons c l ih => rw [List.cons_append, bckA, bckA, ih]; rfl
theorem sglA_length (l : List UInt8) : (sglA l).length ≤ 4 * l.length := by
  induction l with
  | nil => exact Nat.le_refl _
  | cons c l ih => rw [sglA]; split <;> simp only [List.length_cons] <;> omega
theorem dblA_length (l : List UInt8) : (dblA l).length ≤ 2 * l.length := by
  induction l with
  | nil => exact Nat.le_refl _
  | cons c l ih => rw [dblA]; split <;> simp only [List.length_cons] <;> omega
theorem bckA_length (l : List UInt8) : (bckA l).length = 2 * l.length := by
  induction l with
  | nil => rfl
  | cons c l ih => rw [bckA]; simp only [List.length_cons]; omega

theorem drop_head {L : List UInt8} {i : Nat} {c : UInt8} {m : List UInt8} (h : L.drop i = c :: m) : i < L.length ∧ L.getD i 0 = c ∧ L.drop (i + 1) = m := by
  have hlt : i < L.length := by
    apply Classical.byContradiction
    intro hge
    rw [List.drop_eq_nil_of_le (by omega)] at h
    cases h
  rw [List.drop_eq_getElem_cons hlt] at h
  injection h with h1 h2
  refine ⟨hlt, ?_, h2⟩
  rw [List.getD_eq_getElem?_getD, List.getElem?_eq_getElem hlt, h1]
  rfl
theorem drop_more {L a m : List UInt8} {i : Nat} (h : L.drop i = a ++ m) : L.drop (i + a.length) = m := by
  rw [← List.drop_drop, h, List.drop_left]
theorem subs_of {L a m : List UInt8} {i : Nat} (h : L.drop i = a ++ m) : subs L i (i + a.length : Nat) = a := by
  unfold subs
  rw [show ((i : Nat) : Int).toNat = i from rfl, show ((i + a.length : Nat) : Int).toNat = i + a.length from rfl, List.drop_take, h, show i + a.length - i = a.length from by omega, List.take_left]

theorem idxA_of (a m : List UInt8) (b : Nat) (c : UInt8) (hc : c.toNat = b) (ha : ∀ x ∈ a, x.toNat ≠ b) : idxA b (a ++ c :: m) = some a.length := by
  induction a with
  | nil => rw [List.nil_append, idxA, if_pos hc]; rfl
  | cons x a ih =>
    rw [List.cons_append, idxA, if_neg (ha x (by simp)), ih (fun y hy => ha y (by simp [hy]))]
    rfl

/-- Parts that are dead, and what they are together. -/
def deadText : List APart → List UInt8
  | [] => []
  | p :: P => p.text ++ deadText P
def AllDead (P : List APart) : Prop := ∀ p ∈ P, p.kind = 2
theorem deadText_append (P Q : List APart) : deadText (P ++ Q) = deadText P ++ deadText Q := by
  induction P with
  | nil => rfl
  | cons p P ih => rw [List.cons_append, deadText, deadText, ih, List.append_assoc]

theorem word_single (L : List UInt8) (tail : List UInt8) : ∀ (l acc : List UInt8) (f i : Nat) (P : List APart) (j : Bool), (∀ x ∈ acc, x.toNat ≠ 39) → L.length - i < f → L.drop i = 39 :: (acc ++ (sglA l ++ 39 :: tail)) → AllDead P →
    ∃ f' i' Q, wordA L f i P j = wordA L f' i' Q false ∧ L.length - i' < f' ∧ L.drop i' = tail ∧ AllDead Q ∧ deadText Q = deadText P ++ (acc ++ l) ∧ i' = i + acc.length + (sglA l).length + 2 := by
  intro l
  induction l with
  | nil =>
    intro acc f i P j hacc hf hd hP
    obtain ⟨f, rfl⟩ : ∃ g, f = g + 1 := ⟨f - 1, by omega⟩
    obtain ⟨h1, h2, h3⟩ := drop_head hd
    have hx : idxA 39 (L.drop (i + 1)) = some acc.length := by rw [h3]; exact idxA_of acc tail 39 39 rfl hacc
    have h4 := drop_more h3
    obtain ⟨h5, h6, h7⟩ := drop_head h4
    refine ⟨f, i + acc.length + 2, P ++ [⟨2, i, 0, false, subs L (i + 1 : Nat) (i + 1 + acc.length : Nat)⟩], ?_, ?_, ?_, ?_, ?_, ?_⟩
    · rw [wordA, if_neg (by omega), h2, if_neg (by decide), if_neg (by decide), if_pos (by decide), hx]
      rfl
    · omega
    · rw [← h7]
      congr 1
      omega
    · intro p hp
      rw [List.mem_append, List.mem_singleton] at hp
      rcases hp with hp | rfl
      · exact hP p hp
      · rfl
    · rw [deadText_append, subs_of h3]
      simp [deadText]
    · simp [sglA]
  | cons c l ih =>
    intro acc f i P j hacc hf hd hP
    rw [sglA] at hd
    by_cases hc : c.toNat = 39
    · obtain rfl : c = 39 := UInt8.toNat_inj.1 hc
      rw [if_pos (by decide)] at hd
      obtain ⟨f, rfl⟩ : ∃ g, f = g + 1 := ⟨f - 1, by omega⟩
      obtain ⟨h1, h2, h3⟩ := drop_head hd
      have hx : idxA 39 (L.drop (i + 1)) = some acc.length := by rw [h3]; exact idxA_of acc _ 39 39 rfl hacc
      have h4 := drop_more h3
      simp only [List.cons_append] at h4
      obtain ⟨h5, h6, h7⟩ := drop_head h4
      obtain ⟨h8, h9, h10⟩ := drop_head h7
      obtain ⟨h11, h12, h13⟩ := drop_head h10
      obtain ⟨f, rfl⟩ : ∃ g, f = g + 1 := ⟨f - 1, by omega⟩
      have hP2 : AllDead (P ++ [⟨2, i, 0, false, subs L (i + 1 : Nat) (i + 1 + acc.length : Nat)⟩] ++ [⟨2, i + acc.length + 2, 0, false, [39]⟩]) := by
        intro p hp
        simp only [List.mem_append, List.mem_singleton] at hp
        rcases hp with (hp | rfl) | rfl
        · exact hP p hp
        · rfl
        · rfl
      obtain ⟨f', i', Q, e1, e2, e3, e4, e5, e6⟩ := ih [] f (i + acc.length + 4) _ false (fun x hx => by cases hx) (by omega) (by
        rw [show i + acc.length + 4 = i + 1 + acc.length + 1 + 1 + 1 from by omega, h13]
        rfl) hP2
      refine ⟨f', i', Q, ?_, e2, e3, e4, ?_, ?_⟩
      · rw [← e1, wordA, if_neg (by omega), h2, if_neg (by decide), if_neg (by decide), if_pos (by decide), hx]
        show wordA L (f + 1) (i + acc.length + 2) _ false = _
        have g1 : L.getD (i + acc.length + 2) 0 = 92 := by rw [← h9]; congr 1; omega
        have g2 : L.getD (i + acc.length + 2 + 1) 0 = 39 := by rw [← h12]; congr 1; omega
        rw [wordA, if_neg (by omega), g1, if_neg (by decide), if_pos (by decide), if_pos (by omega), g2, show min (i + acc.length + 2 + 2) L.length = i + acc.length + 4 from by omega]
        rfl
      · rw [e5, deadText_append, deadText_append, subs_of h3]
        simp [deadText]
      · rw [e6, sglA, if_pos (by decide)]
        simp only [List.length_cons, List.length_nil]
        omega
    · rw [if_neg hc] at hd
      obtain ⟨f', i', Q, e1, e2, e3, e4, e5, e6⟩ := ih (acc ++ [c]) f i P j (by
        intro x hx
        rw [List.mem_append, List.mem_singleton] at hx
        rcases hx with hx | rfl
        · exact hacc x hx
        · exact hc) hf (by rw [hd]; simp) hP
      refine ⟨f', i', Q, e1, e2, e3, e4, ?_, ?_⟩
      · rw [e5]
        simp
      · rw [e6, sglA, if_neg hc]
        simp only [List.length_append, List.length_cons, List.length_nil]
        omega

theorem bytesA_join (P : List APart) (a i : Nat) (acc s : List UInt8) : bytesA (P ++ [⟨2, a, 0, false, acc⟩]) true 2 i s = P ++ [⟨2, a, 0, false, acc ++ s⟩] := by
  unfold bytesA
  rw [List.getLast?_concat]
  simp

theorem double_text (L : List UInt8) (a : Nat) (tail : List UInt8) (P : List APart) : ∀ (l acc : List UInt8) (f i : Nat), L.length - i < f → L.drop i = dblA l ++ 34 :: tail →
    doubleA L a f i (P ++ [⟨2, a, 0, false, acc⟩]) true = .ok (i + (dblA l).length + 1, P ++ [⟨2, a, 0, false, acc ++ l⟩], false) ∧ L.drop (i + (dblA l).length + 1) = tail := by
  intro l
  induction l with
  | nil =>
    intro acc f i hf hd
    obtain ⟨f, rfl⟩ : ∃ g, f = g + 1 := ⟨f - 1, by omega⟩
    obtain ⟨h1, h2, h3⟩ := drop_head hd
    refine ⟨?_, h3⟩
    rw [doubleA, if_neg (by omega), h2, if_pos (by decide), List.append_nil]
    rfl
  | cons c l ih =>
    intro acc f i hf hd
    obtain ⟨f, rfl⟩ : ∃ g, f = g + 1 := ⟨f - 1, by omega⟩
    rw [dblA] at hd
    by_cases hc : [36, 34, 92].contains c.toNat
    · rw [if_pos hc] at hd
      obtain ⟨h1, h2, h3⟩ := drop_head hd
      obtain ⟨h4, h5, h6⟩ := drop_head h3
      obtain ⟨e1, e2⟩ := ih (acc ++ [c]) f (i + 2) (by omega) h6
      have hlen : (dblA (c :: l)).length = (dblA l).length + 2 := by rw [dblA, if_pos hc]; rfl
      refine ⟨?_, ?_⟩
      · rw [doubleA, if_neg (by omega), h2, h5, if_neg (by decide), if_pos ⟨by decide, by omega⟩, if_pos hc, bytesA_join, e1, hlen, List.append_assoc]
        congr 3
        omega
      · rw [hlen, ← e2]
        congr 1
        omega
    · rw [if_neg hc] at hd
      obtain ⟨h1, h2, h3⟩ := drop_head hd
      obtain ⟨e1, e2⟩ := ih (acc ++ [c]) f (i + 1) (by omega) h3
      have hlen : (dblA (c :: l)).length = (dblA l).length + 1 := by rw [dblA, if_neg hc]; rfl
      have hc' : ¬ (c.toNat = 36 ∨ c.toNat = 34 ∨ c.toNat = 92) := by
        intro h
        apply hc
        rw [List.contains_iff_mem]
        simpa using h
      refine ⟨?_, ?_⟩
      · rw [doubleA, if_neg (by omega), h2, if_neg (by omega), if_neg (by omega), if_neg (by omega), bytesA_join, e1, hlen, List.append_assoc]
        congr 3
        omega
      · rw [hlen, ← e2]
        congr 1
        omega

theorem word_back (L : List UInt8) (tail : List UInt8) : ∀ (l : List UInt8) (f i : Nat) (P : List APart), L.length - i < f → L.drop i = bckA l ++ tail → AllDead P →
    ∃ f' Q, wordA L f i P false = wordA L f' (i + (bckA l).length) Q false ∧ L.length - (i + (bckA l).length) < f' ∧ L.drop (i + (bckA l).length) = tail ∧ AllDead Q ∧ deadText Q = deadText P ++ l := by
  intro l
  induction l with
  | nil =>
    intro f i P hf hd hP
    exact ⟨f, P, rfl, by simpa [bckA] using hf, by simpa [bckA] using hd, hP, by simp⟩
  | cons c l ih =>
    intro f i P hf hd hP
    obtain ⟨f, rfl⟩ : ∃ g, f = g + 1 := ⟨f - 1, by omega⟩
    rw [bckA] at hd
    obtain ⟨h1, h2, h3⟩ := drop_head hd
    obtain ⟨h4, h5, h6⟩ := drop_head h3
    have hlen : i + (bckA (c :: l)).length = i + 2 + (bckA l).length := by rw [bckA]; simp only [List.length_cons]; omega
    rw [hlen]
    obtain ⟨f', Q, e1, e2, e3, e4, e5⟩ := ih f (i + 2) (P ++ [⟨2, i, 0, false, [c]⟩]) (by omega) h6 (by
      intro p hp
      rw [List.mem_append, List.mem_singleton] at hp
      rcases hp with hp | rfl
      · exact hP p hp
      · rfl)
    refine ⟨f', Q, ?_, e2, e3, e4, ?_⟩
    · rw [← e1, wordA, if_neg (by omega), h2, h5, if_neg (by decide), if_pos (by decide), if_pos h4, show min (i + 2) L.length = i + 2 from by omega]
    · rw [e5, deadText_append]
      simp [deadText]

theorem front_quote (c : UInt8) (m : List UInt8) (hc : c = 39 ∨ c = 34 ∨ c = 92 ∨ c = 36 ∨ c = 120) : skipN false (c :: m) = 0 ∧ bestOp (c :: m) opsA 0 [] 0 = ([], 0) := by
  rcases hc with rfl | rfl | rfl | rfl | rfl <;> exact ⟨by rw [skipN, if_neg (by decide), if_neg (by decide)], by simp [bestOp, opsA, Lib.hasPrefix, List.isPrefixOf]⟩

theorem tokenA_word (L : List UInt8) (i : Nat) (c : UInt8) (m : List UInt8) (hd : L.drop i = c :: m) (hc : c = 39 ∨ c = 34 ∨ c = 92 ∨ c = 36 ∨ c = 120) : tokenA L i = match wordA L (L.length + 1) i [] false with
      | .error e => .error e
      | .ok (k, P) => .ok (⟨13, i, P⟩, k) := by
  obtain ⟨h1, h2, h3⟩ := drop_head hd
  have h38 : ¬ c.toNat = 38 := by rcases hc with rfl | rfl | rfl | rfl | rfl <;> decide
  unfold tokenA
  rw [if_neg (by omega), hd]
  simp only [(front_quote c m hc).2]
  rw [if_neg (by simp), h2, if_neg h38]
  all_goals rfl

/-- A word, a blank, an x, the end. -/
theorem lexA_x (L : List UInt8) (c : UInt8) (m : List UInt8) (hd : L = c :: m) (hc : c = 39 ∨ c = 34 ∨ c = 92) (k : Nat) (P : List APart) (hk : k + 2 = L.length) (ht : L.drop k = [32, 120]) (hw : wordA L (L.length + 1) 0 [] false = .ok (k, P)) :
    lexA L (L.length + 1) 0 = .ok [⟨13, 0, P⟩, ⟨13, k + 1, [⟨1, k + 1, 0, false, [120]⟩]⟩, ⟨0, k + 2, []⟩] := by
  have hc' : c = 39 ∨ c = 34 ∨ c = 92 ∨ c = 36 ∨ c = 120 := by rcases hc with h | h | h <;> simp [h]
  obtain ⟨n, hn⟩ : ∃ n, L.length = n + 2 := ⟨k, hk.symm⟩
  obtain ⟨h1, h2, h3⟩ := drop_head ht
  obtain ⟨h4, h5, h6⟩ := drop_head h3
  have hd0 : L.drop 0 = c :: m := by rw [List.drop_zero]; exact hd
  have hs0 : skipN false (L.drop 0) = 0 := by rw [hd0]; exact (front_quote c m hc').1
  have hs1 : skipN false (L.drop k) = 1 := by rw [ht]; rfl
  have hs2 : skipN false (L.drop (k + 2)) = 0 := by rw [h6]; rfl
  have ht0 : tokenA L 0 = .ok (⟨13, 0, P⟩, k) := by rw [tokenA_word L 0 c m hd0 hc', hw]
  have ht1 : tokenA L (k + 1) = .ok (⟨13, k + 1, [⟨1, k + 1, 0, false, [120]⟩]⟩, k + 2) := by
    rw [tokenA_word L (k + 1) 120 [] h3 (by simp), hn]
    rw [wordA, if_neg (by omega), h5, if_neg (by decide), if_neg (by decide), if_neg (by decide), if_neg (by decide), if_neg (by decide), wordA, if_pos (by omega)]
    rfl
  have ht2 : tokenA L (k + 2) = .ok (⟨0, k + 2, []⟩, k + 2) := by
    unfold tokenA
    rw [if_pos (by omega)]
  rw [hn, lexA, hs0, Nat.zero_add, ht0]
  simp only [show ¬ (13 : Nat) = 0 from by decide, if_false]
  rw [lexA, hs1, ht1]
  simp only [show ¬ (13 : Nat) = 0 from by decide, if_false]
  rw [lexA, hs2, Nat.add_zero, ht2]
  simp only [if_true]

theorem word_end_blank (L : List UInt8) (f i : Nat) (P : List APart) (j : Bool) (m : List UInt8) (hd : L.drop i = 32 :: m) : wordA L (f + 1) i P j = .ok (i, P) := by
  obtain ⟨h1, h2, h3⟩ := drop_head hd
  rw [wordA, if_neg (by omega), h2, if_pos (by decide)]

/-- The three ways of quoting. -/
theorem lexA_single (s : List UInt8) : ∃ P k b, lexA (39 :: (sglA s ++ [39, 32, 120])) ((39 :: (sglA s ++ [39, 32, 120])).length + 1) 0 = .ok [⟨13, 0, P⟩, ⟨13, k, [b]⟩, ⟨0, k + 1, []⟩] ∧ AllDead P ∧ deadText P = s := by
  obtain ⟨f', i', Q, e1, e2, e3, e4, e5, e6⟩ := word_single (39 :: (sglA s ++ [39, 32, 120])) [32, 120] s [] ((39 :: (sglA s ++ [39, 32, 120])).length + 1) 0 [] false (fun x hx => by cases hx) (by omega) rfl (fun p hp => by cases hp)
  obtain ⟨g, rfl⟩ : ∃ g, f' = g + 1 := ⟨f' - 1, by omega⟩
  rw [word_end_blank _ g i' Q false [120] e3] at e1
  refine ⟨Q, _, _, lexA_x _ 39 _ rfl (.inl rfl) i' Q ?_ e3 e1, e4, ?_⟩
  · have := congrArg List.length e3
    rw [List.length_drop] at this
    simp only [List.length_cons, List.length_nil] at this ⊢
    omega
  · rw [e5]
    simp [deadText]
theorem lexA_double (s : List UInt8) : ∃ P k b, lexA (34 :: (dblA s ++ [34, 32, 120])) ((34 :: (dblA s ++ [34, 32, 120])).length + 1) 0 = .ok [⟨13, 0, P⟩, ⟨13, k, [b]⟩, ⟨0, k + 1, []⟩] ∧ AllDead P ∧ deadText P = s := by
  obtain ⟨e1, e2⟩ := double_text (34 :: (dblA s ++ [34, 32, 120])) 0 [32, 120] [] s [] ((34 :: (dblA s ++ [34, 32, 120])).length + 1) 1 (by omega) rfl
  obtain ⟨n, hn⟩ : ∃ n, (34 :: (dblA s ++ [34, 32, 120])).length = n + 1 := ⟨_, rfl⟩
  refine ⟨[⟨2, 0, 0, false, s⟩], _, _, lexA_x _ 34 _ rfl (.inr (.inl rfl)) (1 + (dblA s).length + 1) _ ?_ e2 ?_, ?_, ?_⟩
  · simp only [List.length_cons, List.length_append, List.length_nil]
    omega
  · rw [wordA, if_neg (by simp), List.getD_cons_zero, if_neg (by decide), if_neg (by decide), if_neg (by decide), if_pos (by decide)]
    simp only [List.nil_append] at e1 ⊢
    rw [e1]
    show wordA _ _ (1 + (dblA s).length + 1) _ false = _
    rw [hn]
    exact word_end_blank _ n _ _ _ _ e2
  · intro p hp
    rw [List.mem_singleton] at hp
    rw [hp]
  · simp [deadText]
theorem lexA_back (c : UInt8) (s : List UInt8) : ∃ P k b, lexA (bckA (c :: s) ++ [32, 120]) ((bckA (c :: s) ++ [32, 120]).length + 1) 0 = .ok [⟨13, 0, P⟩, ⟨13, k, [b]⟩, ⟨0, k + 1, []⟩] ∧ AllDead P ∧ deadText P = c :: s := by
  obtain ⟨f', Q, e1, e2, e3, e4, e5⟩ := word_back (bckA (c :: s) ++ [32, 120]) [32, 120] (c :: s) ((bckA (c :: s) ++ [32, 120]).length + 1) 0 [] (by omega) rfl (fun p hp => by cases hp)
  obtain ⟨g, rfl⟩ : ∃ g, f' = g + 1 := ⟨f' - 1, by omega⟩
  rw [word_end_blank _ g _ Q false [120] e3] at e1
  refine ⟨Q, _, _, lexA_x (bckA (c :: s) ++ [32, 120]) 92 (c :: (bckA s ++ [32, 120])) rfl (.inr (.inr rfl)) _ Q ?_ e3 e1, e4, ?_⟩
  · rw [List.length_append, Nat.zero_add]
    rfl
  · rw [e5]
    simp [deadText]

/-- A run of bytes of a name, behind which none goes on. -/
theorem runName_of (s : List UInt8) (c : UInt8) (m : List UInt8) (h1 : s ≠ []) (hb : isBegin (s.headD 0) = true) (hg : ∀ x ∈ s, isGo x = true) (hc : isGo c = false) : runName (s ++ c :: m) = s := by
  cases s with
  | nil => exact absurd rfl h1
  | cons x s =>
    rw [List.cons_append, runName, if_pos (show isBegin x = true from hb), ← List.cons_append]
    rw [List.takeWhile_append_of_pos (by simpa using hg)]
    rw [List.takeWhile_cons_of_neg (by rw [hc]; decide), List.append_nil]

/-- Bytes that make a name, of whatever length. -/
structure NameBytes (s : List UInt8) : Prop where
  ne : s ≠ []
  first : isBegin (s.headD 0) = true
  all : ∀ x ∈ s, isGo x = true

theorem NameBytes.name {s : List UInt8} (h : NameBytes s) : nameB s = decide (s.length ≤ 20) := by
  obtain ⟨h1, h2, h3⟩ := h
  cases s with
  | nil => exact absurd rfl h1
  | cons c s =>
    have h4 : (c :: s).all isGo = true := List.all_eq_true.2 h3
    rw [nameB, show isBegin c = true from h2, h4, Bool.and_true, Bool.and_true, Bool.eq_iff_iff, decide_eq_true_eq, decide_eq_true_eq, List.length_cons]
    omega

theorem runName_brace (m : List UInt8) : runName (123 :: m) = [] := by
  rw [runName, if_neg (by decide)]

theorem dollarA_name (L : List UInt8) (q : Bool) (i : Nat) (P : List APart) (j : Bool) (s m : List UInt8) (c : UInt8) (hs : NameBytes s) (hc : isGo c = false) (hd : L.drop (i + 1) = s ++ c :: m) :
    dollarA L q i P j = if s.length ≤ 20 then .ok (i + 1 + s.length, P ++ [⟨3, i, 0, q, s⟩], false) else .error (106, i) := by
  have hr : runName (L.drop (i + 1)) = s := by rw [hd]; exact runName_of s c m hs.ne hs.first hs.all hc
  unfold dollarA
  simp only [hr]
  rw [if_pos hs.ne, hs.name]
  simp only [decide_eq_true_eq]

theorem dollarA_brace (L : List UInt8) (q : Bool) (i : Nat) (P : List APart) (j : Bool) (s m : List UInt8) (hs : NameBytes s) (hd : L.drop (i + 1) = 123 :: (s ++ 125 :: m)) :
    dollarA L q i P j = if s.length ≤ 20 then .ok (i + 3 + s.length, P ++ [⟨3, i, 0, q, s⟩], false) else .error (106, i) := by
  obtain ⟨h1, h2, h3⟩ := drop_head hd
  have hr : runName (L.drop (i + 1)) = [] := by rw [hd]; exact runName_brace _
  have hx : idxA 125 (L.drop (i + 2)) = some s.length := by
    rw [h3]
    refine idxA_of s m 125 125 rfl ?_
    intro x hx e
    have := hs.all x hx
    rw [show x = 125 from UInt8.toNat_inj.1 e] at this
    exact absurd this (by decide)
  have hsub : subs L ((i : Int) + 2) ((i : Int) + 2 + (s.length : Int)) = s := by
    have := subs_of (i := i + 2) h3
    refine Eq.trans ?_ this
    congr 1
  unfold dollarA
  simp only [hr, h2, hx, hsub]
  rw [if_neg (by simp), if_pos (by decide), hs.name]
  simp only [decide_eq_true_eq]

theorem front_cases (c : UInt8) (hc : c = 36 ∨ c = 120) : c = 39 ∨ c = 34 ∨ c = 92 ∨ c = 36 ∨ c = 120 := by rcases hc with h | h <;> simp [h]

theorem lexA_word_end (L : List UInt8) (c : UInt8) (m : List UInt8) (hd : L = c :: m) (hc : c = 36 ∨ c = 120) (P : List APart) (hw : wordA L (L.length + 1) 0 [] false = .ok (L.length, P)) :
    lexA L (L.length + 1) 0 = .ok [⟨13, 0, P⟩, ⟨0, L.length, []⟩] := by
  obtain ⟨n, hn⟩ : ∃ n, L.length = n + 1 := ⟨m.length, by rw [hd]; rfl⟩
  have hd0 : L.drop 0 = c :: m := by rw [List.drop_zero]; exact hd
  have hs0 : skipN false (L.drop 0) = 0 := by rw [hd0]; exact (front_quote c m (front_cases c hc)).1
  have hs1 : skipN false (L.drop L.length) = 0 := by rw [List.drop_length]; rfl
  have ht0 : tokenA L 0 = .ok (⟨13, 0, P⟩, L.length) := by rw [tokenA_word L 0 c m hd0 (front_cases c hc), hw]
  have ht1 : tokenA L L.length = .ok (⟨0, L.length, []⟩, L.length) := by
    unfold tokenA
    rw [if_pos (Nat.le_refl _)]
  rw [lexA, hs0, Nat.zero_add, ht0]
  simp only [show ¬ (13 : Nat) = 0 from by decide, if_false]
  have : lexA L L.length L.length = .ok [⟨0, L.length, []⟩] := by
    rw [show lexA L L.length L.length = lexA L (n + 1) L.length from by rw [← hn], lexA, hs1, Nat.add_zero, ht1]
    simp only [if_true]
  rw [this]
theorem lexA_word_err (L : List UInt8) (c : UInt8) (m : List UInt8) (hd : L = c :: m) (hc : c = 36 ∨ c = 120) (e : Nat × Nat) (hw : wordA L (L.length + 1) 0 [] false = .error e) :
    lexA L (L.length + 1) 0 = .error e := by
  have hd0 : L.drop 0 = c :: m := by rw [List.drop_zero]; exact hd
  have hs0 : skipN false (L.drop 0) = 0 := by rw [hd0]; exact (front_quote c m (front_cases c hc)).1
  have ht0 : tokenA L 0 = .error e := by rw [tokenA_word L 0 c m hd0 (front_cases c hc), hw]
  rw [lexA, hs0, Nat.zero_add, ht0]

/-- A dollar and a name. -/
theorem lexA_name (s : List UInt8) (hs : NameBytes s) : lexA (36 :: (s ++ [45])) ((36 :: (s ++ [45])).length + 1) 0 =
    if s.length ≤ 20 then .ok [⟨13, 0, [⟨3, 0, 0, false, s⟩, ⟨1, s.length + 1, 0, false, [45]⟩]⟩, ⟨0, s.length + 2, []⟩] else .error (106, 0) := by
  have hlen : (36 :: (s ++ [45])).length = s.length + 2 := by simp
  have hd1 := dollarA_name (36 :: (s ++ [45])) false 0 [] false s [] 45 hs (by decide) rfl
  have h45 : (36 :: (s ++ [45])).drop (0 + 1 + s.length) = [45] := drop_more (a := s) (m := [45]) (L := 36 :: (s ++ [45])) (i := 1) rfl
  obtain ⟨h1, h2, h3⟩ := drop_head h45
  by_cases h20 : s.length ≤ 20
  · rw [if_pos h20] at hd1 ⊢
    rw [show s.length + 2 = (36 :: (s ++ [45])).length from hlen.symm]
    refine lexA_word_end _ 36 _ rfl (.inl rfl) _ ?_
    rw [wordA, if_neg (by simp), List.getD_cons_zero, if_neg (by decide), if_neg (by decide), if_neg (by decide), if_neg (by decide), if_pos (by decide), hd1]
    show wordA _ (36 :: (s ++ [45])).length (0 + 1 + s.length) _ false = _
    generalize (36 :: (s ++ [45])) = L at *
    rw [hlen, wordA, if_neg (by omega), h2, if_neg (by decide), if_neg (by decide), if_neg (by decide), if_neg (by decide), if_neg (by decide), wordA, if_pos (by omega)]
    simp [bytesA]
    omega
  · rw [if_neg h20] at hd1 ⊢
    refine lexA_word_err _ 36 _ rfl (.inl rfl) _ ?_
    rw [wordA, if_neg (by simp), List.getD_cons_zero, if_neg (by decide), if_neg (by decide), if_neg (by decide), if_neg (by decide), if_pos (by decide), hd1]

/-- A byte, a dollar, and a name between braces, and a byte. -/
theorem lexA_braces (s : List UInt8) (hs : NameBytes s) : lexA (120 :: 36 :: 123 :: (s ++ [125, 121])) ((120 :: 36 :: 123 :: (s ++ [125, 121])).length + 1) 0 =
    if s.length ≤ 20 then .ok [⟨13, 0, [⟨1, 0, 0, false, [120]⟩, ⟨3, 1, 0, false, s⟩, ⟨1, s.length + 4, 0, false, [121]⟩]⟩, ⟨0, s.length + 5, []⟩] else .error (106, 1) := by
  have hlen : (120 :: 36 :: 123 :: (s ++ [125, 121])).length = s.length + 5 := by simp
  have hd1 := dollarA_brace (120 :: 36 :: 123 :: (s ++ [125, 121])) false 1 [⟨1, 0, 0, false, [120]⟩] true s [121] hs rfl
  have h45 : (120 :: 36 :: 123 :: (s ++ [125, 121])).drop (3 + s.length) = [125, 121] := drop_more (a := s) (m := [125, 121]) (L := 120 :: 36 :: 123 :: (s ++ [125, 121])) (i := 3) rfl
  obtain ⟨h1, h2, h3⟩ := drop_head h45
  obtain ⟨h4, h5, h6⟩ := drop_head h3
  have step : ∀ f, wordA (120 :: 36 :: 123 :: (s ++ [125, 121])) (f + 2) 0 [] false = match dollarA (120 :: 36 :: 123 :: (s ++ [125, 121])) false 1 [⟨1, 0, 0, false, [120]⟩] true with
      | .error e => .error e
      | .ok (i', P', j') => wordA (120 :: 36 :: 123 :: (s ++ [125, 121])) f i' P' j' := by
    intro f
    rw [wordA, if_neg (by simp), List.getD_cons_zero, if_neg (by decide), if_neg (by decide), if_neg (by decide), if_neg (by decide), if_neg (by decide)]
    rw [wordA, if_neg (by simp), List.getD_cons_succ, List.getD_cons_zero, if_neg (by decide), if_neg (by decide), if_neg (by decide), if_neg (by decide), if_pos (by decide)]
    rfl
  by_cases h20 : s.length ≤ 20
  · rw [if_pos h20] at hd1 ⊢
    rw [show s.length + 5 = (120 :: 36 :: 123 :: (s ++ [125, 121])).length from hlen.symm]
    refine lexA_word_end _ 120 _ rfl (.inr rfl) _ ?_
    generalize (120 :: 36 :: 123 :: (s ++ [125, 121])) = L at *
    rw [hlen, show s.length + 5 + 1 = (s.length + 4) + 2 from by omega, step, hd1]
    show wordA L (s.length + 4) (1 + 3 + s.length) _ false = _
    have h7 : L.getD (1 + 3 + s.length) 0 = 121 := by rw [← h5]; congr 1; omega
    rw [wordA, if_neg (by omega), h7, if_neg (by decide), if_neg (by decide), if_neg (by decide), if_neg (by decide), if_neg (by decide), wordA, if_pos (by omega)]
    simp [bytesA]
    omega
  · rw [if_neg h20] at hd1 ⊢
    refine lexA_word_err _ 120 _ rfl (.inr rfl) _ ?_
    generalize (120 :: 36 :: 123 :: (s ++ [125, 121])) = L at *
    rw [hlen, show s.length + 5 + 1 = (s.length + 4) + 2 from by omega, step, hd1]

end Go.Proofs.YtdadgodjjfgmfaaDoor
