/- Dialect B: a source of a source's tokens has the same tokens. No program stands in it. -/
import Derived.Test.YtdadgodjjfgmfaaDoorPureB3
import Derived.Lib.ItoaNum
namespace Go.Proofs.YtdadgodjjfgmfaaDoor
open Go Go.RowKit

/-- A token as a source has it. -/
def showB (t : BTok) : List UInt8 :=
  if t.kind = 18 then t.text else if t.kind = 19 then 39 :: (dblB t.text ++ [39]) else if t.kind = 20 then 36 :: t.text else if t.kind = 21 then 36 :: 35 :: t.text
  else if t.kind = 22 then 36 :: 34 :: t.text else if t.kind = 23 then 36 :: Lib.itoa t.num else opsB.getD t.kind []
/-- What stands ahead of a token that is not the first one. -/
def sepB (t : BTok) : List UInt8 := if t.glue = false ∧ t.kind ≠ 0 then [32] else []
def printR : List BTok → List UInt8
  | [] => []
  | t :: us => sepB t ++ (showB t ++ printR us)
def printT : List BTok → List UInt8
  | [] => []
  | t :: us => showB t ++ printR us

/-- Nothing, or a byte that ends all that is alive. -/
def StopB (r : List UInt8) : Prop := ∀ c m, r = c :: m → c = 32 ∨ c = 9 ∨ c = 35

theorem StopB.nil : StopB [] := fun c m h => by cases h
theorem StopB.blank (m : List UInt8) : StopB (32 :: m) := fun c n h => by injection h with h1 _; exact .inl h1.symm

theorem hasPrefix_stop : ∀ (o x r : List UInt8), (∀ b ∈ o, ¬ (b = 32 ∨ b = 9 ∨ b = 35)) → StopB r → Lib.hasPrefix (x ++ r) o = Lib.hasPrefix x o
  | [], x, r, _, _ => by simp [Lib.hasPrefix, List.isPrefixOf]
  | b :: o, [], r, ho, hr => by
    cases r with
    | nil => rfl
    | cons c m =>
      have h1 := hr c m rfl
      have h2 := ho b (by simp)
      have h3 : (b == c) = false := by
        rw [beq_eq_false_iff_ne]
        rintro rfl
        exact h2 h1
      simp [Lib.hasPrefix, List.isPrefixOf, h3]
  | b :: o, c :: x, r, ho, hr => by
    have ih := hasPrefix_stop o x r (fun b hb => ho b (by simp [hb])) hr
    simp only [Lib.hasPrefix, List.cons_append, List.isPrefixOf] at ih ⊢
    rw [ih]

theorem bestOp_stop (x r : List UInt8) (hr : StopB r) (ops : List (List UInt8)) : (∀ o ∈ ops, ∀ b ∈ o, ¬ (b = 32 ∨ b = 9 ∨ b = 35)) → ∀ (i : Nat) (b : List UInt8) (k : Nat), bestOp (x ++ r) ops i b k = bestOp x ops i b k := by
  induction ops with
  | nil => exact fun _ i b k => rfl
  | cons o os ih =>
    intro ho i b k
    rw [bestOp, bestOp, hasPrefix_stop o x r (ho o (by simp)) hr, ih (fun p hp => ho p (by simp [hp])), ih (fun p hp => ho p (by simp [hp]))]
theorem opsB_stop : ∀ o ∈ opsB, ∀ b ∈ o, ¬ (b = 32 ∨ b = 9 ∨ b = 35) := by decide +kernel

theorem takeWhile_stop (p : UInt8 → Bool) (hp : p 32 = false ∧ p 9 = false ∧ p 35 = false) (x r : List UInt8) (hr : StopB r) : (x ++ r).takeWhile p = x.takeWhile p := by
  induction x with
  | nil =>
    cases r with
    | nil => rfl
    | cons c m =>
      have : p c = false := by rcases hr c m rfl with rfl | rfl | rfl <;> simp [hp]
      rw [List.nil_append, List.takeWhile_cons_of_neg (by rw [this]; decide)]
      rfl
  | cons c x ih =>
    rw [List.cons_append]
    cases hc : p c with
    | true => rw [List.takeWhile_cons_of_pos hc, List.takeWhile_cons_of_pos hc, ih]
    | false => rw [List.takeWhile_cons_of_neg (by rw [hc]; decide), List.takeWhile_cons_of_neg (by rw [hc]; decide)]

theorem runName_stop (x r : List UInt8) (hr : StopB r) : runName (x ++ r) = runName x := by
  cases x with
  | nil =>
    cases r with
    | nil => rfl
    | cons c m =>
      have : isBegin c = false := by rcases hr c m rfl with rfl | rfl | rfl <;> decide
      simp [runName, this]
  | cons c x =>
    have h := takeWhile_stop isGo (by decide) (c :: x) r hr
    rw [List.cons_append] at h ⊢
    rw [runName, runName, h]
theorem starName_stop (x r : List UInt8) (hr : StopB r) : starName (x ++ r) = starName x := by
  unfold starName
  rw [hasPrefix_stop [42] x r (by decide) hr, runName_stop x r hr]

theorem deadB_stop (r r' : List UInt8) (hr : StopB r') : ∀ (m y : List UInt8) (n : Nat), n ≤ m.length → deadB (m ++ r) = some (y, n) → deadB (m ++ r') = some (y, n)
  | [], y, n, hn, h => by
    have := (deadB_le _ _ _ h).2
    simp at hn
    omega
  | [c], y, n, hn, h => by
    have h1 := (deadB_le _ _ _ h).2
    have hn1 : n = 1 := by simp at hn; omega
    have hc : c.toNat = 39 ∧ y = [] := by
      rw [List.singleton_append] at h
      cases r with
      | nil =>
        simp only [deadB] at h
        split at h
        · cases h; exact ⟨by assumption, rfl⟩
        · cases h
      | cons d r =>
        simp only [deadB] at h
        split at h
        · split at h
          · cases hd : deadB r with
            | none => rw [hd] at h; cases h
            | some z => rw [hd] at h; cases h; omega
          · cases h; exact ⟨by assumption, rfl⟩
        · cases hd : deadB (d :: r) with
          | none => rw [hd] at h; cases h
          | some z =>
            rw [hd] at h
            cases h
            have := (deadB_le _ _ _ hd).2
            omega
    obtain ⟨hc, rfl⟩ := hc
    rw [List.singleton_append, hn1]
    cases r' with
    | nil => rw [deadB, if_pos hc]
    | cons d r' =>
      have : ¬ d.toNat = 39 := by rcases hr d r' rfl with rfl | rfl | rfl <;> decide
      rw [deadB, if_pos hc, if_neg this]
  | c :: d :: m, y, n, hn, h => by
    simp only [List.cons_append, deadB] at h ⊢
    simp only [List.length_cons] at hn
    split at h
    · split at h
      · cases hd : deadB (m ++ r) with
        | none => rw [hd] at h; cases h
        | some z =>
          rw [hd] at h
          simp only [Option.map_some, Option.some.injEq, Prod.mk.injEq] at h
          rw [if_pos (by assumption), if_pos (by assumption), deadB_stop r r' hr m z.1 z.2 (by omega) hd]
          simp [h]
      · rw [if_pos (by assumption), if_neg (by assumption)]
        exact h
    · cases hd : deadB (d :: (m ++ r)) with
      | none => rw [hd] at h; cases h
      | some z =>
        rw [hd] at h
        simp only [Option.map_some, Option.some.injEq, Prod.mk.injEq] at h
        have := deadB_stop r r' hr (d :: m) z.1 z.2 (by simp only [List.length_cons]; omega) hd
        rw [if_neg (by assumption), ← List.cons_append, this]
        simp [h]

theorem dollarB_stop (r r' : List UInt8) (hr : StopB r) (hr' : StopB r') (m : List UInt8) (k n : Nat) (x : List UInt8) (z : Nat) (hz : z ≤ m.length) (h : dollarB (m ++ r) = some (k, n, x, z)) : dollarB (m ++ r') = some (k, n, x, z) := by
  have h1 := (dollarB_last _ _ _ _ _ h).1
  cases m with
  | nil => simp at hz; omega
  | cons c m =>
    have hp : dPre c.toNat ≤ (c :: m).length := dPre_le (c :: m)
    have e1 : ((c :: m) ++ r).drop (dPre c.toNat) = (c :: m).drop (dPre c.toNat) ++ r := List.drop_append_of_le_length hp
    have e2 : ((c :: m) ++ r').drop (dPre c.toNat) = (c :: m).drop (dPre c.toNat) ++ r' := List.drop_append_of_le_length hp
    unfold dollarB at h ⊢
    rw [show ((c :: m) ++ r).headD 0 = c from rfl, e1, starName_stop _ r hr] at h
    rw [show ((c :: m) ++ r').headD 0 = c from rfl, e2, starName_stop _ r' hr']
    exact h

/-- A token does not hang on what stands behind blanks. -/
theorem tokenB_stop (x r r' : List UInt8) (hr : StopB r) (hr' : StopB r') (p p' : Nat) (t : BTok) (n : Nat) (hx : x ≠ []) (hn : n ≤ x.length) (h : tokenB (x ++ r) p = .ok (t, n)) : tokenB (x ++ r') p' = .ok ({ t with place := p' }, n) := by
  cases x with
  | nil => exact absurd rfl hx
  | cons c m =>
    have hb := bestOp_stop (c :: m) r hr opsB opsB_stop 0 [] 0
    have hb' := bestOp_stop (c :: m) r' hr' opsB opsB_stop 0 [] 0
    have ht := takeWhile_stop (fun c => !endsB c) (by decide) (c :: m) r hr
    have ht' := takeWhile_stop (fun c => !endsB c) (by decide) (c :: m) r' hr'
    rw [List.cons_append] at hb hb' ht ht' h ⊢
    simp only [tokenB, hb, ht] at h
    simp only [tokenB, hb', ht']
    split at h
    · rename_i h0
      rw [if_pos h0]
      cases h
      rfl
    · rename_i h0
      rw [if_neg h0]
      split at h
      · cases h
      · rename_i h1
        rw [if_neg h1]
        split at h
        · rename_i h2
          rw [if_pos h2]
          cases hd : deadB (m ++ r) with
          | none => rw [hd] at h; cases h
          | some z =>
            rw [hd] at h
            cases h
            simp only [List.length_cons] at hn
            rw [deadB_stop r r' hr' m z.1 z.2 (by omega) hd]
        · rename_i h2
          rw [if_neg h2]
          split at h
          · rename_i h3
            rw [if_pos h3]
            cases hd : dollarB (m ++ r) with
            | none => rw [hd] at h; cases h
            | some z =>
              obtain ⟨k, n', x', z⟩ := z
              rw [hd] at h
              cases h
              simp only [List.length_cons] at hn
              rw [dollarB_stop r r' hr hr' m k n' x' z (by omega) hd]
          · rename_i h3
            rw [if_neg h3]
            cases h
            rfl

theorem deadB_take : ∀ (m y : List UInt8) (n : Nat), deadB m = some (y, n) → m.take n = dblB y ++ [39]
  | [], y, n, h => by cases h
  | [c], y, n, h => by
    simp only [deadB] at h
    split at h
    · rename_i hc
      cases h
      obtain rfl : c = 39 := UInt8.toNat_inj.1 hc
      rfl
    · cases h
  | c :: d :: l, y, n, h => by
    simp only [deadB] at h
    split at h
    · rename_i hc
      obtain rfl : c = 39 := UInt8.toNat_inj.1 hc
      split at h
      · rename_i hd
        obtain rfl : d = 39 := UInt8.toNat_inj.1 hd
        cases hl : deadB l with
        | none => rw [hl] at h; cases h
        | some z =>
          rw [hl] at h
          cases h
          have := deadB_take l z.1 z.2 hl
          rw [show z.2 + 2 = (z.2 + 1) + 1 from rfl, List.take_succ_cons, List.take_succ_cons, this, dblB, if_pos (by decide)]
          rfl
      · cases h
        rfl
    · rename_i hc
      cases hl : deadB (d :: l) with
      | none => rw [hl] at h; cases h
      | some z =>
        rw [hl] at h
        cases h
        have := deadB_take (d :: l) z.1 z.2 hl
        rw [List.take_succ_cons, this, dblB, if_neg hc]
        rfl

theorem prefix_take {x l : List UInt8} (h : x <+: l) : l.take x.length = x := by
  obtain ⟨r, rfl⟩ := h
  exact List.take_left
theorem itoa_one (c : UInt8) (h1 : 49 ≤ c.toNat) (h2 : c.toNat ≤ 57) : Lib.itoa ((c.toNat - 48 : Nat) : Int) = [c] := by
  rw [Lib.itoa, if_neg (by omega), Lib.decDigits, dif_pos (by omega)]
  congr 1
  apply UInt8.toNat_inj.1
  rw [UInt8.toNat_ofNat']
  omega

/-- A token's text is what it takes of its source. -/
theorem showB_take (l : List UInt8) (p : Nat) (t : BTok) (n : Nat) (h : tokenB l p = .ok (t, n)) : showB t = l.take n := by
  cases l with
  | nil =>
    simp only [tokenB] at h
    cases h
    rfl
  | cons c m =>
    simp only [tokenB] at h
    split at h
    · rename_i hb
      cases h
      rcases best_is (c :: m) with e | ⟨h1, h2, h3⟩
      · rw [e] at hb; exact absurd rfl hb
      · rw [prefix_take (List.isPrefixOf_iff_prefix.1 h2)]
        have hk : (bestOp (c :: m) opsB 0 [] 0).2 < 18 := (List.getElem?_eq_some_iff.1 h1).1
        unfold showB
        simp only []
        rw [if_neg (by omega), if_neg (by omega), if_neg (by omega), if_neg (by omega), if_neg (by omega), if_neg (by omega), List.getD_eq_getElem?_getD, h1]
        rfl
    · split at h
      · cases h
      · split at h
        · rename_i h39
          split at h
          · rename_i x n' hd
            cases h
            obtain rfl : c = 39 := UInt8.toNat_inj.1 h39
            rw [List.take_succ_cons, deadB_take m x n' hd]
            rfl
          · cases h
        · split at h
          · rename_i h36
            split at h
            · rename_i k n' x z hd
              cases h
              obtain rfl : c = 36 := UInt8.toNat_inj.1 h36
              unfold dollarB at hd
              split at hd
              · rename_i hc
                cases hd
                cases m with
                | nil => exact absurd hc (by decide)
                | cons d m =>
                  have hc' : 49 ≤ d.toNat ∧ d.toNat ≤ 57 := hc
                  show 36 :: Lib.itoa ((d.toNat - 48 : Nat) : Int) = 36 :: d :: List.take 0 m
                  rw [itoa_one d hc'.1 hc'.2, List.take_zero]
              · split at hd
                · simp only [Option.some.injEq, Prod.mk.injEq] at hd
                  obtain ⟨rfl, _, rfl, rfl⟩ := hd
                  have hpre := prefix_take (starName_prefix (m.drop (dPre (m.headD 0).toNat)))
                  cases m with
                  | nil => rfl
                  | cons d m =>
                    simp only [List.headD_cons] at hpre ⊢
                    by_cases h35 : d.toNat = 35
                    · obtain rfl : d = 35 := UInt8.toNat_inj.1 h35
                      simp only [show dPre (35 : UInt8).toNat = 1 from rfl, List.drop_succ_cons, List.drop_zero] at hpre ⊢
                      rw [show 1 + (starName m).length + 1 = (starName m).length + 1 + 1 from by omega, List.take_succ_cons, List.take_succ_cons, hpre]
                      rfl
                    · by_cases h34 : d.toNat = 34
                      · obtain rfl : d = 34 := UInt8.toNat_inj.1 h34
                        simp only [show dPre (34 : UInt8).toNat = 1 from rfl, List.drop_succ_cons, List.drop_zero] at hpre ⊢
                        rw [show 1 + (starName m).length + 1 = (starName m).length + 1 + 1 from by omega, List.take_succ_cons, List.take_succ_cons, hpre]
                        rfl
                      · have e0 : dPre d.toNat = 0 := by unfold dPre; rw [if_neg (by omega)]
                        have e1 : dKind d.toNat = 20 := by unfold dKind; rw [if_neg h35, if_neg h34]
                        simp only [e0, e1, List.drop_zero, Nat.zero_add] at hpre ⊢
                        rw [List.take_succ_cons, hpre]
                        rfl
                · cases hd
            · cases h
          · cases h
            rw [prefix_take (List.takeWhile_prefix _)]
            rfl

def SameB (t u : BTok) : Prop := t.kind = u.kind ∧ t.num = u.num ∧ t.text = u.text ∧ (t.kind ≠ 0 → t.glue = u.glue)
def SameBs : List BTok → List BTok → Prop
  | [], [] => True
  | t :: ts, u :: us => SameB t u ∧ SameBs ts us
  | _, _ => False

theorem skip_zero (l : List UInt8) (h : ∀ c m, l = c :: m → ¬ (c.toNat = 32 ∨ c.toNat = 9 ∨ c.toNat = 35)) : skipN false l = 0 := by
  cases l with
  | nil => rfl
  | cons c m =>
    have := h c m rfl
    rw [skipN, if_neg (by omega), if_neg (by omega)]
theorem skip_stop (l : List UInt8) (h : 0 < skipN false l) : StopB l := by
  intro c m e
  subst e
  rw [skipN] at h
  split at h
  · rename_i hc
    rcases hc with hc | hc
    · exact .inl (UInt8.toNat_inj.1 hc)
    · exact .inr (.inl (UInt8.toNat_inj.1 hc))
  · split at h
    · rename_i hc
      exact .inr (.inr (UInt8.toNat_inj.1 hc))
    · omega

theorem lexB_back : ∀ (f : Nat) (first : Bool) (l : List UInt8) (p : Nat) (ts : List BTok), l.length < f → lexB f first l p = .ok ts →
    (∃ x r r', l.drop (skipN false l) = x ++ r ∧ printT ts = x ++ r' ∧ StopB r ∧ StopB r') ∧ (printT ts).length ≤ l.length - skipN false l ∧
    (∃ t vs, ts = t :: vs ∧ t.glue = (!first && skipN false l == 0) ∧ (t.kind = 0 → vs = [])) ∧
    ∀ (f' : Nat) (first' : Bool) (b : Bool) (p' : Nat), (∀ t vs, ts = t :: vs → t.kind = 0 → b = false) → (printT ts).length + (if b then 1 else 0) < f' →
      ∃ t vs u us, ts = t :: vs ∧ lexB f' first' ((if b then [32] else []) ++ printT ts) p' = .ok (u :: us) ∧ t.kind = u.kind ∧ t.num = u.num ∧ t.text = u.text ∧ (t.kind ≠ 0 → u.glue = (!first' && !b)) ∧ SameBs vs us := by
  intro f
  induction f with
  | zero => intro first l p ts h; omega
  | succ f ih =>
    intro first l p ts hf h
    rw [lexB] at h
    have hs := skipN_le false l
    have hfront := skip_front false l
    obtain ⟨sk, hsk⟩ : ∃ sk, skipN false l = sk := ⟨_, rfl⟩
    rw [hsk] at h hs hfront ⊢
    cases ht : tokenB (l.drop sk) (p + sk) with
    | error e => rw [ht] at h; cases h
    | ok y =>
      obtain ⟨t, n⟩ := y
      rw [ht] at h
      obtain ⟨n1, n2, n3, n4, n5⟩ := tokenB_takes _ _ _ _ ht
      have hshow := showB_take _ _ _ _ ht
      rw [List.length_drop] at n1
      by_cases hk0 : t.kind = 0
      · simp only [hk0, if_true] at h
        cases h
        have hnil := n4.1 hk0
        rw [hnil] at ht
        simp only [tokenB] at ht
        cases ht
        refine ⟨⟨[], [], [], hnil, rfl, .nil, .nil⟩, by simp [printT, printR, showB, opsB], ⟨_, _, rfl, rfl, fun _ => rfl⟩, ?_⟩
        intro f' first' b p' hb hf'
        obtain rfl := hb _ _ rfl rfl
        obtain ⟨f', rfl⟩ : ∃ g, f' = g + 1 := ⟨f' - 1, by omega⟩
        refine ⟨_, _, ⟨0, p', 0, [], !first'⟩, [], rfl, ?_, rfl, rfl, rfl, fun e => absurd rfl e, trivial⟩
        show lexB (f' + 1) first' [] p' = _
        simp [lexB, skipN, tokenB]
      · simp only [hk0, if_false] at h
        have hne : l.drop sk ≠ [] := fun e => hk0 (n4.2 e)
        have hn1 : 1 ≤ n := n5 hfront hne
        cases hl : lexB f false (l.drop (sk + n)) (p + sk + n) with
        | error e => rw [hl] at h; cases h
        | ok us0 =>
          rw [hl] at h
          cases h
          obtain ⟨⟨x2, r2, r2', i1, i2, i3, i4⟩, i5, ⟨u, vs, rfl, i6, i6'⟩, i7⟩ := ih false (l.drop (sk + n)) (p + sk + n) us0 (by rw [List.length_drop]; omega) hl
          rw [List.length_drop] at i5
          simp only [Bool.not_false, Bool.true_and] at i6
          have hsplit : l.drop sk = (l.drop sk).take n ++ l.drop (sk + n) := by rw [← List.drop_drop, List.take_append_drop]
          have htl : ((l.drop sk).take n).length = n := by rw [List.length_take, List.length_drop]; omega
          have hshow' : ∀ g, showB { t with glue := g } = (l.drop sk).take n := fun g => hshow
          -- what is printed behind the token
          have hR : printR (u :: vs) = (if u.glue = false ∧ u.kind ≠ 0 then [32] else []) ++ printT (u :: vs) := rfl
          have claim1 : ∃ x r r', l.drop sk = x ++ r ∧ (l.drop sk).take n ++ printR (u :: vs) = x ++ r' ∧ StopB r ∧ StopB r' ∧ n ≤ x.length := by
            by_cases h0 : skipN false (l.drop (sk + n)) = 0
            · have hg : u.glue = true := by rw [i6, h0]; rfl
              rw [h0, List.drop_zero] at i1
              refine ⟨(l.drop sk).take n ++ x2, r2, r2', ?_, ?_, i3, i4, ?_⟩
              · rw [List.append_assoc, ← i1]
                exact hsplit
              · rw [hR, if_neg (by rw [hg]; simp), List.nil_append, i2, List.append_assoc]
              · rw [List.length_append, htl]; omega
            · have hg : u.glue = false := by rw [i6]; exact beq_false_of_ne h0
              refine ⟨(l.drop sk).take n, l.drop (sk + n), printR (u :: vs), hsplit, rfl, skip_stop _ (by omega), ?_, by omega⟩
              rw [hR]
              by_cases hu : u.kind = 0
              · rw [if_neg (by simp [hu]), List.nil_append, i6' hu]
                have : showB u = [] := by unfold showB; rw [hu]; rfl
                simp only [printT, printR, this, List.nil_append]
                exact .nil
              · rw [if_pos ⟨hg, hu⟩]
                exact .blank _
          have claimLen : ((l.drop sk).take n ++ printR (u :: vs)).length ≤ l.length - sk := by
            rw [List.length_append, htl, hR, List.length_append]
            by_cases h0 : skipN false (l.drop (sk + n)) = 0
            · have hg : u.glue = true := by rw [i6, h0]; rfl
              rw [if_neg (by rw [hg]; simp), List.length_nil]
              omega
            · have := skipN_le false (l.drop (sk + n))
              rw [List.length_drop] at this
              have h32 : (if u.glue = false ∧ u.kind ≠ 0 then ([32] : List UInt8) else []).length ≤ 1 := by split <;> simp
              omega
          refine ⟨?_, ?_, ⟨_, _, rfl, rfl, fun e => absurd e hk0⟩, ?_⟩
          · obtain ⟨x, r, r', c1, c2, c3, c4, _⟩ := claim1
            exact ⟨x, r, r', c1, (by rw [printT, hshow']; exact c2), c3, c4⟩
          · rw [printT, hshow']
            exact claimLen
          · intro f' first' b p' _ hf'
            rw [printT, hshow'] at hf' ⊢
            obtain ⟨x, r, r', c1, c2, c3, c4, c5⟩ := claim1
            obtain ⟨f', rfl⟩ : ∃ g, f' = g + 1 := ⟨f' - 1, by omega⟩
            have hx : x ≠ [] := by
              rintro rfl
              simp at c5
              omega
            have hxf : skipN false (x ++ r') = 0 := by
              apply skip_zero
              intro c m e
              cases x with
              | nil => exact absurd rfl hx
              | cons d x =>
                injection e with e1 _
                rw [← e1]
                exact hfront d (x ++ r) c1
            have hskip : skipN false ((if b then [32] else []) ++ (x ++ r')) = (if b then 1 else 0) := by
              cases b with
              | false => exact hxf
              | true =>
                show skipN false (32 :: (x ++ r')) = 1
                rw [skipN, if_pos (by decide), hxf]
            have hdrop : ((if b then [32] else []) ++ (x ++ r')).drop (if b then 1 else 0) = x ++ r' := by cases b <;> rfl
            rw [c1] at ht
            have htok := tokenB_stop x r r' c3 c4 (p + sk) (p' + (if b then 1 else 0)) t n hx c5 ht
            have hrest : ((if b then [32] else []) ++ (x ++ r')).drop ((if b then 1 else 0) + n) = printR (u :: vs) := by
              rw [← List.drop_drop, hdrop, ← c2, List.drop_append, htl, Nat.sub_self, List.drop_zero, List.drop_eq_nil_of_le (by omega), List.nil_append]
            have hlen2 : (printT (u :: vs)).length + (if decide (u.glue = false ∧ u.kind ≠ 0) then 1 else 0) < f' := by
              rw [List.length_append, htl, hR, List.length_append] at hf'
              have h32 : (if u.glue = false ∧ u.kind ≠ 0 then ([32] : List UInt8) else []).length = (if decide (u.glue = false ∧ u.kind ≠ 0) then 1 else 0) := by
                simp only [decide_eq_true_eq]
                split <;> rfl
              rw [h32] at hf'
              omega
            obtain ⟨t2, vs2, u2, us2, e1, e2, e3, e4, e5, e6, e7⟩ := i7 f' false (decide (u.glue = false ∧ u.kind ≠ 0)) (p' + (if b then 1 else 0) + n) (by
              intro t3 vs3 e hk
              injection e with e _
              rw [decide_eq_false_iff_not, e]
              exact fun h => h.2 hk) hlen2
            injection e1 with e1 e1'
            subst e1 e1'
            refine ⟨_, _, { t with place := p' + (if b then 1 else 0), glue := !first' && (if b then 1 else 0) == 0 }, u2 :: us2, rfl, ?_, rfl, rfl, rfl, fun _ => ?_, ?_⟩
            · rw [c2, lexB, hskip, hdrop, htok]
              simp only [hk0, if_false]
              rw [hrest, hR]
              simp only [decide_eq_true_eq] at e2
              rw [e2]
            · cases b <;> simp
            · refine ⟨⟨e3, e4, e5, fun hk => ?_⟩, e7⟩
              rw [e6 hk]
              cases hg : u.glue <;> simp [hg, hk]

theorem SameBs.get : ∀ {ts us : List BTok}, SameBs ts us → ts.length = us.length ∧ ∀ (i : Nat) (t u : BTok), ts[i]? = some t → us[i]? = some u → SameB t u
  | [], [], _ => ⟨rfl, fun i t u h => by simp at h⟩
  | t :: ts, u :: us, h => by
    obtain ⟨h1, h2⟩ := SameBs.get h.2
    refine ⟨by simp [h1], ?_⟩
    intro i a b ha hb
    cases i with
    | zero =>
      simp only [List.getElem?_cons_zero, Option.some.injEq] at ha hb
      rw [← ha, ← hb]
      exact h.1
    | succ i => exact h2 i a b (by simpa using ha) (by simpa using hb)
  | [], _ :: _, h => h.elim
  | _ :: _, [], h => h.elim

/-- A source of a source's tokens has the same tokens. -/
theorem lexB_print (L : List UInt8) (ts : List BTok) (h : lexB (L.length + 1) true L 0 = .ok ts) :
    (printT ts).length ≤ L.length ∧ ∃ us, lexB ((printT ts).length + 1) true (printT ts) 0 = .ok us ∧ SameBs ts us := by
  obtain ⟨-, h2, ⟨t, vs, rfl, h3, -⟩, h5⟩ := lexB_back (L.length + 1) true L 0 ts (by omega) h
  refine ⟨by omega, ?_⟩
  obtain ⟨t', vs', u, us, e1, e2, e3, e4, e5, e6, e7⟩ := h5 ((printT (t :: vs)).length + 1) true false 0 (fun _ _ _ _ => rfl) (by simp)
  injection e1 with e1 e1'
  subst e1 e1'
  refine ⟨u :: us, by simpa using e2, ⟨e3, e4, e5, fun hk => ?_⟩, e7⟩
  rw [e6 hk, h3]
  rfl

end Go.Proofs.YtdadgodjjfgmfaaDoor
