/- Dialect B's parser: a command. -/
import Derived.Test.YtepebnblbheegaaGreatDoorBChainG
namespace Go.Proofs.YtepebnblbheegaaGreatDoor
open Go Go.RowKit

theorem POut.tuple {w w' : World} {b g cap : Nat} {ts : List BTok} {d m : Nat} {sent : Nat → Addr} {r : Except (Nat × Nat) (Prog × Nat)} {e : Ending} (h : POut w b g cap ts d m sent r e w') : ∃ v u, e = .returned (.tuple #[v, u]) := by
  obtain ⟨_, h⟩ := h
  cases r with
  | error x => obtain ⟨v, u, _, _, h, _⟩ := h; exact ⟨v, u, h⟩
  | ok x => obtain ⟨v, h, _⟩ := h; exact ⟨v, _, h⟩
theorem POut.after {w0 w w' : World} {b g cap : Nat} {ts : List BTok} {d m : Nat} {sent : Nat → Addr} {r : Except (Nat × Nat) (Prog × Nat)} {e : Ending} (h : POut w b g cap ts d m sent r e w') (hk : Kept (At b) w0 w) : POut w0 b g cap ts d m sent r e w' := by
  obtain ⟨h1, h2⟩ := h
  refine ⟨hk.same h1, ?_⟩
  cases r with
  | error x =>
    obtain ⟨v, u, j, l, q1, q2, q3, q4, q5⟩ := h2
    exact ⟨v, u, j, l, q1, q2, q3, q4.from hk.size, q5⟩
  | ok x => exact h2

/-- The contract of turns around a command. -/
def DoesT (b g cap : Nat) (ts : List BTok) (sent : Nat → Addr) (f : Nat) : Prop :=
  ∀ (w : World) (i d : Nat) (r : Except (Nat × Nat) (Prog × Nat)) (c : Prog) (vc : Value), d ≤ 31 → i < ts.length → PSt w b g cap ts i d → EnvB w b sent → NSl w b vc c → c.length ≤ 60000 → Hid (pTurns ts f d i c [] = some r) →
    Calls Tryz.prog 212 #[.pointer (some ⟨b, 0, none⟩), vc] w (POut w b g cap ts d (60000 * (32 - d)) sent r)

theorem block_facts {ts : List BTok} {cap : Nat} (T : PTs cap ts) {f d i : Nat} {l : Prog} {e : Nat} (hi : i < ts.length) (h : pBlock ts f d i = some (.ok (l, e))) : e < ts.length ∧ l.length ≤ 50000 := by
  have := ((postAll T.fix.good f).block d i hi).1 l e h
  have := T.fix.num
  omega

set_option maxHeartbeats 8000000 in
set_option maxRecDepth 100000 in
theorem pCommand_walk {b g cap : Nat} {ts : List BTok} {sent : Nat → Addr} (T : PTs cap ts) (f : Nat) (ihB : Does b g cap ts sent 211 (pBlock ts f)) (ihT : DoesT b g cap ts sent f) (ihS : Does b g cap ts sent 213 (pSimple ts f))
    (ih1 : DoesK b g cap ts sent 214 (pChoice ts f)) (ih2 : DoesK b g cap ts sent 215 (pWhile ts f)) (ih3 : DoesK b g cap ts sent 216 (pEach ts f)) (ih4 : DoesK b g cap ts sent 217 (pChoose ts f)) (ih5 : DoesK b g cap ts sent 218 (pFunction ts f)) :
    Does b g cap ts sent 186 (pCommand ts (f + 1)) := by
  intro w i d r hd hi hS hE hr
  have hbl := hS.blt
  have F := T.fix
  have HR := Lib.hid hr.out
  rw [pCommand] at HR
  have IHB := Lib.hid ihB
  have IHT := Lib.hid ihT
  have IHS := Lib.hid ihS
  have IH1 := Lib.hid ih1
  have IH2 := Lib.hid ih2
  have IH3 := Lib.hid ih3
  have IH4 := Lib.hid ih4
  have IH5 := Lib.hid ih5
  have hf3 := tok_f3
  clear hr ihB ihT ihS ih1 ih2 ih3 ih4 ih5
  go_enter Tryz.func186, Tryz.ntmps186
  go_wp2_with fail
  refine (pIs_any F (hS.alloc _) hi [8] _ _ (by decide) (show Blk _ _ [Value.int .i64 8] from Blk.new w _ _)).mono ?_
  rintro e w1 ⟨rfl, hb1⟩
  have hb2 := bNext ((Below.refl _ w).alloc (Nat.le_refl _) _) hb1
  have hS1 := hS.below hb2
  have hE1 := hE.below hb2
  have hK1 := (Kept.refl (At b) w).andBelow hb2
  clear hS hE hb1 hb2
  by_cases x0 : isK ts i [8] = true
  · rw [if_pos x0] at HR
    rw [x0]
    cases hq : pBlock ts f d i with
    | none =>
      rw [hq] at HR
      exact absurd HR.out (by simp [PRes.go])
    | some rc =>
      rw [hq] at HR
      have HD := Lib.hid (IHB.out w1 i d rc hd hi hS1 hE1 (Lib.hid hq))
      clear hS1 x0
      go_wp2_with fail
      refine HD.out.mono ?_
      cases rc with
      | error e0 =>
        obtain ⟨c0, p0⟩ := e0
        have HX := Lib.hid (some_err HR.out)
        clear HR hq HD
        have hsz := hK1.size
        rintro e w2 ⟨hK2, v, u, j', l0, rfl, -, -, ⟨eb, rfl, q2, q3⟩, hS2⟩
        go_wp2_with fail
        go_ret2
        exact POut.bad HX.out rfl (.none _ _) (Nat.zero_le _) ⟨eb, rfl, q2, by omega⟩ hS2 (hK1.same hK2)
      | ok q =>
        obtain ⟨l, j⟩ := q
        obtain ⟨z2, z3⟩ := block_facts T hi hq
        have HX := Lib.hid (show pTurns ts f d j l [] = some r from HR.out)
        clear HR hq HD
        rintro e w2 ⟨hK2, v, rfl, hN, hS2⟩
        have hE2 := hE1.kept hK2
        have hK9 := hK1.same hK2
        have HD := Lib.hid (IHT.out w2 j d r l v hd z2 hS2 hE2 hN (by omega) HX)
        obtain ⟨ga, gc, rfl, -⟩ := id hN
        clear hS2 hE2 hN hE1 hK1 hK2
        go_wp2_with fail
        refine (HD.out).mono ?_
        rintro e w3 hp
        have hq := Lib.hid (hp.after hK9)
        obtain ⟨v, u, rfl⟩ := hp.tuple
        go_wp2_with fail
        go_ret2
        exact hq.out
  · have x0 : isK ts i [8] = false := by simpa using x0
    rw [x0, if_neg (by simp)] at HR
    rw [x0]
    clear x0
    go_wp2_with fail
    refine (pIs_any F (hS1.alloc _) hi [18] _ _ (by decide) (show Blk _ _ [Value.int .i64 18] from Blk.new w1 _ _)).mono ?_
    rintro e w2 ⟨rfl, hb2⟩
    have hb3 := bNext ((Below.refl _ w1).alloc (Nat.le_refl _) _) hb2
    have hS2 := hS1.below hb3
    have hE2 := hE1.below hb3
    have hK2 := hK1.andBelow hb3
    clear hS1 hE1 hK1 hb2 hb3
    by_cases x1 : isK ts i [18] = true
    · rw [x1] at HR ⊢
      go_wp2_with fail
      refine (pNow_any F hS2 hi).mono ?_
      rintro e w3 ⟨rfl, hb3⟩
      unfold BTok.cells
      have hS3 := hS2.below hb3
      have hE3 := hE2.below hb3
      have hK3 := hK2.andBelow hb3
      clear hS2 hE2 hK2 hb3
      obtain ⟨mx, hmx⟩ := hE3.mx
      have hlen := F.good.text i
      go_wp2_with fail
      refine (pIsKey_any _ w3 hlen mx hmx).mono ?_
      rintro e w4 ⟨rfl, rfl⟩
      clear hmx
      by_cases x2 : keyB (tkAt ts i).text = true
      · rw [x2] at HR ⊢
        rw [if_neg (by simp)] at HR
        have hk0 : (tkAt ts i).kind ≠ 0 := isK_ne x1 (by decide)
        clear x1
        go_wp2_with fail
        refine (pNow_any F hS3 hi).mono ?_
        rintro e w5 ⟨rfl, hb5⟩
        unfold BTok.cells
        have hS5 := hS3.below hb5
        have hE5 := hE3.below hb5
        have hK9 := hK3.andBelow hb5
        clear hS3 hE3 hK3 hb5
        unfold keyB keyL at x2
        rw [List.contains_iff_mem] at x2
        simp only [List.mem_cons, List.not_mem_nil, or_false] at x2
        rcases x2 with x2 | x2 | x2 | x2 | x2 | x2 | x2 | x2
        · rw [x2] at HR ⊢
          rw [show bs [105, 102] = (⟨#[105, 102]⟩ : ByteArray) from rfl]
          repeat rw [if_neg (by decide)] at HR
          rw [if_pos rfl] at HR
          have HD := Lib.hid (IH1.out w5 i d r hd hi hk0 hS5 hE5 HR)
          clear x2 hS5 hE5
          go_wp2_with fail
          refine (HD.out).mono ?_
          rintro e w6 hp
          have hq := Lib.hid (hp.after hK9)
          obtain ⟨v, u, rfl⟩ := hp.tuple
          go_wp2_with fail
          go_ret2
          exact hq.out
        · rw [x2] at HR ⊢
          rw [show bs [101, 108, 115, 101] = (⟨#[101, 108, 115, 101]⟩ : ByteArray) from rfl]
          repeat rw [if_neg (by decide)] at HR
          have HX := Lib.hid (form_code HR.out)
          have hsz := hK9.size
          clear x2
          go_wp2_with fail
          refine (pForm_any F hS5 hi sent hE5.env).mono ?_
          rintro e w6 ⟨eb, rfl, hE7, hl7, hb7⟩
          go_wp2_with fail
          go_ret2
          exact POut.bad HX.out rfl (.none _ _) (Nat.zero_le _) ⟨eb, rfl, hE7, by omega⟩ (hS5.below hb7) (hK9.andBelow hb7)
        · rw [x2] at HR ⊢
          rw [show bs [119, 104, 105, 108, 101] = (⟨#[119, 104, 105, 108, 101]⟩ : ByteArray) from rfl]
          repeat rw [if_neg (by decide)] at HR
          rw [if_pos rfl] at HR
          have HD := Lib.hid (IH2.out w5 i d r hd hi hk0 hS5 hE5 HR)
          clear x2 hS5 hE5
          go_wp2_with fail
          refine (HD.out).mono ?_
          rintro e w6 hp
          have hq := Lib.hid (hp.after hK9)
          obtain ⟨v, u, rfl⟩ := hp.tuple
          go_wp2_with fail
          go_ret2
          exact hq.out
        · rw [x2] at HR ⊢
          rw [show bs [102, 111, 114] = (⟨#[102, 111, 114]⟩ : ByteArray) from rfl]
          repeat rw [if_neg (by decide)] at HR
          rw [if_pos rfl] at HR
          have HD := Lib.hid (IH3.out w5 i d r hd hi hk0 hS5 hE5 HR)
          clear x2 hS5 hE5
          go_wp2_with fail
          refine (HD.out).mono ?_
          rintro e w6 hp
          have hq := Lib.hid (hp.after hK9)
          obtain ⟨v, u, rfl⟩ := hp.tuple
          go_wp2_with fail
          go_ret2
          exact hq.out
        · rw [x2] at HR ⊢
          rw [show bs [105, 110] = (⟨#[105, 110]⟩ : ByteArray) from rfl]
          repeat rw [if_neg (by decide)] at HR
          have HX := Lib.hid (form_code HR.out)
          have hsz := hK9.size
          clear x2
          go_wp2_with fail
          refine (pForm_any F hS5 hi sent hE5.env).mono ?_
          rintro e w6 ⟨eb, rfl, hE7, hl7, hb7⟩
          go_wp2_with fail
          go_ret2
          exact POut.bad HX.out rfl (.none _ _) (Nat.zero_le _) ⟨eb, rfl, hE7, by omega⟩ (hS5.below hb7) (hK9.andBelow hb7)
        · rw [x2] at HR ⊢
          rw [show bs [115, 119, 105, 116, 99, 104] = (⟨#[115, 119, 105, 116, 99, 104]⟩ : ByteArray) from rfl]
          repeat rw [if_neg (by decide)] at HR
          rw [if_pos rfl] at HR
          have HD := Lib.hid (IH4.out w5 i d r hd hi hk0 hS5 hE5 HR)
          clear x2 hS5 hE5
          go_wp2_with fail
          refine (HD.out).mono ?_
          rintro e w6 hp
          have hq := Lib.hid (hp.after hK9)
          obtain ⟨v, u, rfl⟩ := hp.tuple
          go_wp2_with fail
          go_ret2
          exact hq.out
        · rw [x2] at HR ⊢
          rw [show bs [99, 97, 115, 101] = (⟨#[99, 97, 115, 101]⟩ : ByteArray) from rfl]
          repeat rw [if_neg (by decide)] at HR
          have HX := Lib.hid (form_code HR.out)
          have hsz := hK9.size
          clear x2
          go_wp2_with fail
          refine (pForm_any F hS5 hi sent hE5.env).mono ?_
          rintro e w6 ⟨eb, rfl, hE7, hl7, hb7⟩
          go_wp2_with fail
          go_ret2
          exact POut.bad HX.out rfl (.none _ _) (Nat.zero_le _) ⟨eb, rfl, hE7, by omega⟩ (hS5.below hb7) (hK9.andBelow hb7)
        · rw [x2] at HR ⊢
          rw [show bs [102, 110] = (⟨#[102, 110]⟩ : ByteArray) from rfl]
          repeat rw [if_neg (by decide)] at HR
          rw [if_pos rfl] at HR
          have HD := Lib.hid (IH5.out w5 i d r hd hi hk0 hS5 hE5 HR)
          clear x2 hS5 hE5
          go_wp2_with fail
          refine (HD.out).mono ?_
          rintro e w6 hp
          have hq := Lib.hid (hp.after hK9)
          obtain ⟨v, u, rfl⟩ := hp.tuple
          go_wp2_with fail
          go_ret2
          exact hq.out
      · have x2 : keyB (tkAt ts i).text = false := by simpa using x2
        rw [x2] at HR ⊢
        rw [if_pos (.inr rfl)] at HR
        have HD := Lib.hid (IHS.out w4 i d r hd hi hS3 hE3 HR)
        have hK9 := hK3
        clear x1 x2 hS3 hE3 hK3
        go_wp2_with fail
        refine (HD.out).mono ?_
        rintro e w5 hp
        have hq := Lib.hid (hp.after hK9)
        obtain ⟨v, u, rfl⟩ := hp.tuple
        go_wp2_with fail
        go_ret2
        exact hq.out
    · have x1 : isK ts i [18] = false := by simpa using x1
      rw [x1] at HR ⊢
      rw [if_pos (.inl rfl)] at HR
      have HD := Lib.hid (IHS.out w2 i d r hd hi hS2 hE2 HR)
      have hK9 := hK2
      clear x1 hS2 hE2 hK2
      go_wp2_with fail
      refine (HD.out).mono ?_
      rintro e w5 hp
      have hq := Lib.hid (hp.after hK9)
      obtain ⟨v, u, rfl⟩ := hp.tuple
      go_wp2_with fail
      go_ret2
      exact hq.out

end Go.Proofs.YtepebnblbheegaaGreatDoor

/- Dialect B's parser: small questions; a name. -/
namespace Go.Proofs.YtepebnblbheegaaGreatDoor
open Go Go.RowKit

set_option maxHeartbeats 4000000 in
set_option maxRecDepth 100000 in
theorem pTurning_any {w : World} {b g cap : Nat} {ts : List BTok} {i d : Nat} (F : PFix cap ts) (h : PSt w b g cap ts i d) (hi : i < ts.length) :
    Calls Tryz.prog 236 #[.pointer (some ⟨b, 0, none⟩)] w fun e w' => e = .returned (.bool (turningP ts i)) ∧ Below w.heap.size w w' := by
  go_enter Tryz.func236, Tryz.ntmps236
  go_wp2_with fail
  refine (pIs_any F (h.alloc _) hi [11, 12, 13, 14] _ _ (by decide) (show Blk _ _ [Value.int .i64 11, Value.int .i64 12, Value.int .i64 13, Value.int .i64 14] from Blk.new w _ _)).mono ?_
  rintro e w1 ⟨rfl, hb1⟩
  have hb2 := bNext ((Below.refl _ w).alloc (Nat.le_refl _) _) hb1
  rw [← turningP]
  go_wp2_with fail
  go_ret
  exact ⟨rfl, hb2⟩

set_option maxHeartbeats 4000000 in
set_option maxRecDepth 100000 in
theorem pItem_any {w : World} {b g cap : Nat} {ts : List BTok} {i d : Nat} (F : PFix cap ts) (h : PSt w b g cap ts i d) (hi : i < ts.length) :
    Calls Tryz.prog 241 #[.pointer (some ⟨b, 0, none⟩)] w fun e w' => e = .returned (.bool (itemP ts i)) ∧ Below w.heap.size w w' := by
  go_enter Tryz.func241, Tryz.ntmps241
  go_wp2_with fail
  refine (pIs_any F (h.alloc _) hi [18, 19, 20, 21, 22, 23, 6, 10] _ _ (by decide) (show Blk _ _ [Value.int .i64 18, Value.int .i64 19, Value.int .i64 20, Value.int .i64 21, Value.int .i64 22, Value.int .i64 23, Value.int .i64 6, Value.int .i64 10] from Blk.new w _ _)).mono ?_
  rintro e w1 ⟨rfl, hb1⟩
  have hb2 := bNext ((Below.refl _ w).alloc (Nat.le_refl _) _) hb1
  rw [← itemP]
  go_wp2_with fail
  go_ret
  exact ⟨rfl, hb2⟩

/-- A name, or a key where one may be. -/
def nameAt (ts : List BTok) (i : Nat) (key : Bool) : Bool := isK ts i [18] && nameB (tkAt ts i).text && (!keyB (tkAt ts i).text || key)

set_option maxHeartbeats 8000000 in
set_option maxRecDepth 100000 in
theorem pName_any {w : World} {b g cap : Nat} {ts : List BTok} {i d : Nat} (F : PFix cap ts) (h : PSt w b g cap ts i d) (hi : i < ts.length) (sent : Nat → Addr) (hE : EnvB w b sent) (key : Bool) :
    Calls Tryz.prog 245 #[.pointer (some ⟨b, 0, none⟩), .bool key] w fun e w' => Kept (At b) w w' ∧
      ((nameAt ts i key = true ∧ e = .returned (.tuple #[.string (bs (tkAt ts i).text), .nilIface]) ∧ PSt w' b g cap ts (skP ts i) d) ∨
       (nameAt ts i key = false ∧ ∃ s u, e = .returned (.tuple #[.string s, u]) ∧ (∃ eb, u = .iface 67 (.pointer (some ⟨eb, 0, none⟩)) ∧ ErrAt w' eb sent (if isK ts i [0] = true then 109 else 108) (tkAt ts i).place ∧ w.heap.size ≤ eb) ∧ PSt w' b g cap ts i d)) := by
  have hf3 := tok_f3
  have hlen := F.good.text i
  obtain ⟨nm, hnm⟩ : ∃ nm, nameAt ts i key = nm := ⟨_, rfl⟩
  obtain ⟨cd, hcd⟩ : ∃ cd, (if isK ts i [0] = true then 109 else 108) = cd := ⟨_, rfl⟩
  have HCD := Lib.hid hcd
  have HNM := Lib.hid hnm
  rw [hnm, hcd]
  clear hnm hcd
  go_enter Tryz.func245, Tryz.ntmps245
  go_wp2_with fail
  refine (pNow_any F h hi).mono ?_
  rintro e w1 ⟨rfl, hb1⟩
  unfold BTok.cells
  have hS1 := h.below hb1
  have hE1 := hE.below hb1
  have hK1 := (Kept.refl (At b) w).andBelow hb1
  clear h hE hb1
  go_wp2_with fail
  refine (pIs_any F (hS1.alloc _) hi [18] _ _ (by decide) (show Blk _ _ [Value.int .i64 18] from Blk.new w1 _ _)).mono ?_
  rintro e w2 ⟨rfl, hb2⟩
  have hb3 := bNext ((Below.refl _ w1).alloc (Nat.le_refl _) _) hb2
  have hS2 := hS1.below hb3
  have hE2 := hE1.below hb3
  have hK2 := hK1.andBelow hb3
  obtain ⟨mx, hmx⟩ := hE2.mx
  have hsz := hK2.size
  clear hS1 hE1 hK1 hb2 hb3
  cases x1 : isK ts i [18] with
  | false =>
    have HN2 := Lib.hid (show false = nm by rw [← HNM.out, nameAt, x1]; rfl)
    clear x1 hmx
    go_wp2_with fail
    refine (pForm_any F hS2 hi sent hE2.env).mono ?_
    rw [HCD.out]
    rintro e w6 ⟨eb, rfl, hE7, hl7, hb7⟩
    go_wp2_with fail
    go_ret2
    exact ⟨hK2.andBelow hb7, .inr ⟨HN2.out.symm, _, _, rfl, ⟨eb, rfl, hE7, by omega⟩, hS2.below hb7⟩⟩
  | true =>
    go_wp2_with fail
    refine (tName_any (bs (tkAt ts i).text) w2 (by rw [bs_size]; omega)).mono ?_
    rintro e w3 ⟨rfl, rfl⟩
    rw [bs_list]
    cases x2 : nameB (tkAt ts i).text with
    | false =>
      have HN2 := Lib.hid (show false = nm by rw [← HNM.out, nameAt, x1, x2]; rfl)
      clear x1 x2 hmx
      go_wp2_with fail
      refine (pForm_any F hS2 hi sent hE2.env).mono ?_
      rw [HCD.out]
      rintro e w6 ⟨eb, rfl, hE7, hl7, hb7⟩
      go_wp2_with fail
      go_ret2
      exact ⟨hK2.andBelow hb7, .inr ⟨HN2.out.symm, _, _, rfl, ⟨eb, rfl, hE7, by omega⟩, hS2.below hb7⟩⟩
    | true =>
      go_wp2_with fail
      refine (pIsKey_any _ _ hlen mx hmx).mono ?_
      rintro e w4 ⟨rfl, rfl⟩
      clear hmx
      cases x3 : keyB (tkAt ts i).text with
      | false =>
        have HN2 := Lib.hid (show true = nm by rw [← HNM.out, nameAt, x1, x2, x3]; rfl)
        clear x1 x2 x3
        go_wp2_with fail
        refine (pSkip_any F hS2 hi).mono ?_
        rintro e w6 ⟨rfl, hS6, hK6⟩
        go_wp2_with fail
        go_ret2
        exact ⟨hK2.same hK6, .inl ⟨HN2.out.symm, rfl, hS6⟩⟩
      | true =>
        cases key with
        | false =>
          have HN2 := Lib.hid (show false = nm by rw [← HNM.out, nameAt, x1, x2, x3]; rfl)
          clear x1 x2 x3
          go_wp2_with fail
          refine (pForm_any F hS2 hi sent hE2.env).mono ?_
          rw [HCD.out]
          rintro e w6 ⟨eb, rfl, hE7, hl7, hb7⟩
          go_wp2_with fail
          go_ret2
          exact ⟨hK2.andBelow hb7, .inr ⟨HN2.out.symm, _, _, rfl, ⟨eb, rfl, hE7, by omega⟩, hS2.below hb7⟩⟩
        | true =>
          have HN2 := Lib.hid (show true = nm by rw [← HNM.out, nameAt, x1, x2, x3]; rfl)
          clear x1 x2 x3
          go_wp2_with fail
          refine (pSkip_any F hS2 hi).mono ?_
          rintro e w6 ⟨rfl, hS6, hK6⟩
          go_wp2_with fail
          go_ret2
          exact ⟨hK2.same hK6, .inl ⟨HN2.out.symm, rfl, hS6⟩⟩

end Go.Proofs.YtepebnblbheegaaGreatDoor

/- Dialect B's parser: words, a bracket. -/
namespace Go.Proofs.YtepebnblbheegaaGreatDoor
open Go Go.RowKit

/-- What a parsing of words leaves. -/
def KOut (w : World) (b g cap : Nat) (ts : List BTok) (d : Nat) (sent : Nat → Addr) (r : Except (Nat × Nat) (List Prog × Nat)) (e : Ending) (w' : World) : Prop :=
  Kept (At b) w w' ∧ match r with
  | .ok (L, j) => ∃ v, e = .returned (.tuple #[v, .nilIface]) ∧ KSl w' b v L ∧ PSt w' b g cap ts j d
  | .error (c, p) => ∃ u j, e = .returned (.tuple #[.slice none 0 0, u]) ∧ PErr w w' sent c p u ∧ PSt w' b g cap ts j d
theorem KOut.ok {w w' : World} {b g cap : Nat} {ts : List BTok} {d : Nat} {sent : Nat → Addr} {L : List Prog} {j : Nat} {v : Value} {r : Except (Nat × Nat) (List Prog × Nat)} {e : Ending} (hr : r = .ok (L, j)) (he : e = .returned (.tuple #[v, .nilIface])) (h1 : KSl w' b v L) (h2 : PSt w' b g cap ts j d) (hk : Kept (At b) w w') : KOut w b g cap ts d sent r e w' := by
  subst hr
  exact ⟨hk, v, he, h1, h2⟩
theorem KOut.bad {w w' : World} {b g cap : Nat} {ts : List BTok} {d : Nat} {sent : Nat → Addr} {c p j : Nat} {u : Value} {r : Except (Nat × Nat) (List Prog × Nat)} {e : Ending} (hr : r = .error (c, p)) (he : e = .returned (.tuple #[.slice none 0 0, u])) (h1 : PErr w w' sent c p u) (h2 : PSt w' b g cap ts j d) (hk : Kept (At b) w w') : KOut w b g cap ts d sent r e w' := by
  subst hr
  exact ⟨hk, u, j, he, h1, h2⟩
theorem KSl.kept {w w' : World} {b : Nat} {v : Value} {L : List Prog} (h : KSl w b v L) (hk : Kept (At b) w w') : KSl w' b v L := by
  obtain ⟨ao, cap, h1, h2, h3, h4⟩ := h
  refine ⟨ao, cap, h1, h2, h3, fun hl => ?_⟩
  obtain ⟨g, e1, e2, e3, e4⟩ := h4 hl
  refine ⟨g, e1, Nat.lt_of_lt_of_le e2 hk.size, e3, fun i l hi => ?_⟩
  obtain ⟨u, u1, u2⟩ := e4 i l hi
  exact ⟨u, hk.cell u1 e3, u2.kept hk⟩

/-- The contract of a word. -/
def DoesW (b g cap : Nat) (ts : List BTok) (sent : Nat → Addr) (f : Nat) : Prop :=
  ∀ (w : World) (i d how : Nat) (r : Except (Nat × Nat) (Prog × Nat)), d ≤ 31 → how ≤ 1 → i < ts.length → PSt w b g cap ts i d → EnvB w b sent → Hid (pWord ts f d i how = some r) →
    Calls Tryz.prog 240 #[.pointer (some ⟨b, 0, none⟩), .int .i64 how] w (POut w b g cap ts d (60000 * (32 - d)) sent r)
/-- The contract of words. -/
def DoesWs (b g cap : Nat) (ts : List BTok) (sent : Nat → Addr) (f : Nat) : Prop :=
  ∀ (w : World) (i d how : Nat) (r : Except (Nat × Nat) (List Prog × Nat)), d ≤ 31 → how ≤ 1 → i < ts.length → PSt w b g cap ts i d → EnvB w b sent → Hid (pWords ts f d i how [] = some r) →
    Calls Tryz.prog 246 #[.pointer (some ⟨b, 0, none⟩), .int .i64 how] w (KOut w b g cap ts d sent r)

theorem word_facts {ts : List BTok} {cap : Nat} (T : PTs cap ts) {f d i how : Nat} {l : Prog} {e : Nat} (hh : how ≤ 1) (hi : i < ts.length) (h : pWord ts f d i how = some (.ok (l, e))) : i < e ∧ e < ts.length ∧ l.length ≤ 6 * (e - i) ∧ 0 < l.length := by
  have h1 := ((postAll T.fix.good f).word d i how hi).1 l e h
  obtain ⟨D, hD⟩ := (wAll T.w f).word d i how hh l e h
  have := hD.pos.1
  omega
theorem words_facts {ts : List BTok} {cap : Nat} (T : PTs cap ts) {f d i how : Nat} {L : List Prog} {e : Nat} (hh : how ≤ 1) (hi : i < ts.length) (h : pWords ts f d i how [] = some (.ok (L, e))) : e < ts.length ∧ L.flatten.length ≤ 50000 ∧ L.length ≤ 10000 ∧ ∀ l ∈ L, 0 < l.length := by
  have h1 := ((postAll T.fix.good f).words d i how [] hi).1 L e h
  have h2 := (wAll T.w f).words d i how [] hh (fun _ h => nomatch h) L e h
  have := T.fix.num
  simp only [List.flatten_nil, List.length_nil] at h1
  refine ⟨by omega, by omega, by omega, fun l hl => ?_⟩
  obtain ⟨D, hD⟩ := h2 l hl
  exact hD.pos.1

set_option maxHeartbeats 8000000 in
set_option maxRecDepth 100000 in
theorem pWords_walk {b g cap : Nat} {ts : List BTok} {sent : Nat → Addr} (T : PTs cap ts) (f : Nat) (ih : ∀ f' < f, DoesW b g cap ts sent f') : DoesWs b g cap ts sent f := by
  intro w i d how r hd hh hi hS hE hr
  have hbl := hS.blt
  have hgl := hS.glt
  have F := T.fix
  have hcap := F.num
  obtain ⟨k0, hk0, hk1, hk2, hk3⟩ := info_parts infoNodes
  have IH := Lib.hid ih
  clear ih
  go_enter Tryz.func246, Tryz.ntmps246
  go_wp2_with fail
  go_loopg [6, 7, 8] (ts.length - i) (fun m v cc er wr => ∃ (k fk : Nat) (L : List Prog), m = ts.length - k ∧ k < ts.length ∧ fk ≤ f ∧ L.length ≤ k ∧ L.flatten.length ≤ 6 * k ∧ Hid (∀ l ∈ L, 0 < l.length) ∧ Kept (At b) w wr ∧ PSt wr b g cap ts k d ∧ KOwn wr w.heap.size b v L ∧ Hid (pWords ts fk d k how L = some r))
  case atStart => exact ⟨i, f, [], rfl, hi, Nat.le_refl _, by simp, by simp, Lib.hid (fun _ h => nomatch h), Kept.refl _ _, hS, KOwn.nil _ _ _, hr⟩
  case round =>
    clear hS hr hi
    obtain ⟨k, fk, L, rfl, hk, hfk, hL1, hL2, hL3, hK, hS, hO, hr⟩ := hrel
    obtain ⟨fk, rfl⟩ : ∃ q, fk = q + 1 := by
      cases fk with
      | zero => have := hr.out; rw [pWords] at this; cases this
      | succ q => exact ⟨q, rfl⟩
    obtain ⟨ao, acap, rfl⟩ := hO.form
    have HP := Lib.hid hr.out
    rw [pWords] at HP
    clear hr
    go_wp2_with fail
    refine (pItem_any F hS hk).mono ?_
    rintro e w1 ⟨rfl, hb1⟩
    have hS1 := hS.below hb1
    have hO1 := hO.below hbl hb1
    have hK1 := hK.andBelow hb1
    have hE1 := hE.kept hK1
    have hsz := hK1.size
    clear hS hO hK hb1
    by_cases x0 : itemP ts k = true
    · rw [if_pos x0] at HP
      rw [x0]
      cases hq : pWord ts fk d k how with
      | none =>
        rw [hq] at HP
        exact absurd HP.out (by simp [PRes.go])
      | some rc =>
        rw [hq] at HP
        have HD := Lib.hid (IH.out fk (by omega) w1 k d how rc hd hh hk hS1 hE1 (Lib.hid hq))
        clear hS1 hE1 x0
        go_wp2_with fail
        refine HD.out.mono ?_
        cases rc with
        | error e0 =>
          obtain ⟨c0, p0⟩ := e0
          have HX := Lib.hid (some_err HP.out)
          clear HP hq HD
          rintro e w3 ⟨hK2, v, u, j', l0, rfl, h0, -, ⟨eb, rfl, q2, q3⟩, hS2⟩
          obtain ⟨va, vc, rfl⟩ := h0.form
          go_wp2_with fail
          go_ret2
          exact KOut.bad HX.out rfl ⟨eb, rfl, q2, by omega⟩ hS2 (hK1.same hK2)
        | ok q =>
          obtain ⟨c, e2⟩ := q
          obtain ⟨z1, z2, z3, z4⟩ := word_facts T hh hk hq
          have HX := Lib.hid (show pWords ts fk d e2 how (L ++ [c]) = some r from HP.out)
          have hL6 : (L ++ [c]).length ≤ e2 := by rw [List.length_append, List.length_cons, List.length_nil]; omega
          have hL7 : (L ++ [c]).flatten.length ≤ 6 * e2 := by rw [flat_snoc, List.length_append]; omega
          have hL8 := Lib.hid (snoc_all hL3.out z4)
          clear HP hq
          rintro e w5 ⟨hK6, v, rfl, hN, hS5⟩
          have hK7 := hK1.same hK6
          obtain ⟨us, u1, u2, u3⟩ := hO1.kept hbl hK6
          have hOA : ∀ o, (w5.alloc o).ownsRow w.heap.size 23 1 _ L.length us := fun o => ownsRow_kept u2 (Kept.ofBelow (S := Nowhere) ((Below.refl _ w5).alloc (Nat.le_refl _) o)) (fun _ _ _ e => e)
          have HN := Lib.hid hN
          have hsz5 := hK7.size
          obtain ⟨gc, cc, rfl, -⟩ := hN
          clear hK1 hK6 hO1 HD
          go_wp2_with (at_builtin; refine wpList_append_own _ rfl _ _ 39 rfl w.heap.size 23 k0 _ 1 24 Tryz.underlying39 hk0 hk1 hk2 hk3 rfl (by decide) _ _ _ rfl (hOA _) ⟨w5.heap.size, 0, none⟩ 1 1 [.slice (some ⟨gc, 0, none⟩) c.length cc] rfl rfl ?c1 ?c2 ?c3 ?c4 ?c5 ?_)
          case c1 => exact cells_new (by simp)
          case c2 =>
            intro u hu
            simp at hu
            subst hu
            rfl
          case c3 => unfold maxLen; omega
          case c4 => omega
          case c5 => simp; omega
          intro v6 w6 hown' hgrow _
          obtain ⟨hO6, hb6⟩ := KOwn.grown hsz5 u1 u2 u3 HN.out hown' hgrow
          have hS6 := hS5.belowB hb6 hbl hgl
          have hK8 := hK7.belowB hb6 (Nat.le_refl _)
          go_wp2_with fail
          go_roundg (ts.length - e2)
          case measure => omega
          case rel => exact ⟨e2, fk, L ++ [c], rfl, z2, by omega, hL6, hL7, hL8, hK8, hS6, hO6, HX⟩
    · have x0 : itemP ts k = false := by simpa using x0
      rw [x0, if_neg (by simp)] at HP
      rw [x0]
      have HX := Lib.hid (Option.some.inj (show some (Except.ok (L, k)) = some r from HP.out)).symm
      clear HP
      go_wp2_with fail
      go_ret2
      exact KOut.ok HX.out rfl (hO1.ksl hbl) hS1 hK1

/-- What stands between brackets. -/
def brkP (ts : List BTok) (f d i : Nat) : PRes Prog := (pWords ts f d (skP ts i) 0 []).go fun l j => takeP ts j [7] fun e => pOk (newP 3 0 [] l) e

set_option maxHeartbeats 8000000 in
set_option maxRecDepth 100000 in
theorem pBracket_walk {b g cap : Nat} {ts : List BTok} {sent : Nat → Addr} (T : PTs cap ts) (f : Nat) (ih : DoesWs b g cap ts sent f) : Does b g cap ts sent 281 (brkP ts f) := by
  intro w i d r hd hi hS hE hr
  have hbl := hS.blt
  have F := T.fix
  have HR := Lib.hid hr.out
  unfold brkP at HR
  have IH := Lib.hid ih
  clear hr ih
  have hj := (skP_le (ts := ts) hi).2
  obtain ⟨j, hjj⟩ : ∃ j, skP ts i = j := ⟨_, rfl⟩
  rw [hjj] at HR hj
  go_enter Tryz.func281, Tryz.ntmps281
  go_wp2_with fail
  refine (pSkip_any F hS hi).mono ?_
  rintro e w1 ⟨rfl, hS1, hK1⟩
  rw [hjj] at hS1
  have hE1 := hE.kept hK1
  clear hS hE
  cases hq : pWords ts f d j 0 [] with
  | none =>
    rw [hq] at HR
    exact absurd HR.out (by simp [PRes.go])
  | some rc =>
    rw [hq] at HR
    have HD := Lib.hid (IH.out w1 j d 0 rc hd (by omega) hj hS1 hE1 (Lib.hid hq))
    clear hS1
    go_wp2_with fail
    refine HD.out.mono ?_
    cases rc with
    | error e0 =>
      obtain ⟨c0, p0⟩ := e0
      have HX := Lib.hid (some_err HR.out)
      clear HR hq HD
      rintro e w3 ⟨hK2, u, j', rfl, ⟨eb, rfl, q2, q3⟩, hS2⟩
      have hsz := hK1.size
      have hsz2 := hK2.size
      have HN := Lib.hid (cNewS_any 3 0 [] [] b _ w3 (by omega) (KSl.nil _ _) (by simp) (by simp))
      go_wp2_with fail
      refine HN.out.mono ?_
      rintro e w4 ⟨v4, rfl, hN4, hb4⟩
      have hP := Lib.hid (PErr.kept (w := w) (w' := w3) (w'' := w4) (b := b) ⟨eb, rfl, q2, by omega⟩ hbl (Kept.ofBelow hb4))
      obtain ⟨g4, c4, rfl, -⟩ := id hN4
      go_wp2_with fail
      go_ret2
      exact POut.bad HX.out rfl (.inl hN4) (by simp [newP]; omega) hP.out (hS2.below hb4) ((hK1.same hK2).andBelow hb4)
    | ok q =>
      obtain ⟨L, k⟩ := q
      obtain ⟨y1, y2, y3, y4⟩ := words_facts T (by omega) hj hq
      have HR2 := Lib.hid (show (if isK ts k [7] = true then pOk (newP 3 0 [] L) (skP ts k) else formP ts k) = some r from HR.out)
      clear HR hq HD
      rintro e w2 ⟨hK2, v, rfl, hO, hS2⟩
      have hK3 := hK1.same hK2
      have hE2 := hE1.kept hK2
      have hsz := hK3.size
      clear hK1 hK2 hE1
      by_cases x0 : isK ts k [7] = true
      · rw [if_pos x0] at HR2
        have HX := Lib.hid (some_ok HR2.out)
        clear HR2
        have hO0 := hO
        obtain ⟨ao, ac, rfl, -⟩ := hO
        go_wp2_with fail
        refine (pTake_yes F (hS2.alloc _) y1 [7] _ _ (by decide) (show Blk _ _ [Value.int .i64 7] from Blk.new _ _ _) x0).mono ?_
        rintro e w4 ⟨rfl, hS4, hK7⟩
        have hK4 := ((Kept.refl (At b) w2).alloc (.cells #[Value.int .i64 7] 3)).same hK7
        clear hK7
        have hO4 := hO0.kept hK4
        have hK5 := hK3.same hK4
        have hsz5 := hK5.size
        have HN := Lib.hid (cNewS_any 3 0 [] L b _ w4 (by omega) hO4 (by omega) (by omega))
        go_wp2_with fail
        refine HN.out.mono ?_
        rintro e w5 ⟨v5, rfl, hN5, hb5⟩
        obtain ⟨g4, c4, rfl, -⟩ := id hN5
        go_wp2_with fail
        go_ret2
        exact POut.ok HX.out rfl hN5 (hS4.below hb5) (hK5.andBelow hb5)
      · have x0 : isK ts k [7] = false := by simpa using x0
        rw [x0, if_neg (by simp)] at HR2
        have HX2 := Lib.hid (form_code HR2.out)
        clear HR2
        have hO0 := hO
        obtain ⟨ao, ac, rfl, -⟩ := hO
        go_wp2_with fail
        refine (pTake_no F (hS2.alloc _) y1 [7] _ _ (by decide) (show Blk _ _ [Value.int .i64 7] from Blk.new _ _ _) x0 sent (hE2.env.below ((Below.refl _ _).alloc (Nat.le_refl _) _))).mono ?_
        rintro e w7 ⟨eb, rfl, hE7, hl7, hb7⟩
        have hb8 := bNext ((Below.refl _ w2).alloc (Nat.le_refl _) (.cells #[Value.int .i64 7] 3)) hb7
        have hsz8 := hb8.size
        have HN := Lib.hid (cNewS_any 3 0 [] L b _ w7 (by omega) (hO0.below hb8) (by omega) (by omega))
        have hl8 : w.heap.size ≤ eb := by have := hl7; simp at this; omega
        clear hl7
        go_wp2_with fail
        refine HN.out.mono ?_
        rintro e w9 ⟨v9, rfl, hN9, hb9⟩
        have hP := Lib.hid (PErr.kept (w := w) (w' := w7) (w'' := w9) (b := b) ⟨eb, rfl, hE7, hl8⟩ hbl (Kept.ofBelow hb9))
        obtain ⟨g4, c4, rfl, -⟩ := id hN9
        go_wp2_with fail
        go_ret2
        exact POut.bad HX2.out rfl (.inl hN9) (by rw [len_newP]; omega) hP.out ((hS2.below hb8).below hb9) ((hK3.andBelow hb8).andBelow hb9)

end Go.Proofs.YtepebnblbheegaaGreatDoor

/- Dialect B's parser: an item. -/
namespace Go.Proofs.YtepebnblbheegaaGreatDoor
open Go Go.RowKit

/-- The contract of an item. -/
def DoesO (b g cap : Nat) (ts : List BTok) (sent : Nat → Addr) (f : Nat) : Prop :=
  ∀ (w : World) (i d : Nat) (r : Except (Nat × Nat) (Prog × Nat)), d ≤ 31 → i < ts.length → itemP ts i = true → PSt w b g cap ts i d → EnvB w b sent → Hid (pOne ts f d i = some r) →
    Calls Tryz.prog 261 #[.pointer (some ⟨b, 0, none⟩)] w (POut w b g cap ts d (60000 * (32 - d)) sent r)
theorem bNextW {w w' : World} {o : Obj} (h : Below (w.alloc o).heap.size (w.alloc o) w') : Below w.heap.size w w' := bNext ((Below.refl _ w).alloc (Nat.le_refl _) o) h

set_option maxHeartbeats 16000000 in
set_option maxRecDepth 100000 in
theorem pOne_walk {b g cap : Nat} {ts : List BTok} {sent : Nat → Addr} (T : PTs cap ts) (f : Nat) (ihB : Does b g cap ts sent 281 (brkP ts f)) (ihL : DoesL b g cap ts sent 36 (pList ts f)) : DoesO b g cap ts sent (f + 1) := by
  intro w i d r hd hi hit hS hE hr
  have hbl := hS.blt
  have F := T.fix
  have hlen := F.good.text i
  have HR := Lib.hid hr.out
  rw [pOne] at HR
  have IHB := Lib.hid ihB
  have IHL := Lib.hid ihL
  have hmf : ∀ (fn : Fn) (first cap : Array Value) (w : World), (Instr.makeFunc fn first cap).run Tryz.prog w = .ok (.func fn first cap) w := fun _ _ _ _ => rfl
  clear hr ihB ihL
  go_enter Tryz.func261, Tryz.ntmps261
  go_wp2_with fail
  refine (pNow_any F hS hi).mono ?_
  rintro e w1 ⟨rfl, hb1⟩
  unfold BTok.cells
  have hB2 := Blk.new w1 [Value.int .i64 (tkAt ts i).kind, .int .i64 (tkAt ts i).place, .int .i64 (tkAt ts i).num, .string (bs (tkAt ts i).text), .bool (tkAt ts i).glue] 107
  have hb2 := bNext hb1 ((Below.refl _ w1).alloc (Nat.le_refl _) (.cells #[Value.int .i64 (tkAt ts i).kind, .int .i64 (tkAt ts i).place, .int .i64 (tkAt ts i).num, .string (bs (tkAt ts i).text), .bool (tkAt ts i).glue] 107))
  have hS2 := hS.below hb2
  have hE2 := hE.below hb2
  have hK2 := (Kept.refl (At b) w).andBelow hb2
  have hsz1 := hb1.size
  clear hS hE hb1 hb2
  go_wp2_with fail
  refine (cNewS_any 2 0 (tkAt ts i).text [] b _ _ (by simp; omega) (KSl.nil _ _) (by simp) (by simp)).mono ?_
  rintro e w3 ⟨v3, rfl, hV, hb3⟩
  have hB3 := hB2.below hb3
  have hS3 := hS2.below hb3
  have hE3 := hE2.below hb3
  have hK3 := hK2.andBelow hb3
  have hsz3 := hK3.size
  clear hB2 hS2 hE2 hK2 hb3
  have tc0 := hB3.cell 0 rfl
  have tc1 := hB3.cell 1 rfl
  have tc2 := hB3.cell 2 rfl
  have tc3 := hB3.cell 3 rfl
  have tc4 := hB3.cell 4 rfl
  have tf0 := hB3.free 0
  have tf1 := hB3.free 1
  have tf2 := hB3.free 2
  have tf3 := hB3.free 3
  have tf4 := hB3.free 4
  have hlt3 := hB3.lt
  generalize w1.heap.size = tb at *
  unfold itemP at hit
  rw [isK_iff] at hit
  simp only [List.mem_cons, List.not_mem_nil, or_false] at hit
  rcases hit with hk | hk | hk | hk | hk | hk | hk | hk
  · rw [show (((tkAt ts i).kind : Nat) : Int) = 18 by rw [hk]; rfl] at tc0
    rw [hk] at HR
    repeat rw [if_neg (by decide)] at HR
    rw [if_pos (by decide)] at HR
    obtain ⟨ga, gc, rfl, -⟩ := hV
    go_wp2_with fail
    refine (cLit_any (tkAt ts i).text b w3 (by omega)).mono ?_
    rintro e w4 ⟨v4, rfl, hN4, hb4⟩
    have hS4 := hS3.below hb4
    have hK4 := hK3.andBelow hb4
    have HX := Lib.hid (some_ok HR.out)
    clear HR
    obtain ⟨ga, gc, rfl, -⟩ := id hN4
    go_wp2_with fail
    refine (pSkip_any F hS4 hi).mono ?_
    rintro e w9 ⟨rfl, hS9, hK9⟩
    go_wp2_with fail
    go_ret2
    exact POut.ok HX.out rfl (hN4.kept hK9) hS9 (hK4.same hK9)
  · rw [show (((tkAt ts i).kind : Nat) : Int) = 19 by rw [hk]; rfl] at tc0
    rw [hk] at HR
    repeat rw [if_neg (by decide)] at HR
    rw [if_pos (by decide)] at HR
    obtain ⟨ga, gc, rfl, -⟩ := hV
    go_wp2_with fail
    refine (cLit_any (tkAt ts i).text b w3 (by omega)).mono ?_
    rintro e w4 ⟨v4, rfl, hN4, hb4⟩
    have hS4 := hS3.below hb4
    have hK4 := hK3.andBelow hb4
    have HX := Lib.hid (some_ok HR.out)
    clear HR
    obtain ⟨ga, gc, rfl, -⟩ := id hN4
    go_wp2_with fail
    refine (pSkip_any F hS4 hi).mono ?_
    rintro e w9 ⟨rfl, hS9, hK9⟩
    go_wp2_with fail
    go_ret2
    exact POut.ok HX.out rfl (hN4.kept hK9) hS9 (hK4.same hK9)
  · rw [show (((tkAt ts i).kind : Nat) : Int) = 20 by rw [hk]; rfl] at tc0
    rw [hk] at HR
    repeat rw [if_neg (by decide)] at HR
    have HX := Lib.hid (some_ok HR.out)
    clear HR
    obtain ⟨ga, gc, rfl, -⟩ := id hV
    go_wp2_with fail
    refine (pSkip_any F hS3 hi).mono ?_
    rintro e w9 ⟨rfl, hS9, hK9⟩
    go_wp2_with fail
    go_ret2
    exact POut.ok HX.out rfl (hV.kept hK9) hS9 (hK3.same hK9)
  · rw [show (((tkAt ts i).kind : Nat) : Int) = 21 by rw [hk]; rfl] at tc0
    rw [hk] at HR
    repeat rw [if_neg (by decide)] at HR
    rw [if_pos (by decide)] at HR
    obtain ⟨ga, gc, rfl, -⟩ := id hV
    have HN := Lib.hid (cNewS_any 10 0 [] [newP 2 0 (tkAt ts i).text []] b _ _ (by simp; omega) (KSl.new1 (w := w3) (by omega) (.inl hV)) (by simp [newP]) (by simp))
    go_wp2_with fail
    refine HN.out.mono ?_
    rintro e w4 ⟨v4, rfl, hN4, hb4⟩
    have hb5 := bNext ((Below.refl _ w3).alloc (Nat.le_refl _) _) hb4
    have hS4 := hS3.below hb5
    have hK4 := hK3.andBelow hb5
    clear hS3 hK3 hb4 hb5 HN
    have HX := Lib.hid (some_ok HR.out)
    clear HR
    obtain ⟨ga, gc, rfl, -⟩ := id hN4
    go_wp2_with fail
    refine (pSkip_any F hS4 hi).mono ?_
    rintro e w9 ⟨rfl, hS9, hK9⟩
    go_wp2_with fail
    go_ret2
    exact POut.ok HX.out rfl (hN4.kept hK9) hS9 (hK4.same hK9)
  · rw [show (((tkAt ts i).kind : Nat) : Int) = 22 by rw [hk]; rfl] at tc0
    rw [hk] at HR
    repeat rw [if_neg (by decide)] at HR
    rw [if_pos (by decide)] at HR
    obtain ⟨ga, gc, rfl, -⟩ := id hV
    have HN := Lib.hid (cNewS_any 9 0 [] [newP 2 0 (tkAt ts i).text []] b _ _ (by simp; omega) (KSl.new1 (w := w3) (by omega) (.inl hV)) (by simp [newP]) (by simp))
    go_wp2_with fail
    refine HN.out.mono ?_
    rintro e w4 ⟨v4, rfl, hN4, hb4⟩
    have hb5 := bNext ((Below.refl _ w3).alloc (Nat.le_refl _) _) hb4
    have hS4 := hS3.below hb5
    have hK4 := hK3.andBelow hb5
    clear hS3 hK3 hb4 hb5 HN
    have HX := Lib.hid (some_ok HR.out)
    clear HR
    obtain ⟨ga, gc, rfl, -⟩ := id hN4
    go_wp2_with fail
    refine (pSkip_any F hS4 hi).mono ?_
    rintro e w9 ⟨rfl, hS9, hK9⟩
    go_wp2_with fail
    go_ret2
    exact POut.ok HX.out rfl (hN4.kept hK9) hS9 (hK4.same hK9)
  · rw [show (((tkAt ts i).kind : Nat) : Int) = 23 by rw [hk]; rfl] at tc0
    rw [hk] at HR
    repeat rw [if_neg (by decide)] at HR
    rw [if_pos (by decide)] at HR
    obtain ⟨ga, gc, rfl, -⟩ := hV
    have HN1 := Lib.hid (show Calls Tryz.prog 25 #[.int .i64 2, .int .i64 0, .string ⟨#[42]⟩, .slice none 0 0] w3.drew fun e w' => ∃ v', e = .returned v' ∧ NSl w' b v' (newP 2 0 [42] []) ∧ Below w3.heap.size w3 w' from by
      refine (cNewS_any 2 0 [42] [] b _ w3.drew (by simp; omega) (KSl.nil _ _) (by simp) (by simp)).mono ?_
      rintro e w' ⟨v', rfl, h1, h2⟩
      exact ⟨v', rfl, h1, ((Below.refl _ w3).drew).trans h2⟩)
    obtain ⟨num, hnum⟩ : ∃ num : Int, (((tkAt ts i).num : Nat) : Int) = num := ⟨_, rfl⟩
    have HN2 := Lib.hid (show ∀ (w9 : World) (u : Value), b < w9.heap.size → NSl w9 b u (newP 2 0 [42] []) → Calls Tryz.prog 25 #[.int .i64 11, .int .i64 num, .string ⟨#[]⟩, .slice (some ⟨w9.heap.size, 0, none⟩) 1 1] (w9.alloc (.cells #[u] 23)) fun e w' => ∃ v', e = .returned v' ∧ NSl w' b v' (newP 11 num [] [newP 2 0 [42] []]) ∧ Below (w9.alloc (.cells #[u] 23)).heap.size (w9.alloc (.cells #[u] 23)) w' from fun w9 u h1 h2 => cNewS_any 11 num [] [newP 2 0 [42] []] b _ _ (by simp; omega) (KSl.new1 (w := w9) (u := u) h1 (.inl h2)) (by simp [newP]) (by simp))
    rw [hnum] at tc2 HR
    go_wp2_with fail
    go_region_held3 (fun w' => w'.cell? ⟨tb, 2, none⟩ = some (.int .i64 num)) (first | exact bSome hb5 tc2 | exact bSome hb7 tc2 | go_keep)
      (first
        | (go_at_call 25; (with_reducible refine HN1.out.mono ?_); rintro e w5 ⟨v5, rfl, hN5, hb5⟩; obtain ⟨g5, c5, rfl, -⟩ := id hN5; have hlt5 : b < w5.heap.size := Nat.lt_of_lt_of_le (by omega) hb5.size)
        | (go_at_call 25; (with_reducible refine (HN2.out _ _ hlt5 hN5).mono ?_); rintro e w6 ⟨v6, rfl, hN6, hb6⟩; have hb7 := bNext hb5 (bNextW hb6)))
    have hS6 := hS3.below hb7
    have hK6 := hK3.andBelow hb7
    clear hS3 hK3
    have HX := Lib.hid (some_ok HR.out)
    clear HR
    obtain ⟨ga, gc, rfl, -⟩ := id hN6
    go_wp2_with fail
    refine (pSkip_any F hS6 hi).mono ?_
    rintro e w9 ⟨rfl, hS9, hK9⟩
    go_wp2_with fail
    go_ret2
    exact POut.ok HX.out rfl (hN6.kept hK9) hS9 (hK6.same hK9)
  · rw [show (((tkAt ts i).kind : Nat) : Int) = 6 by rw [hk]; rfl] at tc0
    rw [hk] at HR
    repeat rw [if_neg (by decide)] at HR
    rw [if_pos (by decide)] at HR
    have HD := Lib.hid (pDeeper_bracket T (brkP ts f) IHB.out w3 i d r hd hi hS3 hE3 (Lib.hid HR.out))
    obtain ⟨ga, gc, rfl, -⟩ := hV
    go_wp2_with fail
    refine HD.out.mono ?_
    rintro e w4 hp
    have hq := Lib.hid ((hp.after hK3).mono (show 60000 * (31 - d) ≤ 60000 * (32 - d) by omega))
    obtain ⟨v, u, rfl⟩ := hp.tuple
    go_wp2_with fail
    go_ret2
    exact hq.out
  · rw [show (((tkAt ts i).kind : Nat) : Int) = 10 by rw [hk]; rfl] at tc0
    rw [hk] at HR
    repeat rw [if_neg (by decide)] at HR
    rw [if_pos (by decide)] at HR
    have hj := (skP_le (ts := ts) hi).2
    obtain ⟨j, hjj⟩ : ∃ j, skP ts i = j := ⟨_, rfl⟩
    rw [hjj] at HR hj
    obtain ⟨ga, gc, rfl, -⟩ := hV
    go_wp2_with fail
    refine (pSkip_any F hS3 hi).mono ?_
    rintro e w4 ⟨rfl, hS4, hK4⟩
    rw [hjj] at hS4
    have hE4 := hE3.kept hK4
    have hK5 := hK3.same hK4
    have hsz5 := hK5.size
    clear hS3 hE3 hK3 hK4 tc0 tc1 tc2 tc3 tc4 tf0 tf1 tf2 tf3 tf4 hB3
    cases hq : pList ts f d j with
    | none =>
      rw [hq] at HR
      exact absurd HR.out (by simp [PRes.go])
    | some rc =>
      rw [hq] at HR
      have HD := Lib.hid (IHL.out w4 j d rc hd hj hS4 hE4 (Lib.hid hq))
      clear hS4
      go_wp2_with fail
      refine HD.out.mono ?_
      cases rc with
      | error e0 =>
        obtain ⟨c0, p0⟩ := e0
        have HX := Lib.hid (some_err HR.out)
        clear HR hq HD
        rintro e w5 ⟨hK6, v, u, j', l0, rfl, h0, hl0, ⟨eb, rfl, q2, q3⟩, hS5⟩
        have hsz6 := hK6.size
        obtain ⟨va, vc, rfl⟩ := h0.form
        have HN := Lib.hid (cNewS_any 12 0 [] [l0] b _ _ (by simp; omega) (KSl.new1 (w := w5) (by omega) h0) (by simp; omega) (by simp))
        go_wp2_with fail
        refine HN.out.mono ?_
        rintro e w6 ⟨v6, rfl, hN6, hb6⟩
        have hb7 := bNext ((Below.refl _ w5).alloc (Nat.le_refl _) _) hb6
        have hP := Lib.hid (PErr.kept (w := w) (w' := w5) (w'' := w6) (b := b) ⟨eb, rfl, q2, by omega⟩ hbl (Kept.ofBelow hb7))
        obtain ⟨g4, c4, rfl, -⟩ := id hN6
        go_wp2_with fail
        go_ret2
        exact POut.bad HX.out rfl (.inl hN6) (by rw [(len_one _ _ _ _).1]; omega) hP.out (hS5.below hb7) ((hK5.same hK6).andBelow hb7)
      | ok q =>
        obtain ⟨l, k⟩ := q
        have hk2 := list_lt T hj hq
        have hll := list_len T hj hq
        have HR2 := Lib.hid (show (if isK ts k [9] = true then pOk (newP 12 0 [] [l]) (skP ts k) else formP ts k) = some r from HR.out)
        clear HR hq HD
        rintro e w5 ⟨hK6, v, rfl, hN, hS5⟩
        have hE5 := hE4.kept hK6
        have hK7 := hK5.same hK6
        have hsz7 := hK7.size
        obtain ⟨va, vc, rfl, -⟩ := id hN
        clear hE4 hK5 hK6
        by_cases x0 : isK ts k [9] = true
        · rw [if_pos x0] at HR2
          have HX := Lib.hid (some_ok HR2.out)
          clear HR2
          go_wp2_with fail
          refine (pTake_yes F (hS5.alloc _) hk2 [9] _ _ (by decide) (show Blk _ _ [Value.int .i64 9] from Blk.new _ _ _) x0).mono ?_
          rintro e w6 ⟨rfl, hS6, hK7⟩
          have hK8 := ((Kept.refl (At b) w5).alloc (.cells #[Value.int .i64 9] 3)).same hK7
          clear hK7
          have hN6 := hN.kept hK8
          have hK9 := hK7.same hK8
          have hsz9 := hK9.size
          have HN := Lib.hid (cNewS_any 12 0 [] [l] b _ _ (by simp; omega) (KSl.new1 (w := w6) (by omega) (.inl hN6)) (by simp; omega) (by simp))
          go_wp2_with fail
          refine HN.out.mono ?_
          rintro e w8 ⟨v8, rfl, hN8, hb8⟩
          have hb9 := bNext ((Below.refl _ w6).alloc (Nat.le_refl _) _) hb8
          obtain ⟨g4, c4, rfl, -⟩ := id hN8
          go_wp2_with fail
          go_ret2
          exact POut.ok HX.out rfl hN8 (hS6.below hb9) (hK9.andBelow hb9)
        · have x0 : isK ts k [9] = false := by simpa using x0
          rw [x0, if_neg (by simp)] at HR2
          have HX2 := Lib.hid (form_code HR2.out)
          clear HR2
          go_wp2_with fail
          refine (pTake_no F (hS5.alloc _) hk2 [9] _ _ (by decide) (show Blk _ _ [Value.int .i64 9] from Blk.new _ _ _) x0 sent (hE5.env.below ((Below.refl _ _).alloc (Nat.le_refl _) _))).mono ?_
          rintro e w7 ⟨eb, rfl, hE7, hl7, hb7⟩
          have hb8 := bNext ((Below.refl _ w5).alloc (Nat.le_refl _) (.cells #[Value.int .i64 9] 3)) hb7
          have hl8 : w.heap.size ≤ eb := by have := hl7; simp at this; omega
          have hsz8 := hb8.size
          clear hl7
          have HN := Lib.hid (cNewS_any 12 0 [] [l] b _ _ (by simp; omega) (KSl.new1 (w := w7) (by omega) (.inl (hN.below hb8))) (by simp; omega) (by simp))
          go_wp2_with fail
          refine HN.out.mono ?_
          rintro e w9 ⟨v9, rfl, hN9, hb9⟩
          have hba := bNext ((Below.refl _ w7).alloc (Nat.le_refl _) _) hb9
          have hP := Lib.hid (PErr.kept (w := w) (w' := w7) (w'' := w9) (b := b) ⟨eb, rfl, hE7, hl8⟩ hbl (Kept.ofBelow hba))
          obtain ⟨g4, c4, rfl, -⟩ := id hN9
          go_wp2_with fail
          go_ret2
          exact POut.bad HX2.out rfl (.inl hN9) (by rw [(len_one _ _ _ _).1]; omega) hP.out ((hS5.below hb8).below hba) ((hK7.andBelow hb8).andBelow hba)

end Go.Proofs.YtepebnblbheegaaGreatDoor
