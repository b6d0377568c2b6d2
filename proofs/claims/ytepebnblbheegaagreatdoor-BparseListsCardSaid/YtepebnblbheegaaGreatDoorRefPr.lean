/- The document's text of a program: Print (patoisref5), of programs whose texts are plain. -/
import Derived.Test.YtepebnblbheegaaGreatDoorRefG
namespace Go.Proofs.YtepebnblbheegaaGreatDoor
open Go Go.RowKit

theorem bs_app9 (l m : List UInt8) : bs l ++ bs m = bs (l ++ m) := by
  unfold bs
  apply ByteArray.ext
  apply Array.ext'
  simp
theorem kindName_len (k : Int) : (kindName k).length ≤ 6 := by
  unfold kindName
  rw [List.getD_eq_getElem?_getD]
  by_cases h : k.toNat - 1 < kindNames.length
  · rw [List.getElem?_eq_getElem h]
    have h2 : ∀ s ∈ kindNames, s.length ≤ 6 := by decide
    exact h2 _ (List.getElem_mem h)
  · rw [List.getElem?_eq_none (by omega)]
    simp
/-- A node's text. -/
def headOf (kind n : Nat) (s : List UInt8) : List UInt8 := 40 :: (kindName kind ++ ((if n = 0 then [] else [32, UInt8.ofNat (48 + n)]) ++ (if namedR kind = true then 32 :: 34 :: (s ++ [34]) else [])))
def kidsOf (ts : List (List UInt8)) : List UInt8 := ts.flatMap fun t => 32 :: t
def printOf (kind n : Nat) (s : List UInt8) (ts : List (List UInt8)) : List UInt8 := headOf kind n s ++ kidsOf ts ++ [41]
/-- A program and its text. -/
inductive Prints : Prog → List UInt8 → Prop
  | node (kind n : Nat) (s : List UInt8) (kids : List Prog) (ts : List (List UInt8)) (hk : kindOk kind = true) (hn : n < 10) (hs : ∀ c ∈ s, plainC c = true) (hs2 : s.length ≤ 1000) (hkn : kids.length ≤ 100) (hlen : ts.length = kids.length)
    (hK : ∀ (j : Nat) (kid : Prog) (t : List UInt8), kids[j]? = some kid → ts[j]? = some t → Prints kid t) (hl : (printOf kind n s ts).length ≤ 10000) (hz : (newP kind n s kids).length ≤ 10000) : Prints (newP kind n s kids) (printOf kind n s ts)
theorem Prints.size {l : Prog} {t : List UInt8} (h : Prints l t) : 0 < l.length ∧ (ndAt l 0).size = l.length ∧ t.length ≤ 10000 := by
  cases h with
  | node kind n s kids ts hk hn hs hs2 hkn hlen hK hl hz => exact ⟨by rw [newP]; simp, by rw [newP]; simp [ndAt], hl⟩

set_option maxHeartbeats 4000000 in
set_option maxRecDepth 100000 in
theorem rNumber_small9 (n : Nat) (w : World) (hn : n < 10) :
    Calls Tryz.prog 30 #[.int .i64 n] w fun e w' => e = .returned (.string (bs [UInt8.ofNat (48 + n)])) ∧ Below w.heap.size w w' := by
  obtain ⟨c, hc⟩ : ∃ c, UInt8.ofNat (48 + n) = c := ⟨_, rfl⟩
  have hcn : (c.toNat : Int) = 48 + (n : Int) := by
    rw [← hc]
    simp [UInt8.toNat_ofNat]
    omega
  have HC : ∀ (w : World) (b : Nat), w.cell? ⟨b, 0, none⟩ = some (.int .u8 (48 + (n : Int))) → (convert 91 9 (.slice (some ⟨b, 0, none⟩) 1 1)).run Tryz.prog w = .ok (.string (bs [c])) w := fun w b h => by
    refine run_convert_bytes_back _ _ _ 5 ⟨b, 0, none⟩ 1 [c] Tryz.underlying91 Tryz.underlying5 Tryz.underlying9 ?_
    intro j hj
    have : j = 0 := by simp at hj; omega
    subst this
    show w.cell? ⟨b, 0, none⟩ = _
    rw [h, ← hcn]
    rfl
  rw [hc]
  clear hc
  go_enter Tryz.func30, Tryz.ntmps30
  go_wp2_with fail
  go_ret
  exact ⟨rfl, (Below.refl _ _).alloc (Nat.le_refl _) _⟩

theorem kidsOf_take (ts : List (List UInt8)) (k : Nat) (h : k < ts.length) : kidsOf (ts.take (k + 1)) = kidsOf (ts.take k) ++ (32 :: ts[k]) := by
  unfold kidsOf
  rw [List.take_succ_eq_append_getElem h, List.flatMap_append]
  simp
theorem kidsOf_len (ts : List (List UInt8)) (k : Nat) : (kidsOf (ts.take k)).length ≤ (kidsOf ts).length := by
  have h : kidsOf ts = kidsOf (ts.take k) ++ kidsOf (ts.drop k) := by
    unfold kidsOf
    rw [← List.flatMap_append, List.take_append_drop]
  rw [h, List.length_append]
  omega

set_option maxHeartbeats 16000000 in
set_option maxRecDepth 100000 in
theorem r5Print_any {l : Prog} {t : List UInt8} (h : Prints l t) : ∀ (w : World) (v : Value), NSlo w v l → Calls Tryz.prog 62 #[v] w fun e w' => e = .returned (.string (bs t)) ∧ Below w.heap.size w w' := by
  induction h with
  | node kind n s kids ts hk hn hs hs2 hkn hlen hK hl hz ih =>
    intro w v hN
    have HIH := Lib.hid ih
    have HKK := Lib.hid hK
    have hko : KidsOk kids := fun kid hkid => by
      obtain ⟨j, hj⟩ := List.getElem?_of_mem hkid
      have hjl := (List.getElem?_eq_some_iff.1 hj).1
      have h9 := (hK j kid ts[j] hj (List.getElem?_eq_getElem (by omega))).size
      exact ⟨h9.1, h9.2.1⟩
    have HKI := Lib.hid (fun (w9 : World) (v9 : Value) (h9 : NSlo w9 v9 (newP kind n s kids)) => r5Kids_any kind n s kids v9 w9 h9 hko (by omega))
    have HN := Lib.hid hN
    obtain ⟨g, o, cap, rfl, hc1, hc2, -, -⟩ := hN
    obtain ⟨c0, c1, c2, c3, c4⟩ := HN.out.facts (k := 0) (x := ⟨kind, n, kids.length, kids.flatten.length + 1, s⟩) rfl
    dsimp only at c0 c1 c2 c3 c4
    simp only [Nat.zero_mul, Nat.add_zero] at c0 c1 c2 c3 c4
    clear c2 c3
    have hpl : 0 < (newP kind n s kids).length := by rw [newP]; simp
    have hpos : (((newP kind n s kids).length : Int) == 0) = false := by rw [beq_eq_false_iff_ne]; omega
    have HPR := Lib.hid (show printOf kind n s ts = headOf kind n s ++ kidsOf ts ++ [41] from rfl)
    generalize (newP kind n s kids).length = N at *
    have hq : ∀ i, i < (bs s).size → plainC (bat (bs s) i) = true := fun i hi => by
      rw [bs_size] at hi
      unfold bat
      rw [bs_list, List.getD_eq_getElem?_getD, List.getElem?_eq_getElem hi]
      exact hs _ (List.getElem_mem hi)
    have HQ := Lib.hid (fun (w9 : World) => r5Quote_plain (bs s) w9 (by rw [bs_size]; omega) hq)
    simp only [bs_list] at HQ
    clear hq hs ih hK
    go_enter Tryz.func62, Tryz.ntmps62
    go_wp2_with fail
    refine (r5Kind_any kind w hk).mono ?_
    rintro e w1 ⟨rfl, hb1⟩
    have c0 := bSome hb1 c0
    have c1 := bSome hb1 c1
    have c4 := bSome hb1 c4
    have hn1 : (bs (kindName kind)).size ≤ 6 := by rw [bs_size]; exact kindName_len _
    have HH := Lib.hid (show headOf kind n s = 40 :: (kindName kind ++ ((if n = 0 then [] else [32, UInt8.ofNat (48 + n)]) ++ (if namedR kind = true then 32 :: 34 :: (s ++ [34]) else []))) from rfl)
    generalize headOf kind n s = hd at *
    generalize kindName kind = nm at *
    go_upto_if 19 with fail
    obtain ⟨p1, hp1⟩ : ∃ p1, 40 :: (nm ++ (if n = 0 then [] else [32, UInt8.ofNat (48 + n)])) = p1 := ⟨_, rfl⟩
    have HP1 := Lib.hid hp1
    have hp1z : (bs p1).size ≤ 20 := by rw [← hp1, bs_size, List.length_cons, List.length_append]; rw [bs_size] at hn1; split <;> simp <;> omega
    have HHD := Lib.hid (show hd = p1 ++ (if namedR kind = true then 32 :: 34 :: (s ++ [34]) else []) from by rw [HH.out, ← hp1, List.cons_append, List.append_assoc])
    clear hp1
    go_cut [3] (fun s3 w2 => s3 = .string (bs p1) ∧ Below w1.heap.size w1 w2)
    case first =>
      by_cases h0 : n = 0
      · subst h0
        go_wp2_with fail
        go_meet
        case rel => exact ⟨by rw [← HP1.out]; exact congrArg Value.string (by rw [show (⟨#[40]⟩ : ByteArray) = bs [40] from rfl, bs_app9]; simp), Below.refl _ _⟩
      · have h1 : ((n : Int) == 0) = false := by rw [beq_eq_false_iff_ne]; omega
        have hdz : (bs [UInt8.ofNat (48 + n)]).size ≤ 1 := by rw [bs_size]; simp
        go_wp2_with fail
        refine (rNumber_small9 n _ hn).mono ?_
        rintro e w2 ⟨rfl, hb2⟩
        generalize hdd : UInt8.ofNat (48 + n) = dg at *
        have hfin : (⟨#[40]⟩ : ByteArray) ++ bs nm ++ ⟨#[32]⟩ ++ bs [dg] = bs p1 := by
          rw [← HP1.out, if_neg h0]
          have e1 : (⟨#[40]⟩ : ByteArray) = bs [40] := rfl
          have e2 : (⟨#[32]⟩ : ByteArray) = bs [32] := rfl
          rw [e1, e2, bs_app9, bs_app9, bs_app9]
          simp
        have hz3 : ((⟨#[40]⟩ : ByteArray) ++ bs nm ++ ⟨#[32]⟩).size ≤ 10 := by
          have e1 : (⟨#[40]⟩ : ByteArray) = bs [40] := rfl
          have e2 : (⟨#[32]⟩ : ByteArray) = bs [32] := rfl
          rw [e1, e2, bs_app9, bs_app9, bs_size]
          rw [bs_size] at hn1
          simp
          omega
        go_wp2_with fail
        go_meet
        case rel => exact ⟨rfl, hb2⟩
    case rest =>
      rename World => w2
      obtain ⟨rfl, hb2⟩ := hcut
      have c0 := bSome hb2 c0
      have c4 := bSome hb2 c4
      have hb3 := bNext hb1 hb2
      clear hb1 hb2 c1
      go_upto_if 32 with (go_at_call 104; refine (r5named_any _ _).mono ?_; rintro e w9 ⟨rfl, hw9⟩; obtain rfl := hw9.symm)
      generalize namedR kind = nr at *
      have HHD2 := Lib.hid HHD.out
      go_cut [3] (fun s3 w3 => s3 = .string (bs hd) ∧ Below w2.heap.size w2 w3)
      case first =>
        cases nr with
        | true =>
          have hz3 : (bs p1 ++ (⟨#[32]⟩ : ByteArray)).size ≤ 30 := by
            rw [show (⟨#[32]⟩ : ByteArray) = bs [32] from rfl, bs_app9, bs_size]
            rw [bs_size] at hp1z
            simp
            omega
          have hz4 : (bs (34 :: (s ++ [34]))).size ≤ 1010 := by rw [bs_size]; simp; omega
          have hfin : bs p1 ++ (⟨#[32]⟩ : ByteArray) ++ bs (34 :: (s ++ [34])) = bs hd := by
            rw [show (⟨#[32]⟩ : ByteArray) = bs [32] from rfl, bs_app9, bs_app9, HHD2.out]
            simp
          go_wp2_with fail
          refine (HQ.out _).mono ?_
          rintro e w3 ⟨rfl, hb4⟩
          generalize bs (34 :: (s ++ [34])) = qs at *
          go_wp2_with fail
          go_meet
          case rel => exact ⟨rfl, hb4⟩
        | false =>
          go_wp2_with fail
          go_meet
          case rel => exact ⟨by rw [HHD2.out]; simp, Below.refl _ _⟩
      case rest =>
        rename World => w4
        obtain ⟨rfl, hb4⟩ := hcut
        have hb5 := bNext hb3 hb4
        clear hb3 hb4 c0 c4
        have hN4 := HN.out.below hb5
        go_wp2_with fail
        refine (HKI.out _ _ hN4).mono ?_
        rintro e w5 ⟨v5, rfl, hO5, hb6⟩
        have hb7 := bNext hb5 hb6
        obtain ⟨ao, ac, rfl⟩ := hO5.form
        obtain ⟨us, u1, u2, u3⟩ := hO5
        have HROW := Lib.hid (show ∀ k, k < kids.length → ∃ gk u, ao = some ⟨gk, 0, none⟩ ∧ w5.cell? ⟨gk, k, none⟩ = some u ∧ kids.length ≤ ac ∧ ∃ kid, kids[k]? = some kid ∧ NSlo w5 u kid from fun k hk => by
          obtain ⟨gk, cap2, e1, e2, e3, e4, e5, e6⟩ := row_cell u2 (by omega)
          cases e1
          have hu : us[k]? = some us[k] := List.getElem?_eq_getElem (by omega)
          have hkk := List.getElem?_eq_getElem hk
          exact ⟨gk, us[k], rfl, e6 k _ hu, e2, kids[k], hkk, u3 k _ _ hu hkk⟩)
        have HTL := Lib.hid hlen
        have htl : hd.length + (kidsOf ts).length + 1 ≤ 10000 := by
          rw [HPR.out, List.length_append, List.length_append] at hl
          simpa using hl
        clear u1 u2 u3 hlen hl HN HKI hN4
        obtain ⟨K, hKK⟩ : ∃ K, kids.length = K := ⟨_, rfl⟩
        have HKL := Lib.hid hKK
        rw [hKK] at hkn HROW ⊢
        clear hKK
        go_wp2_with fail
        go_loopg [3, 5] K (fun m s3 s5 wr => ∃ k : Nat, m = K - k ∧ k ≤ K ∧ s3 = .string (bs (hd ++ kidsOf (ts.take k))) ∧ s5 = .int .i64 k ∧ Below w5.heap.size w5 wr)
        case atStart => exact ⟨0, rfl, Nat.zero_le _, by simp [kidsOf], rfl, Below.refl _ _⟩
        case round =>
          obtain ⟨k, rfl, hk, rfl, rfl, hb8⟩ := hrel
          have hkl := kidsOf_len ts k
          have haz : (bs (hd ++ kidsOf (ts.take k))).size ≤ 10000 := by rw [bs_size, List.length_append]; omega
          by_cases hlt : k < K
          · obtain ⟨gk, u, rfl, hu, hac, kid, hkid, hNk⟩ := HROW.out k hlt
            have hu := bSome hb8 hu
            have htk : k < ts.length := by have := HTL.out; have := HKL.out; omega
            have htget := List.getElem?_eq_getElem htk
            have hNk := hNk.below hb8
            have HP := Lib.hid (HIH.out k kid ts[k] hkid htget wr u hNk)
            have hsz9 := (HKK.out k kid ts[k] hkid htget).size.2.2
            have hfin : bs (hd ++ kidsOf (ts.take k)) ++ (⟨#[32]⟩ : ByteArray) ++ bs ts[k] = bs (hd ++ kidsOf (ts.take (k + 1))) := by
              rw [show (⟨#[32]⟩ : ByteArray) = bs [32] from rfl, bs_app9, bs_app9, kidsOf_take ts k htk]
              simp
            have HF := Lib.hid hfin
            have hz5 : (bs (hd ++ kidsOf (ts.take k)) ++ (⟨#[32]⟩ : ByteArray)).size ≤ 10010 := by
              rw [show (⟨#[32]⟩ : ByteArray) = bs [32] from rfl, bs_app9, bs_size]
              rw [bs_size] at haz
              simp at haz ⊢
              omega
            have hz6 : (bs ts[k]).size ≤ 10000 := by rw [bs_size]; exact hsz9
            clear hfin htget hkid hsz9
            generalize bs ts[k] = tb at *
            generalize bs (hd ++ kidsOf (ts.take k)) = acc at *
            obtain ⟨g9, o9, c9, rfl, -⟩ := hNk
            have hwk : IntKind.i64.wrap ((k : Int) + 1) = (k : Int) + 1 := by rw [IntKind.wrap_i64]; omega
            go_wp2_with fail
            refine HP.out.mono ?_
            rintro e w6 ⟨rfl, hb9⟩
            go_wp2_with fail
            go_roundg (K - (k + 1))
            case measure => omega
            case rel => exact ⟨k + 1, rfl, by omega, congrArg Value.string HF.out, by simp, hb8.trans (hb9.mono hb8.size)⟩
          · obtain rfl : k = K := by omega
            have hall : ts.take k = ts := List.take_of_length_le (by have := HTL.out; have := HKL.out; omega)
            rw [hall] at haz ⊢
            have hfin : bs (hd ++ kidsOf ts) ++ (⟨#[41]⟩ : ByteArray) = bs (printOf kind n s ts) := by
              rw [show (⟨#[41]⟩ : ByteArray) = bs [41] from rfl, bs_app9, HPR.out]
            go_wp2_with fail
            go_ret
            exact ⟨rfl, hb7.trans (hb8.mono hb7.size)⟩

end Go.Proofs.YtepebnblbheegaaGreatDoor
