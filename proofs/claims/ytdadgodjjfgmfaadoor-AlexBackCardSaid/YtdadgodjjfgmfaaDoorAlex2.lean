/- Dialect A's reader: where a bracket ends, or a double quote. -/
import Derived.Test.YtdadgodjjfgmfaaDoorAlex1
import Derived.Test.YtdadgodjjfgmfaaDoorPureA4
namespace Go.Proofs.YtdadgodjjfgmfaaDoor
open Go Go.RowKit

theorem indexByte_idx (b : Nat) (c : UInt8) (hc : c.toNat = b) : ∀ l : List UInt8, (∀ n, idxA b l = some n → Lib.indexByte l c = n) ∧ (idxA b l = none → Lib.indexByte l c = -1)
  | [] => ⟨fun n h => (by cases h), fun _ => (by simp [Lib.indexByte])⟩
  | d :: l => by
    obtain ⟨h1, h2⟩ := indexByte_idx b c hc l
    rw [idxA]
    by_cases hd : d.toNat = b
    · have e : d = c := UInt8.toNat_inj.1 (hd.trans hc.symm)
      subst e
      rw [if_pos hd]
      exact ⟨fun n h => (by cases h; simp [Lib.indexByte]), fun h => (by cases h)⟩
    · have e : (d == c) = false := by
        rw [beq_eq_false_iff_ne]
        intro e
        exact hd (e ▸ hc)
      rw [if_neg hd]
      cases hx : idxA b l with
      | none =>
        refine ⟨fun n h => (by cases h), fun _ => ?_⟩
        simp only [Lib.indexByte, e, h2 hx]
        rfl
      | some m =>
        refine ⟨fun n h => ?_, fun h => (by cases h)⟩
        cases h
        simp only [Lib.indexByte, e, h1 m hx]
        rw [if_neg (by decide)]
        have : (((m : Int) == -1)) = false := by rw [beq_eq_false_iff_ne]; omega
        simp [this]

theorem subs_rest (s : ByteArray) (a : Int) (k : Nat) (ha : a.toNat = k) : subs s.data.toList a s.size = s.data.toList.drop k := by
  unfold subs
  rw [ha, Int.toNat_natCast, List.take_of_length_le (by rw [size_eq]; exact Nat.le_refl _)]

theorem idx_some (s : ByteArray) (a b : Int) (k n : Nat) (w : World) (ha : a.toNat = k) (hb : 0 ≤ b ∧ b < 256) (hx : Hid (idxA b.toNat (s.data.toList.drop k) = some n)) :
    Calls Tryd.prog 85 #[.string (bs (subs s.data.toList a s.size)), .int .u8 b] w fun e w' => e = .returned (.int .i64 n) ∧ w' = w := by
  refine (Tryd.strings_IndexByte _ _ _).mono ?_
  rintro e w' ⟨rfl, rfl⟩
  refine ⟨?_, rfl⟩
  rw [bs_list, subs_rest s a k ha, (indexByte_idx b.toNat b.toNat.toUInt8 (by rw [Nat.toUInt8, UInt8.toNat_ofNat']; omega) _).1 n hx.out]
theorem idx_none (s : ByteArray) (a b : Int) (k : Nat) (w : World) (ha : a.toNat = k) (hb : 0 ≤ b ∧ b < 256) (hx : Hid (idxA b.toNat (s.data.toList.drop k) = none)) :
    Calls Tryd.prog 85 #[.string (bs (subs s.data.toList a s.size)), .int .u8 b] w fun e w' => e = .returned (.int .i64 (-1)) ∧ w' = w := by
  refine (Tryd.strings_IndexByte _ _ _).mono ?_
  rintro e w' ⟨rfl, rfl⟩
  refine ⟨?_, rfl⟩
  rw [bs_list, subs_rest s a k ha, (indexByte_idx b.toNat b.toNat.toUInt8 (by rw [Nat.toUInt8, UInt8.toNat_ofNat']; omega) _).2 hx.out]

def scanRes : Option Nat → Value
  | some t => .tuple #[.int .i64 t, .bool true]
  | none => .tuple #[.int .i64 0, .bool false]

section
variable (s : ByteArray) (g o k : Nat)
theorem scan_end (m : Bool) (h : s.size ≤ k) : scanA s.data.toList (g + 1) m o k = none := by
  cases m <;> rw [scanA, if_pos (by rw [size_eq]; exact h)]
theorem close_back (h : k < s.size) (hc : (bat s k).toNat = 92) : scanA s.data.toList (g + 1) false o k = scanA s.data.toList g false o (k + 2) := by
  unfold bat at hc
  rw [scanA, if_neg (by rw [size_eq]; omega), if_pos hc]
theorem close_single (h : k < s.size) (hc : (bat s k).toNat = 39) : scanA s.data.toList (g + 1) false o k = match idxA 39 (s.data.toList.drop (k + 1)) with
      | none => none
      | some n => scanA s.data.toList g false o (k + 1 + n + 1) := by
  unfold bat at hc
  rw [scanA, if_neg (by rw [size_eq]; omega), if_neg (by omega), if_pos hc]
  rfl
theorem close_double (h : k < s.size) (hc : (bat s k).toNat = 34) : scanA s.data.toList (g + 1) false o k = match scanA s.data.toList g true 0 (k + 1) with
      | none => none
      | some t => scanA s.data.toList g false o (t + 1) := by
  unfold bat at hc
  rw [scanA, if_neg (by rw [size_eq]; omega), if_neg (by omega), if_neg (by omega), if_pos hc]
  rfl
theorem close_open (h : k < s.size) (hc : (bat s k).toNat = 40) : scanA s.data.toList (g + 1) false o k = scanA s.data.toList g false (o + 1) (k + 1) := by
  unfold bat at hc
  rw [scanA, if_neg (by rw [size_eq]; omega), if_neg (by omega), if_neg (by omega), if_neg (by omega), if_pos hc]
theorem close_here (h : k < s.size) (hc : (bat s k).toNat = 41) : scanA s.data.toList (g + 1) false o k = if o = 0 then some k else scanA s.data.toList g false (o - 1) (k + 1) := by
  unfold bat at hc
  rw [scanA, if_neg (by rw [size_eq]; omega), if_neg (by omega), if_neg (by omega), if_neg (by omega), if_neg (by omega), if_pos hc]
theorem close_on (h : k < s.size) (h1 : ¬ (bat s k).toNat = 92) (h2 : ¬ (bat s k).toNat = 39) (h3 : ¬ (bat s k).toNat = 34) (h4 : ¬ (bat s k).toNat = 40) (h5 : ¬ (bat s k).toNat = 41) : scanA s.data.toList (g + 1) false o k = scanA s.data.toList g false o (k + 1) := by
  unfold bat at h1 h2 h3 h4 h5
  rw [scanA, if_neg (by rw [size_eq]; omega), if_neg h1, if_neg h2, if_neg h3, if_neg h4, if_neg h5]
theorem quote_here (h : k < s.size) (hc : (bat s k).toNat = 34) : scanA s.data.toList (g + 1) true o k = some k := by
  unfold bat at hc
  rw [scanA, if_neg (by rw [size_eq]; omega), if_pos hc]
theorem quote_back (h : k < s.size) (hc : (bat s k).toNat = 92) : scanA s.data.toList (g + 1) true o k = scanA s.data.toList g true 0 (k + 2) := by
  unfold bat at hc
  rw [scanA, if_neg (by rw [size_eq]; omega), if_neg (by omega), if_pos hc]
theorem quote_open (h : k < s.size) (h1 : ¬ (bat s k).toNat = 34) (h2 : ¬ (bat s k).toNat = 92) (hp : Lib.hasPrefix (s.data.toList.drop k) [36, 40] = true) : scanA s.data.toList (g + 1) true o k = match scanA s.data.toList g false 0 (k + 2) with
      | none => none
      | some t => scanA s.data.toList g true 0 (t + 1) := by
  unfold bat at h1 h2
  rw [scanA, if_neg (by rw [size_eq]; omega), if_neg h1, if_neg h2, if_pos hp]
  rfl
theorem quote_on (h : k < s.size) (h1 : ¬ (bat s k).toNat = 34) (h2 : ¬ (bat s k).toNat = 92) (hp : Lib.hasPrefix (s.data.toList.drop k) [36, 40] = false) : scanA s.data.toList (g + 1) true o k = scanA s.data.toList g true 0 (k + 1) := by
  unfold bat at h1 h2
  rw [scanA, if_neg (by rw [size_eq]; omega), if_neg h1, if_neg h2, if_neg (by rw [hp]; decide)]
end

def CloseAt (s : ByteArray) (r q F : Nat) : Prop := ∀ (a : Int) (i : Nat) (w : World) (T : Option Nat), a = i → i ≤ s.size + 2 → s.size - i < F → w.cell? ⟨r, 0, none⟩ = some (.pointer (some ⟨q, 0, none⟩)) → w.cell? ⟨q, 0, none⟩ = some (.string s) →
  Hid (scanA s.data.toList F false 0 i = T) → Calls Tryd.prog 104 #[.pointer (some ⟨r, 0, none⟩), .int .i64 a] w fun e w' => e = .returned (scanRes T) ∧ Below w.heap.size w w'
def QuoteAt (s : ByteArray) (r q F : Nat) : Prop := ∀ (a : Int) (i : Nat) (w : World) (T : Option Nat), a = i → i ≤ s.size + 2 → s.size - i < F → w.cell? ⟨r, 0, none⟩ = some (.pointer (some ⟨q, 0, none⟩)) → w.cell? ⟨q, 0, none⟩ = some (.string s) →
  Hid (scanA s.data.toList F true 0 i = T) → Calls Tryd.prog 113 #[.pointer (some ⟨r, 0, none⟩), .int .i64 a] w fun e w' => e = .returned (scanRes T) ∧ Below w.heap.size w w'

set_option maxHeartbeats 4000000 in
set_option maxRecDepth 100000 in
theorem close_walk (s : ByteArray) (r q F : Nat) (hs : s.size ≤ 1000000) (hq : ∀ g, g < F → QuoteAt s r q g) : CloseAt s r q F := by
  intro a i w T ha hi hF hc0 hcs hT
  subst ha
  go_enter Tryd.func104, Tryd.ntmps104
  go_wp2_with fail
  go_loopg [1, 6] F (fun n c d wr => ∃ k o f : Nat, f = n ∧ c = .int .i64 k ∧ d = .int .i64 o ∧ k ≤ s.size + 2 ∧ o ≤ k ∧ s.size - k < f ∧ f ≤ F ∧ Below w.heap.size w wr ∧ Hid (scanA s.data.toList f false o k = T))
  case atStart => exact ⟨i, 0, F, rfl, rfl, rfl, hi, Nat.zero_le _, hF, Nat.le_refl _, Below.refl _ _, hT⟩
  case round =>
    clear hT hF hi
    obtain ⟨k, o, f, rfl, rfl, rfl, hk, ho, hf, hfF, hb, hT⟩ := hrel
    have c0 := bSome hb hc0
    have cs := bSome hb hcs
    obtain ⟨g, rfl⟩ : ∃ g, f = g + 1 := ⟨f - 1, by omega⟩
    clear hc0 hcs
    by_cases hlt : k < s.size
    · go_upto_block 2 with (first
        | (go_at_call 35; refine (bLen_any s _).mono ?_; rintro e w2 ⟨rfl, hb2⟩; have c02 := bSome hb2 c0; have cs2 := bSome hb2 cs)
        | (go_at_call 27; refine (bByte_in s k _ hs hlt).mono ?_; rintro e w3 ⟨rfl, hb3⟩; have c03 := bSome hb3 c02; have cs3 := bSome hb3 cs2))
      have hb4 := bNext (bNext hb hb2) hb3
      clear hb hb2 hb3 c0 cs c02 cs2
      by_cases h92 : (bat s k).toNat = 92
      · have HN := Lib.hid ((close_back s g o k hlt h92).symm.trans hT.out)
        have d1 : (((bat s k).toNat : Int) == 92) = true := by rw [beq_iff_eq]; omega
        clear h92 hT
        go_wp2_with fail
        go_roundg g
        case measure => omega
        case rel => exact ⟨k + 2, o, g, rfl, by go_num, rfl, by omega, by omega, by omega, by omega, hb4, HN⟩
      · have d1 : (((bat s k).toNat : Int) == 92) = false := by rw [beq_eq_false_iff_ne]; omega
        by_cases h39 : (bat s k).toNat = 39
        · have d2 : (((bat s k).toNat : Int) == 39) = true := by rw [beq_iff_eq]; omega
          cases hx : idxA 39 (s.data.toList.drop (k + 1)) with
          | none =>
            have HN : Hid (none = T) := Lib.hid (by rw [← hT.out, close_single s g o k hlt h39, hx])
            have HX := Lib.hid hx
            clear h92 h39 hT hx
            go_wp2_with fail
            have c04 := cell_regrown c03
            have cs4 := cell_regrown cs3
            refine wp_region_quiet_below (by kernel_rfl) (by kernel_rfl) ?_
            repeat (go_big_quiet_step ((first | (go_at_call 35; exact Calls.regrown_of (bLen_any s _)) | (go_at_call 26; exact Calls.regrown_of (bSlice_any s _ _ _ hs)) | (go_at_call 85; exact Calls.regrown_of ((idx_none s _ 39 (k + 1) _ (by omega) (by decide) HX).mono (by rintro e w' ⟨rfl, rfl⟩; exact ⟨rfl, Below.refl _ _⟩))))))
            refine wpQuiet_nil ?_
            intro w5 hw'
            have hb : Below w3.heap.size w3 w5 := below_of_regrown hw'
            clear hw'
            go_wp2_with fail
            go_ret2
            exact ⟨by rw [← HN.out]; rfl, bNext hb4 hb⟩
          | some n =>
            have HN := Lib.hid (show scanA s.data.toList g false o (k + 1 + n + 1) = T by rw [← hT.out, close_single s g o k hlt h39, hx])
            have hn := idxA_lt _ _ _ hx
            rw [List.length_drop, size_eq] at hn
            have HX := Lib.hid hx
            clear h92 h39 hT hx
            go_wp2_with fail
            have c04 := cell_regrown c03
            have cs4 := cell_regrown cs3
            refine wp_region_quiet_below (by kernel_rfl) (by kernel_rfl) ?_
            repeat (go_big_quiet_step ((first | (go_at_call 35; exact Calls.regrown_of (bLen_any s _)) | (go_at_call 26; exact Calls.regrown_of (bSlice_any s _ _ _ hs)) | (go_at_call 85; exact Calls.regrown_of ((idx_some s _ 39 (k + 1) n _ (by omega) (by decide) HX).mono (by rintro e w' ⟨rfl, rfl⟩; exact ⟨rfl, Below.refl _ _⟩))))))
            refine wpQuiet_nil ?_
            intro w5 hw'
            have hb : Below w3.heap.size w3 w5 := below_of_regrown hw'
            clear hw'
            go_wp2_with fail
            go_roundg g
            case measure => omega
            case rel => exact ⟨k + 1 + n + 1, o, g, rfl, by go_num, rfl, by omega, by omega, by omega, by omega, bNext hb4 hb, HN⟩
        · have d2 : (((bat s k).toNat : Int) == 39) = false := by rw [beq_eq_false_iff_ne]; omega
          by_cases h34 : (bat s k).toNat = 34
          · have d3 : (((bat s k).toNat : Int) == 34) = true := by rw [beq_iff_eq]; omega
            cases hx : scanA s.data.toList g true 0 (k + 1) with
            | none =>
              have HN : Hid (none = T) := Lib.hid (by rw [← hT.out, close_double s g o k hlt h34, hx])
              have HQ := hq g (by omega) ((k : Int) + 1) (k + 1) w3 none (by omega) (by omega) (by omega) c03 cs3 (Lib.hid hx)
              unfold scanRes at HQ
              clear h92 h39 h34 hT hx
              go_wp2_with (go_at_call 113; refine HQ.mono ?_; rintro e w5 ⟨rfl, hb5⟩)
              go_ret2
              exact ⟨by rw [← HN.out]; rfl, bNext hb4 hb5⟩
            | some n =>
              have HN := Lib.hid (show scanA s.data.toList g false o (n + 1) = T by rw [← hT.out, close_double s g o k hlt h34, hx])
              have HQ := hq g (by omega) ((k : Int) + 1) (k + 1) w3 (some n) (by omega) (by omega) (by omega) c03 cs3 (Lib.hid hx)
              have hn := scanA_lt _ _ _ _ _ _ hx
              rw [size_eq] at hn
              unfold scanRes at HQ
              clear h92 h39 h34 hT hx
              go_wp2_with (go_at_call 113; refine HQ.mono ?_; rintro e w5 ⟨rfl, hb5⟩)
              go_roundg g
              case measure => omega
              case rel => exact ⟨n + 1, o, g, rfl, by go_num, rfl, by omega, by omega, by omega, by omega, bNext hb4 hb5, HN⟩
          · have d3 : (((bat s k).toNat : Int) == 34) = false := by rw [beq_eq_false_iff_ne]; omega
            by_cases h40 : (bat s k).toNat = 40
            · have d4 : (((bat s k).toNat : Int) == 40) = true := by rw [beq_iff_eq]; omega
              have HN := Lib.hid ((close_open s g o k hlt h40).symm.trans hT.out)
              clear h92 h39 h34 h40 hT
              go_wp2_with fail
              go_roundg g
              case measure => omega
              case rel => exact ⟨k + 1, o + 1, g, rfl, by go_num, by go_num, by omega, by omega, by omega, by omega, hb4, HN⟩
            · have d4 : (((bat s k).toNat : Int) == 40) = false := by rw [beq_eq_false_iff_ne]; omega
              by_cases h41 : (bat s k).toNat = 41
              · have d5 : (((bat s k).toNat : Int) == 41) = true := by rw [beq_iff_eq]; omega
                by_cases ho0 : o = 0
                · have HN : Hid (some k = T) := Lib.hid (by rw [← hT.out, close_here s g o k hlt h41, if_pos ho0])
                  subst ho0
                  clear h92 h39 h34 h40 h41 hT
                  go_wp2_with fail
                  go_ret2
                  exact ⟨by rw [← HN.out]; rfl, hb4⟩
                · have HN := Lib.hid (show scanA s.data.toList g false (o - 1) (k + 1) = T by rw [← hT.out, close_here s g o k hlt h41, if_neg ho0])
                  have d6 : ((o : Int) == 0) = false := by rw [beq_eq_false_iff_ne]; omega
                  clear h92 h39 h34 h40 h41 hT
                  go_wp2_with fail
                  go_roundg g
                  case measure => omega
                  case rel => exact ⟨k + 1, o - 1, g, rfl, by go_num, by go_num, by omega, by omega, by omega, by omega, hb4, HN⟩
              · have d5 : (((bat s k).toNat : Int) == 41) = false := by rw [beq_eq_false_iff_ne]; omega
                have HN := Lib.hid ((close_on s g o k hlt h92 h39 h34 h40 h41).symm.trans hT.out)
                clear h92 h39 h34 h40 h41 hT
                go_wp2_with fail
                go_roundg g
                case measure => omega
                case rel => exact ⟨k + 1, o, g, rfl, by go_num, rfl, by omega, by omega, by omega, by omega, hb4, HN⟩
    · have HN : Hid (none = T) := Lib.hid (by rw [← hT.out, scan_end s g o k false (by omega)])
      clear hT
      go_wp2_with (go_at_call 35; refine (bLen_any s _).mono ?_; rintro e w2 ⟨rfl, hb2⟩)
      go_ret2
      exact ⟨by rw [← HN.out]; rfl, bNext hb hb2⟩

set_option maxHeartbeats 4000000 in
set_option maxRecDepth 100000 in
theorem quote_walk (s : ByteArray) (r q F : Nat) (hs : s.size ≤ 1000000) (hq : ∀ g, g < F → CloseAt s r q g) : QuoteAt s r q F := by
  intro a i w T ha hi hF hc0 hcs hT
  subst ha
  go_enter Tryd.func113, Tryd.ntmps113
  go_wp2_with fail
  go_loopg [1] F (fun n c wr => ∃ k f : Nat, f = n ∧ c = .int .i64 k ∧ k ≤ s.size + 2 ∧ s.size - k < f ∧ f ≤ F ∧ Below w.heap.size w wr ∧ Hid (scanA s.data.toList f true 0 k = T))
  case atStart => exact ⟨i, F, rfl, rfl, hi, hF, Nat.le_refl _, Below.refl _ _, hT⟩
  case round =>
    clear hT hF hi
    obtain ⟨k, f, rfl, rfl, hk, hf, hfF, hb, hT⟩ := hrel
    have c0 := bSome hb hc0
    have cs := bSome hb hcs
    obtain ⟨g, rfl⟩ : ∃ g, f = g + 1 := ⟨f - 1, by omega⟩
    clear hc0 hcs
    by_cases hlt : k < s.size
    · go_upto_block 2 with (first
        | (go_at_call 35; refine (bLen_any s _).mono ?_; rintro e w2 ⟨rfl, hb2⟩; have c02 := bSome hb2 c0; have cs2 := bSome hb2 cs)
        | (go_at_call 27; refine (bByte_in s k _ hs hlt).mono ?_; rintro e w3 ⟨rfl, hb3⟩; have c03 := bSome hb3 c02; have cs3 := bSome hb3 cs2))
      have hb4 := bNext (bNext hb hb2) hb3
      clear hb hb2 hb3 c0 cs c02 cs2
      by_cases h34 : (bat s k).toNat = 34
      · have HN : Hid (some k = T) := Lib.hid ((quote_here s g 0 k hlt h34).symm.trans hT.out)
        have d1 : (((bat s k).toNat : Int) == 34) = true := by rw [beq_iff_eq]; omega
        clear h34 hT
        go_wp2_with fail
        go_ret2
        exact ⟨by rw [← HN.out]; rfl, hb4⟩
      · have d1 : (((bat s k).toNat : Int) == 34) = false := by rw [beq_eq_false_iff_ne]; omega
        by_cases h92 : (bat s k).toNat = 92
        · have d2 : (((bat s k).toNat : Int) == 92) = true := by rw [beq_iff_eq]; omega
          have HN := Lib.hid ((quote_back s g 0 k hlt h92).symm.trans hT.out)
          clear h34 h92 hT
          go_wp2_with fail
          go_roundg g
          case measure => omega
          case rel => exact ⟨k + 2, g, rfl, by go_num, by omega, by omega, by omega, hb4, HN⟩
        · have d2 : (((bat s k).toNat : Int) == 92) = false := by rw [beq_eq_false_iff_ne]; omega
          have HB := Lib.hid fun w1 => bHas_in s ⟨#[36, 40]⟩ k w1 hs (by omega)
          cases hp : Lib.hasPrefix (s.data.toList.drop k) [36, 40] with
          | false =>
            have hp' : Lib.hasPrefix (List.drop k s.data.toList) (ByteArray.mk #[36, 40]).data.toList = false := hp
            rw [hp'] at HB
            have HN := Lib.hid ((quote_on s g 0 k hlt h34 h92 hp).symm.trans hT.out)
            clear h34 h92 hT hp hp'
            go_wp2_with (go_at_call 28; refine (HB.out _).mono ?_; rintro e w5 ⟨rfl, hb5⟩)
            go_roundg g
            case measure => omega
            case rel => exact ⟨k + 1, g, rfl, by go_num, by omega, by omega, by omega, bNext hb4 hb5, HN⟩
          | true =>
            have hp' : Lib.hasPrefix (List.drop k s.data.toList) (ByteArray.mk #[36, 40]).data.toList = true := hp
            rw [hp'] at HB
            cases hx : scanA s.data.toList g false 0 (k + 2) with
            | none =>
              have HN : Hid (none = T) := Lib.hid (by rw [← hT.out, quote_open s g 0 k hlt h34 h92 hp, hx])
              have HQ := Lib.hid fun w5 h1 h2 => hq g (by omega) ((k : Int) + 2) (k + 2) w5 none (by omega) (by omega) (by omega) h1 h2 (Lib.hid hx)
              unfold scanRes at HQ
              clear h34 h92 hT hx hp hp'
              go_wp2_with (first | (go_at_call 28; refine (HB.out _).mono ?_; rintro e w5 ⟨rfl, hb5⟩; have c05 := bSome hb5 c03; have cs5 := bSome hb5 cs3) | (go_at_call 104; refine (HQ.out _ c05 cs5).mono ?_; rintro e w6 ⟨rfl, hb6⟩))
              go_ret2
              exact ⟨by rw [← HN.out]; rfl, bNext (bNext hb4 hb5) hb6⟩
            | some n =>
              have HN := Lib.hid (show scanA s.data.toList g true 0 (n + 1) = T by rw [← hT.out, quote_open s g 0 k hlt h34 h92 hp, hx])
              have hn := scanA_lt _ _ _ _ _ _ hx
              rw [size_eq] at hn
              have HQ := Lib.hid fun w5 h1 h2 => hq g (by omega) ((k : Int) + 2) (k + 2) w5 (some n) (by omega) (by omega) (by omega) h1 h2 (Lib.hid hx)
              unfold scanRes at HQ
              clear h34 h92 hT hx hp hp'
              go_wp2_with (first | (go_at_call 28; refine (HB.out _).mono ?_; rintro e w5 ⟨rfl, hb5⟩; have c05 := bSome hb5 c03; have cs5 := bSome hb5 cs3) | (go_at_call 104; refine (HQ.out _ c05 cs5).mono ?_; rintro e w6 ⟨rfl, hb6⟩))
              go_roundg g
              case measure => omega
              case rel => exact ⟨n + 1, g, rfl, by go_num, by omega, by omega, by omega, bNext (bNext hb4 hb5) hb6, HN⟩
    · have HN : Hid (none = T) := Lib.hid (by rw [← hT.out, scan_end s g 0 k true (by omega)])
      clear hT
      go_wp2_with (go_at_call 35; refine (bLen_any s _).mono ?_; rintro e w2 ⟨rfl, hb2⟩)
      go_ret2
      exact ⟨by rw [← HN.out]; rfl, bNext hb hb2⟩

theorem both_walk (s : ByteArray) (r q : Nat) (hs : s.size ≤ 1000000) (F : Nat) : CloseAt s r q F ∧ QuoteAt s r q F := by
  induction F using Nat.strongRecOn with
  | ind F ih => exact ⟨close_walk s r q F hs fun g hg => (ih g hg).2, quote_walk s r q F hs fun g hg => (ih g hg).1⟩

/-- (*reader).close. -/
theorem aClose_any (r q : Nat) (s : ByteArray) (a : Int) (i : Nat) (w : World) (T : Option Nat) (hs : s.size ≤ 1000000) (ha : a = i) (hi : i ≤ s.size + 2) (hc0 : w.cell? ⟨r, 0, none⟩ = some (.pointer (some ⟨q, 0, none⟩))) (hcs : w.cell? ⟨q, 0, none⟩ = some (.string s))
    (hT : Hid (scanA s.data.toList (s.data.toList.length + 1) false 0 i = T)) :
    Calls Tryd.prog 104 #[.pointer (some ⟨r, 0, none⟩), .int .i64 a] w fun e w' => e = .returned (scanRes T) ∧ Below w.heap.size w w' :=
  (both_walk s r q hs _).1 a i w T ha hi (by rw [size_eq]; omega) hc0 hcs hT

end Go.Proofs.YtdadgodjjfgmfaaDoor
