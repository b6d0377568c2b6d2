/- BlexPlaces. -/
import Derived.Test.YtdadgodjjfgmfaaDoorFirst12
namespace Go.Proofs.YtdadgodjjfgmfaaDoor
open Go Go.RowKit

/-- The tokens that a block holds. -/
def TokRow (w : World) (g : Nat) (ts : List BTok) : Prop := ∀ (i : Nat) (a : BTok), ts[i]? = some a → ∀ (j : Nat) (u : Value), a.cells[j]? = some u → w.cell? ⟨g, i * 5 + j, none⟩ = some u
theorem TokRow.below {w w' : World} {g : Nat} {ts : List BTok} (h : TokRow w g ts) (hb : Below w.heap.size w w') : TokRow w' g ts := fun i a h1 j u h2 => bSome hb (h i a h1 j u h2)
theorem TokRow.facts {w : World} {g : Nat} {ts : List BTok} (h : TokRow w g ts) (i : Nat) (a : BTok) (ha : ts[i]? = some a) :
    w.cell? ⟨g, i * 5, none⟩ = some (.int .i64 a.kind) ∧ w.cell? ⟨g, i * 5 + 1, none⟩ = some (.int .i64 a.place) ∧ w.cell? ⟨g, i * 5 + 2, none⟩ = some (.int .i64 a.num) ∧ w.cell? ⟨g, i * 5 + 3, none⟩ = some (.string (bs a.text)) ∧ w.cell? ⟨g, i * 5 + 4, none⟩ = some (.bool a.glue) :=
  ⟨h i a ha 0 _ rfl, h i a ha 1 _ rfl, h i a ha 2 _ rfl, h i a ha 3 _ rfl, h i a ha 4 _ rfl⟩
theorem tok_row {w : World} {g : Nat} {ts : List BTok} (hc : ∀ (k : Nat) (u : Value), (ts.flatMap BTok.cells)[k]? = some u → w.cell? ⟨g, k, none⟩ = some u) : TokRow w g ts := fun i a ha j u hu => by
  rw [Nat.mul_comm]
  exact hc _ _ (flat_get BTok.cells 5 tok_cells ts i j a u ha hu)

/-- No more tokens than bytes, and the end. -/
theorem lexB_count (L : List UInt8) : ∀ (f : Nat) (first : Bool) (k : Nat) (ts : List BTok), k ≤ L.length → lexB f first (L.drop k) k = .ok ts → ts.length ≤ L.length - k + 1 := by
  intro f
  induction f with
  | zero => intro first k ts _ h; cases h; simp
  | succ f ih =>
    intro first k ts hk h
    rw [lexB] at h
    have hs := skipN_le false (L.drop k)
    have hfront := skip_front false (L.drop k)
    rw [List.length_drop] at hs
    rw [List.drop_drop] at h hfront
    obtain ⟨j, hj⟩ : ∃ j, k + skipN false (L.drop k) = j := ⟨_, rfl⟩
    rw [hj] at h hfront
    cases ht : tokenB (L.drop j) j with
    | error e => rw [ht] at h; cases h
    | ok y =>
      obtain ⟨t, n⟩ := y
      rw [ht] at h
      obtain ⟨n1, n2, n3, n4, n5⟩ := tokenB_takes _ _ _ _ ht
      rw [List.length_drop] at n1
      by_cases hk0 : t.kind = 0
      · simp only [hk0, if_true] at h
        cases h
        simp
      · simp only [hk0, if_false] at h
        have hn1 : 1 ≤ n := n5 hfront (fun e => hk0 (n4.2 e))
        have hd : (L.drop k).drop (skipN false (L.drop k) + n) = L.drop (j + n) := by rw [List.drop_drop]; congr 1; omega
        rw [hd] at h
        cases hl : lexB f false (L.drop (j + n)) (j + n) with
        | error e => rw [hl] at h; cases h
        | ok us =>
          rw [hl] at h
          cases h
          have := ih false (j + n) us (by omega) hl
          simp only [List.length_cons]
          omega

set_option maxHeartbeats 4000000 in
set_option maxRecDepth 100000 in
theorem blexPlaces_long (s : ByteArray) (w : World) (sent : Nat → Addr) (hS : Sents w sent) (h : 1500 < s.size) :
    Calls Tryd.prog 4 #[.string s] w fun e w' => e = .returned (.bool true) ∧ Below w.heap.size w w' := by
  go_enter Tryd.func4, Tryd.ntmps4
  go_wp2_with fail
  refine (first12_any w sent hS).mono ?_
  rintro e w1 ⟨rfl, hb1⟩
  go_wp2_with fail
  go_ret
  exact ⟨rfl, hb1⟩

set_option maxRecDepth 100000 in
set_option maxHeartbeats 4000000 in
theorem blexPlaces_bad (s : ByteArray) (w : World) (sent : Nat → Addr) (hS : Sents w sent) (h : s.size ≤ 1500) (c q : Nat) (hT : lexB (s.size + 1) true s.data.toList 0 = .error (c, q)) (hq : q < s.size) (h1 : 101 ≤ c) (h2 : c ≤ 117) :
    Calls Tryd.prog 4 #[.string s] w fun e w' => e = .returned (.bool true) ∧ Below w.heap.size w w' := by
  go_enter Tryd.func4, Tryd.ntmps4
  go_wp2_with fail
  refine (first12_any w sent hS).mono ?_
  rintro e w1 ⟨rfl, hb1⟩
  have hS1 := hS.below hb1
  clear hS
  go_wp2_with fail
  refine (xLex_bad s w1 (by omega) sent hS1.env _ _ hT).mono ?_
  rintro e w2 ⟨b, rfl, hE, hb2⟩
  have hS2 := hS1.below hb2
  have hB2 := bNext hb1 hb2
  clear hS1 hb1 hb2
  go_wp2_with fail
  refine (seeFault_at w2 sent hS2 c h1 h2 q b hE).mono ?_
  unfold faultV
  rintro e w3 ⟨k, rfl, hk, hk2, hb3⟩
  have hB3 := bNext hB2 hb3
  have l3 : k < w3.heap.size := block_lt_of_cell hk
  have n3 : ¬ k = w3.heap.size := by omega
  clear hS2 hE hB2 hb3
  go_wp2_with fail
  go_ret
  exact ⟨rfl, hB3.alloc hB3.size _⟩

set_option maxRecDepth 100000 in
set_option maxHeartbeats 4000000 in
theorem blexPlaces_ok (s : ByteArray) (w : World) (sent : Nat → Addr) (hS : Sents w sent) (h : s.size ≤ 1500) (ts : List BTok) (hT : lexB (s.size + 1) true s.data.toList 0 = .ok ts) (hlen : 0 < ts.length) (hlen2 : ts.length ≤ 10000)
    (z : BTok) (hz : ts[ts.length - 1]? = some z) (hz0 : z.kind = 0) (hz1 : z.place = s.size) (t : BTok) (ht : ts[0]? = some t) (ht0 : t.glue = false)
    (hP : Hid (∀ i a b, ts[i]? = some a → ts[i + 1]? = some b → PairOk s.data.toList a b)) :
    Calls Tryd.prog 4 #[.string s] w fun e w' => e = .returned (.bool true) ∧ Below w.heap.size w w' := by
  go_enter Tryd.func4, Tryd.ntmps4
  go_wp2_with fail
  refine (first12_any w sent hS).mono ?_
  rintro e w1 ⟨rfl, hb1⟩
  have hS1 := hS.below hb1
  clear hS
  go_wp2_with fail
  refine (xLex_ok s w1 (by omega) sent hS1.env _ hT).mono ?_
  rintro e w2 ⟨v, rfl, hT2, hb2⟩
  obtain ⟨g, cap, rfl, hp1, hp2, hg1, hg2, hc⟩ := row_cell hT2 hlen
  have hB2 := bNext hb1 hb2
  have hR := tok_row hc
  obtain ⟨z0, z1, -, -, -⟩ := hR.facts _ z hz
  rw [hz0] at z0
  rw [hz1] at z1
  obtain ⟨-, -, -, -, y4⟩ := hR.facts 0 t ht
  rw [ht0] at y4
  obtain ⟨N, hN⟩ : ∃ N, ts.length = N := ⟨_, rfl⟩
  rw [hN] at hlen hlen2 hp1 z0 z1 ⊢
  have hlen3 : (1 : Int) ≤ N := by omega
  have hN0 : ((N : Int) == 0) = false := by rw [beq_eq_false_iff_ne]; omega
  have HN := Lib.hid hN
  have HR := Lib.hid hR
  clear hS1 hT2 hb1 hb2 hc hz hT ht hN hR
  go_wp2_with fail
  go_loopg [7] (N - 1) (fun m x wr => ∃ k : Nat, m = N - k ∧ 1 ≤ k ∧ k ≤ N ∧ x = .int .i64 k ∧ wr = w2)
  case atStart => exact ⟨1, rfl, Nat.le_refl _, hlen, rfl, rfl⟩
  case round =>
    clear z0 z1 y4
    obtain ⟨k, rfl, hk1, hk, rfl, rfl⟩ := hrel
    by_cases hlt : k < N
    · obtain ⟨a, ha⟩ : ∃ a, ts[k - 1]? = some a := ⟨_, List.getElem?_eq_getElem (by have := HN.out; omega)⟩
      obtain ⟨b, hb⟩ : ∃ b, ts[k]? = some b := ⟨_, List.getElem?_eq_getElem (by have := HN.out; omega)⟩
      obtain ⟨a0, a1, -, -, -⟩ := HR.out.facts _ a ha
      obtain ⟨b0, b1, -, -, b4⟩ := HR.out.facts _ b hb
      have HP := Lib.hid (hP.out (k - 1) a b ha (by rw [show k - 1 + 1 = k from by omega]; exact hb))
      obtain ⟨p1, p2, p3, p4⟩ := HP.out
      rw [size_eq] at p2
      have HP3 : Hid (∀ h : b.place - 1 < s.size, b.glue = true → ((s[b.place - 1]'h).toNat : Int) = 32 ∨ ((s[b.place - 1]'h).toNat : Int) = 9 → ((a.kind : Int) != 19) = false) := Lib.hid fun h e1 e2 => by
        have e3 : isBlank (s.data.toList.getD (b.place - 1) 0) = true := by
          show isBlank (bat s (b.place - 1)) = true
          rw [← getElem_bat s _ h]
          unfold isBlank
          rw [Bool.or_eq_true, beq_iff_eq, beq_iff_eq]
          omega
        rw [p3 e1 e3]
        rfl
      have HP4 : Hid (∀ h : b.place - 1 < s.size, ¬ b.glue = true → ¬ ((s[b.place - 1]'h).toNat : Int) = 32 → ¬ ((s[b.place - 1]'h).toNat : Int) = 9 → ((b.kind : Int) != 0) = false ∨ ((b.kind : Int) != 1) = false) := Lib.hid fun h e1 e2 e2' => by
        have e3 : isBlank (s.data.toList.getD (b.place - 1) 0) = false := by
          show isBlank (bat s (b.place - 1)) = false
          rw [← getElem_bat s _ h]
          unfold isBlank
          rw [Bool.or_eq_false_iff]
          exact ⟨beq_false_of_ne (by omega), beq_false_of_ne (by omega)⟩
        rcases p4 (by simpa using e1) e3 with e | e
        · exact .inl (by rw [e]; rfl)
        · exact .inr (by rw [e]; rfl)
      clear ha hb HP p3 p4
      go_wp2_with fail
      all_goals first
        | (go_roundg (N - (k + 1))
           case measure => omega
           case rel => exact ⟨k + 1, rfl, by omega, by omega, by go_num, rfl⟩)
        | (exfalso
           have e := HP3.out (by omega) (by assumption) (.inl (by assumption))
           have f : ((a.kind : Int) != 19) = true := by assumption
           rw [e] at f
           cases f)
        | (exfalso
           have e := HP3.out (by omega) (by assumption) (.inr (by assumption))
           have f : ((a.kind : Int) != 19) = true := by assumption
           rw [e] at f
           cases f)
        | (exfalso
           rename_i hh
           obtain ⟨⟨_, f⟩, f'⟩ := hh
           rcases HP4.out (by omega) (by assumption) (by assumption) (by assumption) with e | e
           · rw [e] at f
             cases f
           · rw [e] at f'
             cases f')
    · go_wp2_with fail
      go_ret
      exact ⟨rfl, hB2⟩

/-- patoislaw12.BlexPlaces. -/
theorem blexPlaces_any (s : ByteArray) (w : World) (sent : Nat → Addr) (hS : Sents w sent) :
    Calls Tryd.prog 4 #[.string s] w fun e w' => e = .returned (.bool true) ∧ Below w.heap.size w w' := by
  by_cases h : 1500 < s.size
  · exact blexPlaces_long s w sent hS h
  · have hd : s.data.toList.drop 0 = s.data.toList := List.drop_zero
    cases hT : lexB (s.size + 1) true s.data.toList 0 with
    | error e =>
      obtain ⟨c, q⟩ := e
      have := lexB_err s.data.toList (s.size + 1) true 0 c q (by omega) (by rw [hd]; exact hT)
      rw [size_eq] at this
      exact blexPlaces_bad s w sent hS (by omega) c q hT this.1 (by omega) (by omega)
    | ok ts =>
      obtain ⟨t, us, rfl, h1, h2, h3, h4, h5⟩ := lexB_chain s.data.toList (s.size + 1) true 0 ts (by omega) (by rw [size_eq]; omega) (by rw [hd]; exact hT)
      obtain ⟨z, z1, z2, z3⟩ := h5.last
      rw [size_eq] at z3
      have hn := lexB_count s.data.toList (s.size + 1) true 0 (t :: us) (by omega) (by rw [hd]; exact hT)
      rw [size_eq] at hn
      exact blexPlaces_ok s w sent hS (by omega) (t :: us) hT (by simp) (by omega) z (by simpa using z1) z2 z3 t rfl (by simpa using h3) (Lib.hid h5.pair)

end Go.Proofs.YtdadgodjjfgmfaaDoor
