/- Dialect B's Lex. -/
import Derived.Test.YtdadgodjjfgmfaaDoorBlexTok
import Derived.Test.YtdadgodjjfgmfaaDoorPureB2
namespace Go.Proofs.YtdadgodjjfgmfaaDoor
open Go Go.RowKit

theorem infoXTok : (Tryd.prog.info? 29).map (fun i => (i.zero, i.size, i.bytes)) = some (some (.agg #[.int .i64 0, .int .i64 0, .int .i64 0, .string ⟨#[]⟩, .bool false]), 5, 48) := by kernel_rfl

/-- A slice value holds these tokens, in memory from block B on. -/
def Toks (w : World) (B : Nat) (v : Value) (ts : List BTok) : Prop := w.ownsRow B 29 5 v ts.length (ts.flatMap BTok.cells)

theorem Toks.below {w w' : World} {B : Nat} {v : Value} {ts : List BTok} (h : Toks w B v ts) (hb : Below w.heap.size w w') : Toks w' B v ts := by
  refine ⟨h.1, ?_⟩
  rcases h.2 with h2 | ⟨g, cap, cur, hv, hg, hh, r⟩
  · exact .inl h2
  · exact .inr ⟨g, cap, cur, hv, hg, (hb.block g (lt_of_block hh)).trans hh, r⟩
theorem Toks.kept {w w' : World} {B : Nat} {v : Value} {ts : List BTok} {S : Nat → Prop} (h : Toks w B v ts) (hk : Kept S w w') (hS : ∀ k, B ≤ k → k < w.heap.size → ¬ S k) : Toks w' B v ts := by
  refine ⟨h.1, ?_⟩
  rcases h.2 with h2 | ⟨g, cap, cur, hv, hg, hh, r⟩
  · exact .inl h2
  · exact .inr ⟨g, cap, cur, hv, hg, (hk.block g (lt_of_block hh) (hS g hg (lt_of_block hh))).trans hh, r⟩

/-- What the rest of a source comes to, behind tokens that are there. -/
def lexRest (f : Nat) (l : List UInt8) (k : Nat) (ts : List BTok) : Except (Nat × Nat) (List BTok) :=
  match lexB f ts.isEmpty (l.drop k) k with
  | .ok us => .ok (ts ++ us)
  | .error e => .error e

theorem lexRest_step (f : Nat) (l : List UInt8) (k j : Nat) (ts : List BTok) (hj : k + skipN false (l.drop k) = j) :
    lexRest (f + 1) l k ts = match tokenB (l.drop j) j with
      | .error e => .error e
      | .ok (t, n) => if t.kind = 0 then .ok (ts ++ [{ t with glue := !ts.isEmpty && k == j }]) else lexRest f l (j + n) (ts ++ [{ t with glue := !ts.isEmpty && k == j }]) := by
  have hd : (l.drop k).drop (skipN false (l.drop k)) = l.drop j := by rw [List.drop_drop, hj]
  have hz : (skipN false (l.drop k) == 0) = (k == j) := by
    rw [Bool.eq_iff_iff]
    simp only [beq_iff_eq]
    omega
  rw [lexRest, lexB, hd, hj, hz]
  cases ht : tokenB (l.drop j) j with
  | error e => rfl
  | ok x =>
    obtain ⟨t, n⟩ := x
    have h1 : (l.drop k).drop (skipN false (l.drop k) + n) = l.drop (j + n) := by rw [List.drop_drop]; congr 1; omega
    have h2 : (ts ++ [({ t with glue := !ts.isEmpty && k == j } : BTok)]).isEmpty = false := by simp
    by_cases hk : t.kind = 0
    · simp only [hk, if_true]
    · simp only [hk, if_false, h1, lexRest, h2]
      cases lexB f false (l.drop (j + n)) (j + n) with
      | error e => rfl
      | ok us => simp

theorem Toks.form {w : World} {B : Nat} {v : Value} {ts : List BTok} (h : Toks w B v ts) : ∃ ao cap, v = .slice ao ts.length cap := by
  rcases h.2 with ⟨hv, h0⟩ | ⟨g, cap, cur, hv, _⟩
  · exact ⟨none, 0, by rw [hv, h0]⟩
  · exact ⟨_, _, hv⟩
theorem cells_new {w : World} {cs : List Value} {t : TypeId} {b : Nat} (hb : b = w.heap.size) : ∀ j u, cs[j]? = some u → (w.alloc (.cells cs.toArray t)).cell? ((⟨b, 0, none⟩ : Addr).add j) = some u := by
  intro j u h
  have := (Blk.newAt cs t hb).cell j h
  cases j <;> simpa [Addr.add] using this

theorem Toks.mono {w : World} {B B' : Nat} {v : Value} {ts : List BTok} (h : Toks w B v ts) (hB : B' ≤ B) : Toks w B' v ts := by
  refine ⟨h.1, ?_⟩
  rcases h.2 with h2 | ⟨g, cap, cur, hv, hg, r⟩
  · exact .inl h2
  · exact .inr ⟨g, cap, cur, hv, Nat.le_trans hB hg, r⟩

set_option maxHeartbeats 4000000 in
set_option maxRecDepth 100000 in
/-- blex.Lex. -/
theorem xLex_any (s : ByteArray) (w : World) (hs : s.size ≤ 8192) (sent : Nat → Addr) (hE : Env w sent)
    (R : Ending → World → Prop) (T : Except (Nat × Nat) (List BTok)) (hT : Hid (lexB (s.size + 1) true s.data.toList 0 = T))
    (hgood : Hid (∀ ts v w', T = .ok ts → Toks w' w.heap.size v ts → Below w.heap.size w w' → R (.returned (.tuple #[v, .nilIface])) w'))
    (hbad : Hid (∀ c p b w', T = .error (c, p) → ErrAt w' b sent c p → Below w.heap.size w w' → R (.returned (.tuple #[.slice none 0 0, .iface 102 (.pointer (some ⟨b, 0, none⟩))])) w')) :
    Calls Tryd.prog 16 #[.string s] w R := by
  obtain ⟨i0, hi0, hz0, hz1, hz2⟩ := info_parts infoXTok
  go_enter Tryd.func16, Tryd.ntmps16
  go_wp2_with (go_at_call 21; refine (tNew_ok s _ hs).mono ?_; rintro e w1 ⟨rfl, hS1, hb1⟩)
  have l1 : w.heap.size < w1.heap.size := hS1.lt
  refine wp_world (fun w2 => Rdr w2 w1.heap.size w.heap.size s 0 ∧ Below w.heap.size w w2 ∧ w1.heap.size < w2.heap.size)
    ⟨⟨Blk.new w1 _ _, hS1.alloc _, by omega⟩, hb1.alloc (by omega) _, by simp⟩ ?_
  generalize w1.heap.size = rb at *
  intro w2 ⟨hR2, hb2, l2⟩
  clear hS1 hb1
  go_loopg [7] (s.size + 1) (fun n v wr => ∃ (k f : Nat) (ts : List BTok), n = s.size + 1 - k ∧ k ≤ s.size ∧ s.size - k < f ∧ ts.length ≤ k ∧ Rdr wr rb w.heap.size s k ∧ Toks wr (rb + 1) v ts ∧ Below w.heap.size w wr ∧ rb < wr.heap.size ∧ Hid (lexRest f s.data.toList k ts = T))
  case atStart =>
    refine ⟨0, s.size + 1, [], rfl, by omega, by omega, by simp, hR2, World.ownsRow_nil _ _ _ _, hb2, l2, Lib.hid ?_⟩
    rw [← hT.out, lexRest]
    simp only [List.isEmpty_nil, List.drop_zero, List.nil_append]
    cases lexB (s.size + 1) true s.data.toList 0 <;> rfl
  case round =>
    clear hR2 hb2 l2
    obtain ⟨k, f, ts, rfl, hk, hf, htl, hR, hO, hb, hl, hrest⟩ := hrel
    obtain ⟨ao, cap, rfl⟩ := hO.form
    have c1 := hR.c1
    obtain ⟨j, hj⟩ : ∃ j, k + skipN false (s.data.toList.drop k) = j := ⟨_, rfl⟩
    have hjs : j ≤ s.size := by
      have := skipN_le false (s.data.toList.drop k)
      rw [List.length_drop, size_eq] at this
      omega
    have hkj : k ≤ j := by omega
    have hfront := Lib.hid (skip_front false (s.data.toList.drop k))
    rw [List.drop_drop, hj] at hfront
    obtain ⟨f, rfl⟩ : ∃ f', f = f' + 1 := ⟨f - 1, by omega⟩
    have HS := Lib.hid ((lexRest_step f s.data.toList k j ts hj).symm.trans hrest.out)
    have HJ := Lib.hid hj
    clear hj hrest
    go_wp2_with (go_at_call 45; refine (xSkip_any rb w.heap.size s k j _ (by omega) hk hR HJ).mono ?_; rintro e w3 ⟨rfl, hR3, hK3⟩)
    have hb3 : Below w.heap.size w w3 := hb.trans (hK3.below hb.size (fun i hi e => by unfold At at e; omega))
    have hE3 := hE.below hb3
    have hO3 := hO.kept hK3 (fun i hi _ e => by unfold At at e; omega)
    have hl3 : rb < w3.heap.size := Nat.lt_of_lt_of_le hl hK3.size
    clear hR hO hb hl c1 hK3
    refine xToken_any rb w.heap.size s j w3 (by omega) hjs hR3 sent hE3 (fun c g hg e => by have := hE.lt hg; omega) _ _ (Lib.hid rfl) (Lib.hid fun t n w4 ht hR4 hK4 => ?_) (Lib.hid fun c p b w4 ht hE4 hK4 => ?_)
    · have hb4 : Below w.heap.size w w4 := hb3.trans (hK4.below hb3.size (fun i hi e => by unfold At at e; omega))
      have hO4 := hO3.kept hK4 (fun i hi _ e => by unfold At at e; omega)
      have hl4 : rb < w4.heap.size := Nat.lt_of_lt_of_le hl3 hK4.size
      obtain ⟨hn1, hn2, hn3, hn4, hn5⟩ := tokenB_takes _ _ _ _ ht
      rw [List.length_drop, size_eq] at hn1
      have HS2 := Lib.hid HS.out
      rw [ht] at HS2
      clear hR3 hK4 hO3 hb3 hl3 HS ht HJ hE3
      obtain ⟨tk, tp, tn, tx, tg⟩ := t
      dsimp only at hn2 hn3 hn4 HS2
      subst hn2 hn3
      have HN4 := Lib.hid hn4
      have HN5 := Lib.hid hn5
      clear hn4 hn5
      have hOA : ∀ o1 o2, Toks ((w4.alloc o1).alloc o2) (rb + 1) (.slice ao ts.length cap) ts := fun o1 o2 => hO4.below (((Below.refl _ _).alloc (Nat.le_refl _) _).alloc (by simp) _)
      have hown4 : ∀ k', (Value.slice ao ts.length cap).ownBlock = some k' → rb + 1 ≤ k' ∧ k' < w4.heap.size := hO4.lt
      simp only [BTok.cells]
      by_cases hts : 0 < ts.length
      · have hne : ts.isEmpty = false := by cases ts with
          | nil => simp at hts
          | cons a l => rfl
        by_cases hkj2 : k = tp
        · have d1 : (((tp : Nat) : Int) == (k : Int)) = true := by rw [beq_iff_eq]; omega
          have HG : (!ts.isEmpty && k == tp) = true := by rw [hne, beq_iff_eq.2 hkj2]; rfl
          go_wp2_with (at_builtin; refine wpList_append_own _ rfl _ _ 23 rfl (rb + 1) 29 i0 _ 5 48 Tryd.underlying23 hi0 hz0 hz1 hz2 rfl (by decide) _ _ _ rfl (hOA _ _) ⟨w4.heap.size + 1, 0, none⟩ 1 1 [.int .i64 (tk : Int), .int .i64 (tp : Int), .int .i64 (tn : Int), .string (bs tx), .bool true] rfl rfl ?c1 ?c2 ?c3 ?c4 ?c5 ?_)
          case c1 => exact cells_new (by simp)
          case c2 =>
            intro u hu
            simp at hu
            rcases hu with rfl | rfl | rfl | rfl | rfl <;> rfl
          case c3 => unfold maxLen; omega
          case c4 => omega
          case c5 => simp; omega
          intro v' w5 hown' hgrow _
          have hK5 : Kept (fun k' => some k' = (Value.slice ao ts.length cap).ownBlock) w4 w5 := (((Kept.refl _ _).alloc _).alloc _).grown hgrow (fun k' h _ => h.symm)
          have hR5 : Rdr w5 rb w.heap.size s (tp + n) := hR4.kept hK5 (fun e => by have := hown4 _ e.symm; omega) (fun e => by have := hown4 _ e.symm; omega)
          have hb5 : Below w.heap.size w w5 := hb4.trans (hK5.below hb4.size (fun i hi e => by have := hown4 _ e.symm; omega))
          have hO5 : Toks w5 (rb + 1) v' (ts ++ [⟨tk, tp, tn, tx, true⟩]) := by
            unfold Toks
            rw [List.length_append, List.flatMap_append]
            exact hown'
          have hc5 : w5.cell? ⟨w4.heap.size, 0, none⟩ = some (.int .i64 (tk : Int)) := hgrow.cell (((Blk.newAt _ _ rfl).alloc _).cell 0 rfl) (fun e => by have := hown4 _ e.symm; exact absurd this.2 (by simp))
          have hl5 : rb < w5.heap.size := Nat.lt_of_lt_of_le hl4 hK5.size
          have HT2 := Lib.hid HS2.out
          simp only [HG] at HT2
          clear HS2 hOA hown4 hown' hgrow hK5 hR4 hO4 hb4 hl4
          by_cases hk0 : tk = 0
          · subst hk0
            have HR := Lib.hid (hgood.out _ v' w5 HT2.out.symm (hO5.mono (by omega)) hb5)
            go_wp2_with fail
            exact HR.out
          · have hk1 : ((tk : Int) == 0) = false := by rw [beq_eq_false_iff_ne]; omega
            rw [if_neg hk0] at HT2
            have hn1' : 1 ≤ n := HN5.out (fun c m h => hfront.out c m h) (fun h => hk0 (HN4.out.2 h))
            go_wp2_with fail
            go_roundg (s.size + 1 - (tp + n))
            case measure => omega
            case rel => exact ⟨tp + n, f, _, rfl, by omega, by omega, by simp; omega, hR5, hO5, hb5, hl5, Lib.hid HT2.out⟩
        · have d1 : (((tp : Nat) : Int) == (k : Int)) = false := by rw [beq_eq_false_iff_ne]; omega
          have HG : (!ts.isEmpty && k == tp) = false := by rw [beq_false_of_ne hkj2, Bool.and_false]
          go_wp2_with (at_builtin; refine wpList_append_own _ rfl _ _ 23 rfl (rb + 1) 29 i0 _ 5 48 Tryd.underlying23 hi0 hz0 hz1 hz2 rfl (by decide) _ _ _ rfl (hOA _ _) ⟨w4.heap.size + 1, 0, none⟩ 1 1 [.int .i64 (tk : Int), .int .i64 (tp : Int), .int .i64 (tn : Int), .string (bs tx), .bool false] rfl rfl ?c1 ?c2 ?c3 ?c4 ?c5 ?_)
          case c1 => exact cells_new (by simp)
          case c2 =>
            intro u hu
            simp at hu
            rcases hu with rfl | rfl | rfl | rfl | rfl <;> rfl
          case c3 => unfold maxLen; omega
          case c4 => omega
          case c5 => simp; omega
          intro v' w5 hown' hgrow _
          have hK5 : Kept (fun k' => some k' = (Value.slice ao ts.length cap).ownBlock) w4 w5 := (((Kept.refl _ _).alloc _).alloc _).grown hgrow (fun k' h _ => h.symm)
          have hR5 : Rdr w5 rb w.heap.size s (tp + n) := hR4.kept hK5 (fun e => by have := hown4 _ e.symm; omega) (fun e => by have := hown4 _ e.symm; omega)
          have hb5 : Below w.heap.size w w5 := hb4.trans (hK5.below hb4.size (fun i hi e => by have := hown4 _ e.symm; omega))
          have hO5 : Toks w5 (rb + 1) v' (ts ++ [⟨tk, tp, tn, tx, false⟩]) := by
            unfold Toks
            rw [List.length_append, List.flatMap_append]
            exact hown'
          have hc5 : w5.cell? ⟨w4.heap.size, 0, none⟩ = some (.int .i64 (tk : Int)) := hgrow.cell (((Blk.newAt _ _ rfl).alloc _).cell 0 rfl) (fun e => by have := hown4 _ e.symm; exact absurd this.2 (by simp))
          have hl5 : rb < w5.heap.size := Nat.lt_of_lt_of_le hl4 hK5.size
          have HT2 := Lib.hid HS2.out
          simp only [HG] at HT2
          clear HS2 hOA hown4 hown' hgrow hK5 hR4 hO4 hb4 hl4
          by_cases hk0 : tk = 0
          · subst hk0
            have HR := Lib.hid (hgood.out _ v' w5 HT2.out.symm (hO5.mono (by omega)) hb5)
            go_wp2_with fail
            exact HR.out
          · have hk1 : ((tk : Int) == 0) = false := by rw [beq_eq_false_iff_ne]; omega
            rw [if_neg hk0] at HT2
            have hn1' : 1 ≤ n := HN5.out (fun c m h => hfront.out c m h) (fun h => hk0 (HN4.out.2 h))
            go_wp2_with fail
            go_roundg (s.size + 1 - (tp + n))
            case measure => omega
            case rel => exact ⟨tp + n, f, _, rfl, by omega, by omega, by simp; omega, hR5, hO5, hb5, hl5, Lib.hid HT2.out⟩
      · have HG : (!ts.isEmpty && k == tp) = false := by
          cases ts with
          | nil => rfl
          | cons a l => simp at hts
        go_wp2_with (at_builtin; refine wpList_append_own _ rfl _ _ 23 rfl (rb + 1) 29 i0 _ 5 48 Tryd.underlying23 hi0 hz0 hz1 hz2 rfl (by decide) _ _ _ rfl (hOA _ _) ⟨w4.heap.size + 1, 0, none⟩ 1 1 [.int .i64 (tk : Int), .int .i64 (tp : Int), .int .i64 (tn : Int), .string (bs tx), .bool false] rfl rfl ?c1 ?c2 ?c3 ?c4 ?c5 ?_)
        case c1 => exact cells_new (by simp)
        case c2 =>
          intro u hu
          simp at hu
          rcases hu with rfl | rfl | rfl | rfl | rfl <;> rfl
        case c3 => unfold maxLen; omega
        case c4 => omega
        case c5 => simp; omega
        intro v' w5 hown' hgrow _
        have hK5 : Kept (fun k' => some k' = (Value.slice ao ts.length cap).ownBlock) w4 w5 := (((Kept.refl _ _).alloc _).alloc _).grown hgrow (fun k' h _ => h.symm)
        have hR5 : Rdr w5 rb w.heap.size s (tp + n) := hR4.kept hK5 (fun e => by have := hown4 _ e.symm; omega) (fun e => by have := hown4 _ e.symm; omega)
        have hb5 : Below w.heap.size w w5 := hb4.trans (hK5.below hb4.size (fun i hi e => by have := hown4 _ e.symm; omega))
        have hO5 : Toks w5 (rb + 1) v' (ts ++ [⟨tk, tp, tn, tx, false⟩]) := by
          unfold Toks
          rw [List.length_append, List.flatMap_append]
          exact hown'
        have hc5 : w5.cell? ⟨w4.heap.size, 0, none⟩ = some (.int .i64 (tk : Int)) := hgrow.cell (((Blk.newAt _ _ rfl).alloc _).cell 0 rfl) (fun e => by have := hown4 _ e.symm; exact absurd this.2 (by simp))
        have hl5 : rb < w5.heap.size := Nat.lt_of_lt_of_le hl4 hK5.size
        have HT2 := Lib.hid HS2.out
        simp only [HG] at HT2
        clear HS2 hOA hown4 hown' hgrow hK5 hR4 hO4 hb4 hl4
        by_cases hk0 : tk = 0
        · subst hk0
          have HR := Lib.hid (hgood.out _ v' w5 HT2.out.symm (hO5.mono (by omega)) hb5)
          go_wp2_with fail
          exact HR.out
        · have hk1 : ((tk : Int) == 0) = false := by rw [beq_eq_false_iff_ne]; omega
          rw [if_neg hk0] at HT2
          have hn1' : 1 ≤ n := HN5.out (fun c m h => hfront.out c m h) (fun h => hk0 (HN4.out.2 h))
          go_wp2_with fail
          go_roundg (s.size + 1 - (tp + n))
          case measure => omega
          case rel => exact ⟨tp + n, f, _, rfl, by omega, by omega, by simp; omega, hR5, hO5, hb5, hl5, Lib.hid HT2.out⟩
    · have hb4 : Below w.heap.size w w4 := hb3.trans (hK4.below hb3.size (fun i hi e => by unfold At at e; omega))
      have HG := Lib.hid fun o => hbad.out c p b (w4.alloc o) (by rw [← HS.out, ht]) (by unfold ErrAt at hE4 ⊢; exact hE4.alloc _) (hb4.alloc hb4.size _)
      go_wp2_with fail
      exact HG.out _

end Go.Proofs.YtdadgodjjfgmfaaDoor
