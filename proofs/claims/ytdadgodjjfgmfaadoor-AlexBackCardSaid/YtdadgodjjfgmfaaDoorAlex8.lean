/- Dialect A's Lex. -/
import Derived.Test.YtdadgodjjfgmfaaDoorAlex7
namespace Go.Proofs.YtdadgodjjfgmfaaDoor
open Go Go.RowKit

theorem infoATok : (Tryd.prog.info? 59).map (fun i => (i.zero, i.size, i.bytes)) = some (some (.agg #[.int .i64 0, .int .i64 0, .slice none 0 0]), 3, 40) := by kernel_rfl

/-- A token and the slice that holds its parts. -/
abbrev AVTok := ATok × Value
def AVTok.cells (x : AVTok) : List Value := [.int .i64 x.1.kind, .int .i64 x.1.place, x.2]

/-- A slice value holds these tokens, in memory from block B on. -/
structure AToks (w : World) (B : Nat) (v : Value) (tv : List AVTok) : Prop where
  row : w.ownsRow B 59 3 v tv.length (tv.flatMap AVTok.cells)
  parts : ∀ x ∈ tv, PartsAt w B x.2 x.1.parts

theorem AToks.nil (w : World) (B : Nat) : AToks w B (.slice none 0 0) [] := ⟨World.ownsRow_nil _ _ _ _, fun _ h => nomatch h⟩
theorem AToks.form {w : World} {B : Nat} {v : Value} {tv : List AVTok} (h : AToks w B v tv) : ∃ ao cap, v = .slice ao tv.length cap := by
  rcases h.row.2 with ⟨hv, h0⟩ | ⟨g, cap, cur, hv, _⟩
  · exact ⟨none, 0, by rw [hv, h0]⟩
  · exact ⟨_, _, hv⟩
theorem ownsRow_kept {w w' : World} {B : Nat} {e : TypeId} {size : Nat} {v : Value} {n : Nat} {xs : List Value} {S : Nat → Prop} (h : w.ownsRow B e size v n xs) (hk : Kept S w w') (hS : ∀ k, B ≤ k → k < w.heap.size → ¬ S k) : w'.ownsRow B e size v n xs := by
  refine ⟨h.1, ?_⟩
  rcases h.2 with h2 | ⟨g, cap, cur, hv, hg, hh, r⟩
  · exact .inl h2
  · exact .inr ⟨g, cap, cur, hv, hg, (hk.block g (lt_of_block hh) (hS g hg (lt_of_block hh))).trans hh, r⟩
theorem AToks.kept {w w' : World} {B : Nat} {v : Value} {tv : List AVTok} {S : Nat → Prop} (h : AToks w B v tv) (hk : Kept S w w') (hS : ∀ k, B ≤ k → k < w.heap.size → ¬ S k) : AToks w' B v tv :=
  ⟨ownsRow_kept h.row hk hS, fun x hx => ownsRow_kept (h.parts x hx) hk hS⟩
theorem AToks.below {w w' : World} {B : Nat} {v : Value} {tv : List AVTok} (h : AToks w B v tv) (hb : Below w.heap.size w w') : AToks w' B v tv :=
  h.kept (Kept.ofBelow hb : Kept Nowhere w w') (fun _ _ _ e => e)
theorem AToks.mono {w : World} {B B' : Nat} {v : Value} {tv : List AVTok} (h : AToks w B v tv) (hB : B' ≤ B) : AToks w B' v tv := by
  refine ⟨⟨h.row.1, ?_⟩, fun x hx => (h.parts x hx).mono hB⟩
  rcases h.row.2 with ⟨hv, h0⟩ | ⟨g, cap, cur, hv, hg, r⟩
  · exact .inl ⟨hv, h0⟩
  · exact .inr ⟨g, cap, cur, hv, Nat.le_trans hB hg, r⟩
/-- A row of tokens and one of parts lie apart. -/
theorem rows_apart {w : World} {B B' : Nat} {e e' : TypeId} {m m' : Nat} {v v' : Value} {n n' : Nat} {xs xs' : List Value} (h : w.ownsRow B e m v n xs) (h' : w.ownsRow B' e' m' v' n' xs') (he : e ≠ e') (k : Nat) (hk : v.ownBlock = some k) : v'.ownBlock ≠ some k := by
  intro hk'
  rcases h.2 with ⟨rfl, _⟩ | ⟨g, cap, cur, rfl, hg, hh, _⟩
  · cases hk
  · rcases h'.2 with ⟨rfl, _⟩ | ⟨g', cap', cur', rfl, hg', hh', _⟩
    · cases hk'
    · have e1 : g = k := by simpa [Value.ownBlock] using hk
      have e2 : g' = k := by simpa [Value.ownBlock] using hk'
      subst e1 e2
      rw [hh] at hh'
      simp only [Option.some.injEq, Obj.cells.injEq] at hh'
      exact he hh'.2.1

/-- What the rest of a source comes to, behind tokens that are there. -/
def lexRestA (L : List UInt8) (f k : Nat) (ts : List ATok) : Except (Nat × Nat) (List ATok) :=
  match lexA L f k with
  | .ok us => .ok (ts ++ us)
  | .error e => .error e
theorem lexRestA_step (L : List UInt8) (f k j : Nat) (ts : List ATok) (hj : k + skipN false (L.drop k) = j) :
    lexRestA L (f + 1) k ts = match tokenA L j with
      | .error e => .error e
      | .ok (t, n) => if t.kind = 0 then .ok (ts ++ [t]) else lexRestA L f n (ts ++ [t]) := by
  rw [lexRestA, lexA, hj]
  cases tokenA L j with
  | error e => rfl
  | ok x =>
    obtain ⟨t, n⟩ := x
    by_cases hk : t.kind = 0
    · simp only [hk, if_true]
    · simp only [hk, if_false, lexRestA]
      cases lexA L f n with
      | error e => rfl
      | ok us => simp

set_option maxHeartbeats 8000000 in
set_option maxRecDepth 100000 in
/-- alex.Lex. -/
theorem aLex_any (s : ByteArray) (w : World) (hs : s.size ≤ 8192) (sent : Nat → Addr) (hE : Env w sent)
    (R : Ending → World → Prop) (T : Except (Nat × Nat) (List ATok)) (hT : Hid (lexA s.data.toList (s.size + 1) 0 = T))
    (hgood : Hid (∀ (tv : List AVTok) v w', T = .ok (tv.map (·.1)) → AToks w' w.heap.size v tv → Below w.heap.size w w' → R (.returned (.tuple #[v, .nilIface])) w'))
    (hbad : Hid (∀ c p b w', T = .error (c, p) → ErrAt w' b sent c p → Below w.heap.size w w' → R (.returned (.tuple #[.slice none 0 0, .iface 102 (.pointer (some ⟨b, 0, none⟩))])) w')) :
    Calls Tryd.prog 30 #[.string s] w R := by
  obtain ⟨i0, hi0, hz0, hz1, hz2⟩ := info_parts infoATok
  go_enter Tryd.func30, Tryd.ntmps30
  go_wp2_with (go_at_call 21; refine (tNew_ok s _ hs).mono ?_; rintro e w1 ⟨rfl, hS1, hb1⟩)
  have l1 : w.heap.size < w1.heap.size := hS1.lt
  refine wp_world (fun w2 => TRd w2 w1.heap.size w.heap.size s 0 (.slice none 0 0) false ∧ Below w.heap.size w w2 ∧ w1.heap.size < w2.heap.size)
    ⟨⟨Blk.new w1 _ _, hS1.alloc _, by omega⟩, hb1.alloc (by omega) _, by simp⟩ ?_
  generalize w1.heap.size = rb at *
  intro w2 ⟨hR2, hb2, l2⟩
  clear hS1 hb1
  go_loopg [7] (s.size + 1) (fun n v wr => ∃ (k f : Nat) (tv : List AVTok) (vp : Value) (jp : Bool), n = s.size + 1 - k ∧ k ≤ s.size ∧ s.size - k < f ∧ tv.length ≤ k ∧ TRd wr rb w.heap.size s k vp jp ∧ AToks wr (rb + 1) v tv ∧ Below w.heap.size w wr ∧ rb < wr.heap.size ∧ Hid (lexRestA s.data.toList f k (tv.map (·.1)) = T))
  case atStart =>
    refine ⟨0, s.size + 1, [], _, _, rfl, by omega, by omega, by simp, hR2, AToks.nil _ _, hb2, l2, Lib.hid ?_⟩
    rw [← hT.out, lexRestA]
    simp only [List.map_nil, List.nil_append]
    cases lexA s.data.toList (s.size + 1) 0 <;> rfl
  case round =>
    clear hR2 hb2 l2
    obtain ⟨k, f, tv, vp, jp, rfl, hk, hf, htl, hR, hO, hb, hl, hrest⟩ := hrel
    obtain ⟨ao, cap, rfl⟩ := hO.form
    obtain ⟨j, hj⟩ : ∃ j, k + skipN false (s.data.toList.drop k) = j := ⟨_, rfl⟩
    have hjs : j ≤ s.size := by
      have := skipN_le false (s.data.toList.drop k)
      rw [List.length_drop, size_eq] at this
      omega
    have hfront := Lib.hid (skip_front false (s.data.toList.drop k))
    rw [List.drop_drop, hj] at hfront
    obtain ⟨f, rfl⟩ : ∃ f', f = f' + 1 := ⟨f - 1, by omega⟩
    have HS := Lib.hid ((lexRestA_step s.data.toList f k j (tv.map (·.1)) hj).symm.trans hrest.out)
    have HJ := Lib.hid hj
    have hE3 := hE.below hb
    have hG3 : ∀ c g, (c, g) ∈ errVars → g ≠ rb := fun c g hg e => by have := hE.lt hg; omega
    clear hj hrest
    cases htk : tokenA s.data.toList j with
    | error e =>
      obtain ⟨ec, ep⟩ := e
      have HS2 := HS.out
      rw [htk] at HS2
      dsimp only at HS2
      have HW := Lib.hid (aToken_any rb w.heap.size s k j vp jp wr hs hk hR sent hE3 hG3 HJ (.error (ec, ep)) (Lib.hid htk))
      have HB := Lib.hid fun b w' h1 h2 => hbad.out ec ep b w' HS2.symm h1 h2
      clear HS HS2 hgood hbad htk hfront HJ hR
      go_wp2_with (go_at_call 55; refine HW.out.mono ?_; rintro e w4 hst; obtain ⟨b, rfl, hE4, hK4⟩ := hst)
      have hb4 : Below w.heap.size w w4 := hb.trans (hK4.below hb.size (fun i hi e => by unfold At at e; omega))
      exact HB.out _ _ (by unfold ErrAt at hE4 ⊢; exact hE4.alloc _) (hb4.alloc hb4.size _)
    | ok x =>
      obtain ⟨t, n⟩ := x
      obtain ⟨hn1, hn2, hn3, hn4, hn5⟩ := tokenA_ok s.data.toList j t n (by rw [size_eq]; exact hjs) hfront.out htk
      rw [size_eq] at hn2 hn3
      have HS2 := HS.out
      rw [htk] at HS2
      dsimp only at HS2
      have HS2 := Lib.hid HS2
      have HW := Lib.hid (aToken_any rb w.heap.size s k j vp jp wr hs hk hR sent hE3 hG3 HJ (.ok (t, n)) (Lib.hid htk))
      have hjk : k ≤ j := by have := HJ.out; omega
      have HO5 := Lib.hid hn5
      obtain ⟨tk, tp, tps⟩ := t
      dsimp only at hn1 hn2 hn4
      subst hn1
      clear HS htk hfront HJ hR hn5
      go_upto_region 9 with (go_at_call 55; refine HW.out.mono ?_; rintro e w4 hst; obtain ⟨v4, j4, v2, rfl, hP4, hR4, hK4⟩ := hst; obtain ⟨ao2, cap2, rfl⟩ := hP4.form)
      have hb4 : Below w.heap.size w w4 := hb.trans (hK4.below hb.size (fun i hi e => by unfold At at e; omega))
      have hO4 := hO.kept hK4 (fun i hi _ e => by unfold At at e; omega)
      have hl4 : rb < w4.heap.size := Nat.lt_of_lt_of_le hl hK4.size
      have hP4' : PartsAt w4 (rb + 1) (.slice ao2 tps.length cap2) tps := hP4.mono (by omega)
      have hOA : ∀ o1 o2, AToks ((w4.alloc o1).alloc o2) (rb + 1) (.slice ao tv.length cap) tv := fun o1 o2 => hO4.below (((Below.refl _ _).alloc (Nat.le_refl _) _).alloc (by simp) _)
      have hown4 : ∀ k', (Value.slice ao tv.length cap).ownBlock = some k' → rb + 1 ≤ k' ∧ k' < w4.heap.size := hO4.row.lt
      have hap : ∀ x ∈ tv, ∀ k', (Value.slice ao tv.length cap).ownBlock = some k' → x.2.ownBlock ≠ some k' := fun x hx k' hk' => rows_apart hO4.row (hO4.parts x hx) (by decide) k' hk'
      have hap2 : ∀ k', (Value.slice ao tv.length cap).ownBlock = some k' → (Value.slice ao2 tps.length cap2).ownBlock ≠ some k' := fun k' hk' => rows_apart hO4.row hP4' (by decide) k' hk'
      clear HW hb hO hl hK4 hP4 hE3 hG3
      go_wp2_with (at_builtin; refine wpList_append_own _ rfl _ _ 54 rfl (rb + 1) 59 i0 _ 3 40 Tryd.underlying54 hi0 hz0 hz1 hz2 rfl (by decide) _ _ _ rfl (hOA _ _).row ⟨w4.heap.size + 1, 0, none⟩ 1 1 [.int .i64 (tk : Int), .int .i64 (tp : Int), .slice ao2 tps.length cap2] rfl rfl ?c1 ?c2 ?c3 ?c4 ?c5 ?_)
      case c1 => exact cells_new (by simp)
      case c2 =>
        intro u hu
        simp at hu
        rcases hu with rfl | rfl | rfl <;> rfl
      case c3 => unfold maxLen; omega
      case c4 => omega
      case c5 => simp; omega
      intro v' w5 hown' hgrow _
      have hK5 : Kept (fun k' => some k' = (Value.slice ao tv.length cap).ownBlock) w4 w5 := (((Kept.refl _ _).alloc _).alloc _).grown hgrow (fun k' h _ => h.symm)
      have hR5 : TRd w5 rb w.heap.size s n v4 j4 := ⟨hR4.here.kept hK5 (fun e => by have := hown4 _ e.symm; omega), hR4.src.kept hK5 (fun e => by have := hown4 _ e.symm; omega), hR4.ne⟩
      have hb5 : Below w.heap.size w w5 := hb4.trans (hK5.below hb4.size (fun i hi e => by have := hown4 _ e.symm; omega))
      have hO5 : AToks w5 (rb + 1) v' (tv ++ [(⟨tk, tp, tps⟩, .slice ao2 tps.length cap2)]) := by
        refine ⟨?_, fun x hx => ?_⟩
        · rw [List.length_append, List.flatMap_append]
          exact hown'
        · rcases List.mem_append.1 hx with hx | hx
          · exact (hO4.parts x hx).kept hK5 (fun k' hk' e => hap x hx k' e.symm hk')
          · rw [List.mem_singleton] at hx
            subst hx
            exact hP4'.kept hK5 (fun k' hk' e => hap2 k' e.symm hk')
      have hc5 : w5.cell? ⟨w4.heap.size, 0, none⟩ = some (.int .i64 (tk : Int)) := hgrow.cell (((Blk.newAt _ _ rfl).alloc _).cell 0 rfl) (fun e => by have := hown4 _ e.symm; exact absurd this.2 (by simp))
      have hl5 : rb < w5.heap.size := Nat.lt_of_lt_of_le hl4 hK5.size
      clear hOA hown4 hown' hgrow hK5 hR4 hO4 hb4 hl4 hap hap2 hP4'
      by_cases hk0 : tk = 0
      · subst hk0
        have HT2 := (if_pos rfl).symm.trans HS2.out
        have HR := Lib.hid (hgood.out _ v' w5 (by rw [← HT2, List.map_append]; rfl) (hO5.mono (by omega)) hb5)
        go_wp2_with fail
        exact HR.out
      · have hk1 : ((tk : Int) == 0) = false := by rw [beq_eq_false_iff_ne]; omega
        have HT2 := Lib.hid ((if_neg hk0).symm.trans HS2.out)
        have hn4' := hn4 hk0
        go_wp2_with fail
        go_roundg (s.size + 1 - n)
        case measure => omega
        case rel => exact ⟨n, f, _, v4, j4, rfl, by omega, by omega, by simp; omega, hR5, hO5, hb5, hl5, Lib.hid (by rw [← HT2.out, List.map_append]; rfl)⟩

theorem aLex_ok (s : ByteArray) (w : World) (hs : s.size ≤ 8192) (sent : Nat → Addr) (hE : Env w sent) (ts : List ATok) (hT : lexA s.data.toList (s.size + 1) 0 = .ok ts) :
    Calls Tryd.prog 30 #[.string s] w fun e w' => ∃ v tv, e = .returned (.tuple #[v, .nilIface]) ∧ ts = tv.map (·.1) ∧ AToks w' w.heap.size v tv ∧ Below w.heap.size w w' :=
  aLex_any s w hs sent hE _ (.ok ts) (Lib.hid hT) (Lib.hid fun tv v w' h1 h2 h3 => ⟨v, tv, rfl, by cases h1; rfl, h2, h3⟩) (Lib.hid fun c p b w' h1 => by cases h1)
theorem aLex_bad (s : ByteArray) (w : World) (hs : s.size ≤ 8192) (sent : Nat → Addr) (hE : Env w sent) (c p : Nat) (hT : lexA s.data.toList (s.size + 1) 0 = .error (c, p)) :
    Calls Tryd.prog 30 #[.string s] w fun e w' => ∃ b, e = .returned (.tuple #[.slice none 0 0, .iface 102 (.pointer (some ⟨b, 0, none⟩))]) ∧ ErrAt w' b sent c p ∧ Below w.heap.size w w' :=
  aLex_any s w hs sent hE _ (.error (c, p)) (Lib.hid hT) (Lib.hid fun tv v w' h1 => by cases h1) (Lib.hid fun c' p' b w' h1 h2 h3 => by cases h1; exact ⟨b, rfl, h2, h3⟩)

end Go.Proofs.YtdadgodjjfgmfaaDoor
