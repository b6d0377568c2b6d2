/- AlexBack. -/
import Derived.Test.YtdadgodjjfgmfaaDoorAFlat
import Derived.Test.YtdadgodjjfgmfaaDoorPureA10
import Derived.Deep.RegionHeld3
namespace Go.Proofs.YtdadgodjjfgmfaaDoor
open Go Go.RowKit

set_option maxHeartbeats 4000000 in
set_option maxRecDepth 100000 in
theorem alexBack_long (s : ByteArray) (w : World) (sent : Nat → Addr) (hS : Sents w sent) (h : 1500 < s.size) :
    Calls Tryd.prog 14 #[.string s] w fun e w' => e = .returned (.bool true) ∧ Below w.heap.size w w' := by
  go_enter Tryd.func14, Tryd.ntmps14
  go_wp2_with fail
  refine (first10_any w sent hS).mono ?_
  rintro e w1 ⟨rfl, hb1⟩
  go_wp2_with fail
  go_ret
  exact ⟨rfl, hb1⟩

set_option maxHeartbeats 4000000 in
set_option maxRecDepth 100000 in
theorem alexBack_bad (s : ByteArray) (w : World) (sent : Nat → Addr) (hS : Sents w sent) (h : s.size ≤ 1500) (c q : Nat) (hT : lexA s.data.toList (s.size + 1) 0 = .error (c, q)) :
    Calls Tryd.prog 14 #[.string s] w fun e w' => e = .returned (.bool true) ∧ Below w.heap.size w w' := by
  go_enter Tryd.func14, Tryd.ntmps14
  go_wp2_with fail
  refine (first10_any w sent hS).mono ?_
  rintro e w1 ⟨rfl, hb1⟩
  have hS1 := hS.below hb1
  clear hS
  go_wp2_with fail
  refine (aLex_bad s w1 (by omega) sent hS1.env _ _ hT).mono ?_
  rintro e w2 ⟨b, rfl, hE, hb2⟩
  go_wp2_with fail
  go_ret
  exact ⟨rfl, bNext hb1 hb2⟩

theorem AlikeL.length : ∀ {ts us : List ATok}, AlikeL ts us → us.length = ts.length
  | [], [], _ => rfl
  | t :: ts, u :: us, h => by simp only [List.length_cons, AlikeL.length h.2.2]
  | [], u :: us, h => absurd h id
  | t :: ts, [], h => absurd h id
theorem AlikeL.get : ∀ {ts us : List ATok}, AlikeL ts us → ∀ (i : Nat) (t u : ATok), ts[i]? = some t → us[i]? = some u → t.kind = u.kind ∧ ∀ acc, foldK acc u.parts = foldK acc t.parts
  | [], [], _, i, t, u, h1, _ => by simp at h1
  | t :: ts, u :: us, h, 0, a, b, h1, h2 => by
    cases h1
    cases h2
    exact ⟨h.1, h.2.1⟩
  | t :: ts, u :: us, h, i + 1, a, b, h1, h2 => AlikeL.get h.2.2 i a b (by simpa using h1) (by simpa using h2)
  | [], u :: us, h, _, _, _, _, _ => absurd h id
  | t :: ts, [], h, _, _, _, _, _ => absurd h id

/-- A token's parts laid flat, in a world that has grown. -/
theorem flat_based {B : Nat} (kd pl : Nat) (v : Value) (P : List APart) (w : World) (hV : PSl w v P) (hP : P.length ≤ 10000) (hT : (deadText P).length ≤ 100000) (hB : w.heap.size = B) :
    ∀ w5, Below B w w5 → Calls Tryd.prog 44 #[.agg #[.int .i64 kd, .int .i64 pl, v]] w5 fun e w' => ∃ v', e = .returned v' ∧ PSl w' v' (flatA P) ∧ Below w5.heap.size w5 w' ∧ Below B w w' := fun w5 hb => by
  subst hB
  refine (aFlat_any kd pl v P w5 (hV.below hb) hP hT).mono ?_
  rintro e w' ⟨v', rfl, h1, h2⟩
  exact ⟨v', rfl, h1.psl, h2, bNext hb h2⟩

set_option maxHeartbeats 8000000 in
set_option maxRecDepth 100000 in
theorem alexBack_ok (s : ByteArray) (w : World) (sent : Nat → Addr) (hS : Sents w sent) (h : s.size ≤ 1500) (mx : Int) (hmx : w.cell? ⟨4, 0, none⟩ = some (.int .i64 mx))
    (ts us : List ATok) (hT : lexA s.data.toList (s.size + 1) 0 = .ok ts) (hlt0 : 0 < ts.length) (hlt1 : ts.length ≤ 10000) (hp : (printA true ts).length ≤ 7500)
    (hU : lexA (printA true ts) ((printA true ts).length + 1) 0 = .ok us) (hal : Hid (AlikeL ts us))
    (hfine : Hid (∀ t ∈ ts, t.kind ≤ 13 ∧ ∀ p ∈ t.parts, (1 ≤ p.kind ∧ p.kind ≤ 6) ∧ (p.kind = 5 → 1 ≤ p.num ∧ p.num ≤ 9) ∧ p.text.length ≤ 10000)) (hlen : Hid (∀ k, (printA true (ts.take k)).length ≤ 10000))
    (hts : Hid (∀ t ∈ ts, t.parts.length ≤ 10000 ∧ (deadText t.parts).length ≤ 100000)) (hus : Hid (∀ t ∈ us, t.parts.length ≤ 10000 ∧ (deadText t.parts).length ≤ 100000)) :
    Calls Tryd.prog 14 #[.string s] w fun e w' => e = .returned (.bool true) ∧ Below w.heap.size w w' := by
  have hl := hal.out.length
  go_enter Tryd.func14, Tryd.ntmps14
  go_wp2_with fail
  refine (first10_any w sent hS).mono ?_
  rintro e w1 ⟨rfl, hb1⟩
  have hS1 := hS.below hb1
  have hm1 := bSome hb1 hmx
  clear hS hmx
  go_wp2_with fail
  refine (aLex_row s w1 (by omega) sent hS1.env _ hT hlt0).mono ?_
  rintro e w2 ⟨g, cap, rfl, hp1, hp2, hg2, hR, hb2⟩
  have hS2 := hS1.below hb2
  have hm2 := bSome hb2 hm1
  have hB2 := bNext hb1 hb2
  obtain ⟨N, hN⟩ : ∃ N, ts.length = N := ⟨_, rfl⟩
  clear hS1 hb1 hb2 hm1
  have HPr := Lib.hid (aPrint_any g ts.length cap hp1 hp2 ts rfl w2 mx hR hm2 hg2 hfine hlen)
  rw [hN] at hlt0 hlt1 hp1 hl HPr ⊢
  go_wp2_with fail
  refine HPr.out.mono ?_
  rintro e w3 ⟨rfl, hb3⟩
  have hS3 := hS2.below hb3
  have hR3 := Lib.hid (hR.below hb3)
  have hB3 := bNext hB2 hb3
  clear hS2 hB2 hb3 hR hm2 HPr
  go_wp2_with fail
  refine (aLex_row (bs (printA true ts)) w3 (by rw [bs_size]; omega) sent hS3.env us (by rw [bs_size, bs_list]; exact hU) (by omega)).mono ?_
  rintro e w4 ⟨g2, cap2, rfl, hq1, hq2, hg4, hR4', hb4⟩
  have hR4 := Lib.hid hR4'
  have hR5 := Lib.hid (hR3.out.below hb4)
  have hB4 := bNext hB3 hb4
  rw [hl] at hq1 ⊢
  have HN := Lib.hid hN
  have HL := Lib.hid hl
  clear hS3 hb4 hR4' hB3 hR3 hN hl hT hU
  go_wp2_with fail
  go_loopg [8] (N) (fun m c wr => ∃ k : Nat, m = N - k ∧ k ≤ N ∧ c = .int .i64 k ∧ Hid (ATRow wr g ts) ∧ Hid (ATRow wr g2 us) ∧ Below w.heap.size w wr)
  case atStart => exact ⟨0, rfl, Nat.zero_le _, rfl, hR5, hR4, hB4⟩
  case round =>
    clear hR5 hR4 hB4
    obtain ⟨k, rfl, hk, rfl, hR1, hR2, hb⟩ := hrel
    by_cases hlt : k < N
    · obtain ⟨a, ha⟩ : ∃ a, ts[k]? = some a := ⟨_, List.getElem?_eq_getElem (by have := HN.out; omega)⟩
      obtain ⟨b, hbb⟩ : ∃ b, us[k]? = some b := ⟨_, List.getElem?_eq_getElem (by have := HL.out; omega)⟩
      obtain ⟨a0, a1, va, a2, hVa⟩ := hR1.out k a ha
      obtain ⟨b0, b1, vb, b2, hVb⟩ := hR2.out k b hbb
      obtain ⟨e1, e2⟩ := hal.out.get k a b ha hbb
      obtain ⟨p1, p2⟩ := hts.out a (List.mem_of_getElem? ha)
      obtain ⟨p3, p4⟩ := hus.out b (List.mem_of_getElem? hbb)
      have HK := Lib.hid (show (flatA a.parts).map akey = (flatA b.parts).map akey by rw [flatA_key, flatA_key, e2])
      rw [← e1] at b0
      have HA := Lib.hid (flat_based (B := wr.heap.size) a.kind a.place va a.parts wr hVa p1 p2 rfl)
      have HB := Lib.hid (flat_based (B := wr.heap.size) a.kind b.place vb b.parts wr hVb p3 p4 rfl)
      obtain ⟨ao1, c1, hva, -, -, -⟩ := hVa
      obtain ⟨ao2, c2, hvb, -, -, -⟩ := hVb
      rw [hva] at a2 HA
      rw [hvb] at b2 HB
      obtain ⟨ka, hka⟩ : ∃ x : Int, (a.kind : Int) = x := ⟨_, rfl⟩
      obtain ⟨qa, hqa⟩ : ∃ x : Int, (a.place : Int) = x := ⟨_, rfl⟩
      obtain ⟨qb, hqb⟩ : ∃ x : Int, (b.place : Int) = x := ⟨_, rfl⟩
      obtain ⟨na, hna⟩ : ∃ x : Nat, a.parts.length = x := ⟨_, rfl⟩
      obtain ⟨nb, hnb⟩ : ∃ x : Nat, b.parts.length = x := ⟨_, rfl⟩
      rw [hka] at a0 b0 HA HB
      rw [hqa] at a1 HA
      rw [hqb] at b1 HB
      rw [hna] at a2 HA
      rw [hnb] at b2 HB
      obtain ⟨FA, hFA⟩ : ∃ x, flatA a.parts = x := ⟨_, rfl⟩
      obtain ⟨FB, hFB⟩ : ∃ x, flatA b.parts = x := ⟨_, rfl⟩
      rw [hFA] at HA HK
      rw [hFB] at HB HK
      have hb0 : Below wr.heap.size wr wr := Below.refl _ _
      have hb1 : Below wr.heap.size wr wr.drew := ⟨rfl, rfl, rfl, Nat.le_refl _, fun _ _ => rfl⟩
      have hkb : (0 : Int) ≤ (k : Int) := by omega
      have hkn : (k : Int) < (N : Int) := by omega
      have hne : (ka != ka) = false := by simp
      clear e1 e2 ha hbb p1 p2 p3 p4 hva hvb hka hqa hqb hna hnb hFA hFB
      have HX := Lib.hid hb
      clear hb
      go_upto_region 13 with fail
      go_region_held3 (fun w' => w'.cell? ⟨g, k * 3, none⟩ = some (.int .i64 ka) ∧ w'.cell? ⟨g, k * 3 + 1, none⟩ = some (.int .i64 qa) ∧ w'.cell? ⟨g, k * 3 + 2, none⟩ = some (.slice ao1 na c1) ∧ w'.cell? ⟨g2, k * 3, none⟩ = some (.int .i64 ka) ∧ w'.cell? ⟨g2, k * 3 + 1, none⟩ = some (.int .i64 qb) ∧ w'.cell? ⟨g2, k * 3 + 2, none⟩ = some (.slice ao2 nb c2))
        (first | exact ⟨bSome hb6 a0, bSome hb6 a1, bSome hb6 a2, bSome hb6 b0, bSome hb6 b1, bSome hb6 b2⟩ | exact ⟨bSome hb5 a0, bSome hb5 a1, bSome hb5 a2, bSome hb5 b0, bSome hb5 b1, bSome hb5 b2⟩ | exact ⟨bSome hb1 a0, bSome hb1 a1, bSome hb1 a2, bSome hb1 b0, bSome hb1 b1, bSome hb1 b2⟩)
        (first
          | (go_at_call 44; (with_reducible refine (HA.out _ hb1).mono ?_); rintro e w5 ⟨v5, rfl, hPa, hba, hb5⟩)
          | (go_at_call 44; (with_reducible refine (HB.out _ hb5).mono ?_); rintro e w6 ⟨v6, rfl, hPb, hba, hb6⟩; replace hPa := hPa.below hba)
          | (go_at_call 43; (with_reducible refine (aSame_any _ _ _ _ _ hPa hPb HK).mono ?_); rintro e w7 ⟨rfl, hba⟩; replace hb6 := bNext hb6 hba))
      go_wp2_with fail
      go_roundg (N - (k + 1))
      case measure => omega
      case rel => exact ⟨k + 1, rfl, by omega, by go_num, Lib.hid (hR1.out.below hb6), Lib.hid (hR2.out.below hb6), bNext HX.out hb6⟩
    · go_wp2_with fail
      go_ret
      exact ⟨rfl, hb⟩

/-- patoislaw10.AlexBack. -/
theorem alexBack_any (s : ByteArray) (w : World) (sent : Nat → Addr) (hS : Sents w sent) (mx : Int) (hmx : w.cell? ⟨4, 0, none⟩ = some (.int .i64 mx)) :
    Calls Tryd.prog 14 #[.string s] w fun e w' => e = .returned (.bool true) ∧ Below w.heap.size w w' := by
  by_cases h : 1500 < s.size
  · exact alexBack_long s w sent hS h
  · cases hT : lexA s.data.toList (s.size + 1) 0 with
    | error e => exact alexBack_bad s w sent hS (by omega) e.1 e.2 hT
    | ok ts =>
      have hsz := size_eq s
      have hT' : lexA s.data.toList (s.data.toList.length + 1) 0 = .ok ts := by rw [hsz]; exact hT
      obtain ⟨us, hU, hal⟩ := lexA_print s.data.toList ts hT'
      have hpl := print_len s.data.toList _ 0 ts true (Nat.zero_le _) hT'
      have hV := lexA_valid s.data.toList _ 0 ts (Nat.zero_le _) (by omega) hT'
      have hv := ValidA.all ts hV
      have hsum := lexA_sum s.data.toList _ 0 ts (Nat.zero_le _) hT'
      have hcnt := lexA_count s.data.toList _ 0 ts (Nat.zero_le _) hT'
      have hsum2 := lexA_sum (printA true ts) _ 0 us (Nat.zero_le _) hU
      rw [hsz] at hpl hsum hcnt
      have hpos : 0 < ts.length := by
        cases ts with
        | nil => exact absurd hV id
        | cons t ts => simp
      refine alexBack_ok s w sent hS (by omega) mx hmx ts us hT hpos (by omega) (by omega) hU (Lib.hid hal) (Lib.hid fun t ht => ?_) (Lib.hid fun k => ?_) (Lib.hid fun t ht => ?_) (Lib.hid fun t ht => ?_)
      · obtain ⟨f1, f2⟩ := (hv t ht).fine
        refine ⟨f1, fun p hp => ⟨(f2 p hp).1, (f2 p hp).2, ?_⟩⟩
        have h1 := part_text_le t.parts p hp
        have h2 := (hsum t ht).2
        omega
      · have := printA_le ts k true
        omega
      · obtain ⟨q1, q2⟩ := hsum t ht
        exact ⟨by omega, by omega⟩
      · obtain ⟨q1, q2⟩ := hsum2 t ht
        exact ⟨by omega, by omega⟩

end Go.Proofs.YtdadgodjjfgmfaaDoor
