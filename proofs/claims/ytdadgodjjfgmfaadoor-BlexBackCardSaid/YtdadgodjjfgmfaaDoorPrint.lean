/- blex.Print. -/
import Derived.Test.YtdadgodjjfgmfaaDoorBlexPlaces
import Derived.Test.YtdadgodjjfgmfaaDoorPureB5
import Derived.Test.YtdadgodjjfgmfaaDoorBuilder2
import Derived.Deep.DeepCutAuto
import Derived.Deep.RegionWith
namespace Go.Proofs.YtdadgodjjfgmfaaDoor
open Go Go.RowKit

/-- The world within Print's loop: the tokens, the variable of bytealg, what has been written. -/
structure PSt (w wr : World) (g : Nat) (ts : List BTok) (mx : Int) (acc : List UInt8) : Prop where
  row : TokRow wr g ts
  mxc : wr.cell? ⟨4, 0, none⟩ = some (.int .i64 mx)
  bld : Bld wr w.heap.size acc
  low : Below w.heap.size w wr

theorem PSt.below {w wr w' : World} {g : Nat} {ts : List BTok} {mx : Int} {acc : List UInt8} (h : PSt w wr g ts mx acc) (hb : Below wr.heap.size wr w') : PSt w w' g ts mx acc :=
  ⟨h.row.below hb, bSome hb h.mxc, h.bld.below hb, bNext h.low hb⟩
theorem PSt.write {w wr w' : World} {g : Nat} {ts : List BTok} {mx : Int} {acc acc' : List UInt8} (h : PSt w wr g ts mx acc) (hg : g < w.heap.size) (hm : 4 < w.heap.size) (hB : Bld w' w.heap.size acc') (hK : Kept (OfBytes wr w.heap.size w.heap.size) wr w') : PSt w w' g ts mx acc' :=
  ⟨fun i a h1 j u h2 => hK.cell (h.row i a h1 j u h2) (fun e => by have := e.1; simp only [] at this; omega), hK.cell h.mxc (fun e => by have := e.1; simp only [] at this; omega), hB, h.low.trans (hK.below h.low.size (fun k hk e => by have := e.1; omega))⟩
theorem PSt.drew {w wr : World} {g : Nat} {ts : List BTok} {mx : Int} {acc : List UInt8} (h : PSt w wr g ts mx acc) : PSt w wr.drew g ts mx acc := h.below ⟨rfl, rfl, rfl, Nat.le_refl _, fun _ _ => rfl⟩
theorem PSt.as {w wr : World} {g : Nat} {ts : List BTok} {mx : Int} {acc acc' : List UInt8} (h : PSt w wr g ts mx acc) (e : acc = acc') : PSt w wr g ts mx acc' := e ▸ h

/-- The copy of a token that the loop's round has made. -/
def TBlk (w : World) (tb : Nat) (a : BTok) : Prop := w.heap[tb]? = some (.cells #[.int .i64 a.kind, .int .i64 a.place, .int .i64 a.num, .string (bs a.text), .bool a.glue] 29 (0, 0))
theorem TBlk.new (w : World) (a : BTok) : TBlk (w.alloc (.cells #[.int .i64 a.kind, .int .i64 a.place, .int .i64 a.num, .string (bs a.text), .bool a.glue] 29)) w.heap.size a := by
  show (w.heap.push _)[w.heap.size]? = _
  rw [Array.getElem?_push, if_pos rfl]
theorem TBlk.below {w w' : World} {tb : Nat} {a : BTok} (h : TBlk w tb a) (hb : Below w.heap.size w w') : TBlk w' tb a := (hb.block tb (lt_of_block h)).trans h
theorem TBlk.write {w w' : World} {tb b : Nat} {a : BTok} (h : TBlk w tb a) (hne : tb ≠ b) (hK : Kept (OfBytes w b b) w w') : TBlk w' tb a := by
  refine (hK.block tb (lt_of_block h) ?_).trans h
  rintro ⟨_, e | ⟨c, fz, e⟩⟩
  · exact hne e
  · rw [show w.heap[tb]? = _ from h] at e
    simp at e
theorem TBlk.blk {w : World} {tb : Nat} {a : BTok} (h : TBlk w tb a) : Blk w tb a.cells := ⟨_, h⟩

theorem bsApp (l m : List UInt8) : bs l ++ bs m = bs (l ++ m) := by
  unfold bs
  apply ByteArray.ext
  simp

theorem tNumber_lt (i : Nat) (w : World) (hi : i < 100) :
    Calls Tryd.prog 34 #[.int .i64 i] w fun e w' => e = .returned (.string (bs (Lib.decDigits i))) ∧ Below w.heap.size w w' := by
  go_enter Tryd.func34, Tryd.ntmps34
  go_wp2_with (go_at_call 56; refine (Tryd.strconv_Itoa_small i hi _).mono ?_; rintro e w' ⟨rfl, rfl⟩)
  go_ret
  exact ⟨rfl, Below.refl _ _⟩

set_option maxHeartbeats 8000000 in
set_option maxRecDepth 100000 in
theorem xPrint_any (g n cap : Nat) (hn : n ≤ cap) (hn2 : cap ≤ maxLen) (ts : List BTok) (hts : ts.length = n) (w : World) (mx : Int) (hR : TokRow w g ts) (hmx : w.cell? ⟨4, 0, none⟩ = some (.int .i64 mx)) (hg : g < w.heap.size)
    (hfine : Hid (∀ t ∈ ts, t.kind ≤ 23 ∧ (t.kind = 23 → t.num ≤ 9) ∧ t.text.length ≤ 10000)) (hlen : Hid (∀ k, (printT (ts.take k)).length ≤ 10000)) :
    Calls Tryd.prog 41 #[.slice (some ⟨g, 0, none⟩) n cap] w fun e w' => e = .returned (.string (bs (printT ts))) ∧ Below w.heap.size w w' := by
  have hm : 4 < w.heap.size := block_lt_of_cell hmx
  have hn3 : (n : Int) ≤ 9223372036854775807 := by unfold maxLen at hn2; omega
  go_enter Tryd.func41, Tryd.ntmps41
  go_wp2_with fail
  go_loopg [8] (n) (fun m c wr => ∃ k : Nat, m = n - k ∧ k ≤ n ∧ c = .int .i64 k ∧ PSt w wr g ts mx (printT (ts.take k)))
  case atStart => exact ⟨0, rfl, Nat.zero_le _, rfl, ⟨hR.below ((Below.refl _ _).alloc (Nat.le_refl _) _), bSome ((Below.refl _ _).alloc (Nat.le_refl _) _) hmx, Bld.newAt rfl, (Below.refl _ _).alloc (Nat.le_refl _) _⟩⟩
  case round =>
    clear hR hmx
    obtain ⟨k, rfl, hk, rfl, hP⟩ := hrel
    by_cases hlt : k < n
    · obtain ⟨a, ha⟩ : ∃ a, ts[k]? = some a := ⟨_, List.getElem?_eq_getElem (by omega)⟩
      obtain ⟨a0, a1, a2, a3, a4⟩ := hP.row.facts k a ha
      have htb : w.heap.size < wr.heap.size := hP.bld.lt
      have HA := Lib.hid ha
      clear ha
      go_upto_region 5 with fail
      refine wp_world (fun w1 => PSt w w1 g ts mx (printT (ts.take k)) ∧ TBlk w1 wr.heap.size a) ⟨hP.below ((Below.refl _ _).alloc (Nat.le_refl _) _), TBlk.new wr a⟩ ?_
      clear hP a0 a1 a2 a3 a4
      generalize wr.heap.size = tb at *
      intro w1 ⟨hP1, hT1⟩
      have t0 := hT1.blk.cell 0 rfl
      have t4 := hT1.blk.cell 4 rfl
      go_cut [24] from 10 to 24 (fun s24 w2 => s24 = .bool (decide (k ≠ 0 ∧ a.glue = false ∧ a.kind ≠ 0)) ∧ PSt w w2 g ts mx (printT (ts.take k)) ∧ TBlk w2 tb a)
      case first =>
        by_cases hk0 : k = 0
        · subst hk0
          go_wp2_with fail
          go_meet
          case rel => exact ⟨by simp, hP1, hT1⟩
        · have hk1 : (0 : Int) < k := by omega
          cases hgl : a.glue with
          | true =>
            rw [hgl] at t4
            go_wp2_with fail
            go_meet
            case rel => exact ⟨by simp [hgl], hP1, hT1⟩
          | false =>
            rw [hgl] at t4
            go_wp2_with fail
            go_meet
            case rel => exact ⟨by by_cases hz : a.kind = 0 <;> simp [hk0, hgl, hz] <;> omega, hP1, hT1⟩
      case rest =>
        clear hP1 hT1 t0 t4
        obtain ⟨rfl, hP2, hT2⟩ := hcut
        go_upto_if 24 with fail
        go_cut [] from 10 to 25 (fun w3 => PSt w w3 g ts mx (printT (ts.take k) ++ (if k = 0 then [] else sepB a)) ∧ TBlk w3 tb a)
        case first =>
          by_cases hs : k ≠ 0 ∧ a.glue = false ∧ a.kind ≠ 0
          · rw [decide_eq_true hs]
            go_wp2_with fail
            refine (Bld.writeByteK _ (printT (ts.take k)) 32 _ hP2.bld (by have := hlen.out k; omega)).mono ?_
            rintro e w4 ⟨rfl, hB4, hK4⟩
            have hP4 := hP2.write hg hm hB4 hK4
            have hT4 := hT2.write (by omega) hK4
            clear hP2 hT2 hB4 hK4
            go_wp2_with fail
            go_meet
            case rel => exact ⟨hP4.as (by rw [if_neg hs.1, sepB, if_pos hs.2]), hT4⟩
          · rw [decide_eq_false hs]
            go_wp2_with fail
            go_meet
            case rel =>
              refine ⟨hP2.as ?_, hT2⟩
              by_cases hk0 : k = 0
              · rw [if_pos hk0, List.append_nil]
              · rw [if_neg hk0, sepB, if_neg (fun e => hs ⟨hk0, e⟩), List.append_nil]
        case rest =>
          clear hP2 hT2
          obtain ⟨hP3, hT3⟩ := hcut
          have t0 := hT3.blk.cell 0 rfl
          have t2 := hT3.blk.cell 2 rfl
          have t3 := hT3.blk.cell 3 rfl
          obtain ⟨hf1, hf2, hf3⟩ := hfine.out a (List.mem_of_getElem? HA.out)
          have hacc : (printT (ts.take k) ++ (if k = 0 then [] else sepB a)).length ≤ 10001 := by
            have h1 := hlen.out k
            have h2 : (if k = 0 then [] else sepB a).length ≤ 1 := by
              split
              · simp
              · unfold sepB
                split <;> simp
            rw [List.length_append]
            omega
          have HN : Hid (printT (ts.take (k + 1)) = (printT (ts.take k) ++ (if k = 0 then [] else sepB a)) ++ showB a) := Lib.hid (by
            rw [printT_take ts k a HA.out]
            by_cases hk0 : k = 0
            · subst hk0
              rw [if_pos rfl, if_pos rfl]
              rfl
            · rw [if_neg hk0, if_neg hk0, List.append_assoc])
          generalize (printT (ts.take k) ++ (if k = 0 then [] else sepB a)) = acc at *
          have hxt : (bs a.text).size ≤ 10000 := by rw [bs_size]; omega
          by_cases h18 : a.kind = 18
          · have HS := Lib.hid (show showB a = a.text by unfold showB; rw [if_pos h18])
            rw [h18] at t0
            go_wp2_with fail
            refine (Bld.writeStringK _ acc (bs a.text) _ hP3.bld (by rw [bs_size]; omega)).mono ?_
            rintro e w4 ⟨rfl, hB4, hK4⟩
            have hP4 := hP3.write hg hm hB4 hK4
            clear hP3 hT3 hB4 hK4
            go_wp2_with fail
            go_roundg (n - (k + 1))
            case measure => omega
            case rel => exact ⟨k + 1, rfl, by omega, by go_num, hP4.as (by rw [HN.out, HS.out, bs_list])⟩
          · have hcs : a.kind = 19 ∨ a.kind = 20 ∨ a.kind = 21 ∨ a.kind = 22 ∨ a.kind = 23 ∨ (1 ≤ a.kind ∧ a.kind ≤ 17) ∨ a.kind = 0 := by omega
            rcases hcs with hk | hk | hk | hk | hk | hk | hk
            · obtain ⟨x, hx⟩ : ∃ x, (⟨#[39]⟩ : ByteArray) ++ bs (dblB a.text) ++ ⟨#[39]⟩ = x := ⟨_, rfl⟩
              have HX : Hid (bs (showB a) = x) := Lib.hid (by
                rw [← hx, show (⟨#[39]⟩ : ByteArray) = bs [39] from rfl, bsApp, bsApp]
                congr 1
                unfold showB
                simp [hk])
              have hdl := dblB_length a.text
              have hxs : x.size ≤ 30010 := by
                rw [← hx, show (⟨#[39]⟩ : ByteArray) = bs [39] from rfl, bsApp, bsApp, bs_size, List.length_append, List.length_append]
                simp
                omega
              have hds : (bs (dblB a.text)).size ≤ 20000 := by rw [bs_size]; omega
              have HR : Hid (∀ w1 : World, w1.cell? ⟨4, 0, none⟩ = some (.int .i64 mx) → Calls Tryd.prog 59 #[.string (bs a.text), .string ⟨#[39]⟩, .string ⟨#[39, 39]⟩] w1 fun e w' => e = .returned (.string (bs (dblB a.text))) ∧ Below w1.heap.size w1 w') := Lib.hid fun w1 h => by
                have hcb := Lib.countB_le ⟨#[39]⟩ (by decide) (bs a.text).size (bs a.text) (Nat.le_refl _)
                rw [bs_size] at hcb
                have hh := Tryd.strings_ReplaceAll (bs a.text) ⟨#[39]⟩ ⟨#[39, 39]⟩ mx w1 (by rw [bs_size]; omega) h (by decide) (by
                  rw [bs_size]
                  have : (⟨#[39, 39]⟩ : ByteArray).size = 2 := rfl
                  rw [this]
                  omega)
                rw [bs_list, show (⟨#[39]⟩ : ByteArray).data.toList = [39] from rfl, show (⟨#[39, 39]⟩ : ByteArray).data.toList = [39, 39] from rfl, replaceAll_dbl] at hh
                exact hh
              generalize hdd : bs (dblB a.text) = dd at *
              rw [hk] at t0
              go_wp2_with fail
              refine (HR.out _ hP3.mxc).mono ?_
              rintro e w5 ⟨rfl, hb5⟩
              have hP5 := hP3.below hb5
              have hT5 := hT3.below hb5
              clear hP3 hT3 hb5
              go_wp2_with fail
              refine (Bld.writeStringK _ acc x _ hP5.bld (by omega)).mono ?_
              rintro e w4 ⟨rfl, hB4, hK4⟩
              have hP4 := hP5.write hg hm hB4 hK4
              clear hP5 hT5 hB4 hK4
              go_wp2_with fail
              go_roundg (n - (k + 1))
              case measure => omega
              case rel => exact ⟨k + 1, rfl, by omega, by go_num, hP4.as (by rw [HN.out, ← HX.out, bs_list])⟩
            · obtain ⟨x, hx⟩ : ∃ x, (⟨#[36]⟩ : ByteArray) ++ bs a.text = x := ⟨_, rfl⟩
              have HX : Hid (bs (showB a) = x) := Lib.hid (by
                rw [← hx, show (⟨#[36]⟩ : ByteArray) = bs [36] from rfl, bsApp]
                congr 1
                unfold showB
                simp [hk])
              have hxs : x.size ≤ 10010 := by
                rw [← hx, show (⟨#[36]⟩ : ByteArray) = bs [36] from rfl, bsApp, bs_size, List.length_append]
                simp
                omega
              rw [hk] at t0
              go_wp2_with fail
              refine (Bld.writeStringK _ acc x _ hP3.bld (by omega)).mono ?_
              rintro e w4 ⟨rfl, hB4, hK4⟩
              have hP4 := hP3.write hg hm hB4 hK4
              clear hP3 hT3 hB4 hK4
              go_wp2_with fail
              go_roundg (n - (k + 1))
              case measure => omega
              case rel => exact ⟨k + 1, rfl, by omega, by go_num, hP4.as (by rw [HN.out, ← HX.out, bs_list])⟩
            · obtain ⟨x, hx⟩ : ∃ x, (⟨#[36, 35]⟩ : ByteArray) ++ bs a.text = x := ⟨_, rfl⟩
              have HX : Hid (bs (showB a) = x) := Lib.hid (by
                rw [← hx, show (⟨#[36, 35]⟩ : ByteArray) = bs [36, 35] from rfl, bsApp]
                congr 1
                unfold showB
                simp [hk])
              have hxs : x.size ≤ 10010 := by
                rw [← hx, show (⟨#[36, 35]⟩ : ByteArray) = bs [36, 35] from rfl, bsApp, bs_size, List.length_append]
                simp
                omega
              rw [hk] at t0
              go_wp2_with fail
              refine (Bld.writeStringK _ acc x _ hP3.bld (by omega)).mono ?_
              rintro e w4 ⟨rfl, hB4, hK4⟩
              have hP4 := hP3.write hg hm hB4 hK4
              clear hP3 hT3 hB4 hK4
              go_wp2_with fail
              go_roundg (n - (k + 1))
              case measure => omega
              case rel => exact ⟨k + 1, rfl, by omega, by go_num, hP4.as (by rw [HN.out, ← HX.out, bs_list])⟩
            · obtain ⟨x, hx⟩ : ∃ x, (⟨#[36, 34]⟩ : ByteArray) ++ bs a.text = x := ⟨_, rfl⟩
              have HX : Hid (bs (showB a) = x) := Lib.hid (by
                rw [← hx, show (⟨#[36, 34]⟩ : ByteArray) = bs [36, 34] from rfl, bsApp]
                congr 1
                unfold showB
                simp [hk])
              have hxs : x.size ≤ 10010 := by
                rw [← hx, show (⟨#[36, 34]⟩ : ByteArray) = bs [36, 34] from rfl, bsApp, bs_size, List.length_append]
                simp
                omega
              rw [hk] at t0
              go_wp2_with fail
              refine (Bld.writeStringK _ acc x _ hP3.bld (by omega)).mono ?_
              rintro e w4 ⟨rfl, hB4, hK4⟩
              have hP4 := hP3.write hg hm hB4 hK4
              clear hP3 hT3 hB4 hK4
              go_wp2_with fail
              go_roundg (n - (k + 1))
              case measure => omega
              case rel => exact ⟨k + 1, rfl, by omega, by go_num, hP4.as (by rw [HN.out, ← HX.out, bs_list])⟩
            · have hnum := hf2 hk
              obtain ⟨nt, hnt⟩ : ∃ nt, bs (Lib.decDigits a.num) = nt := ⟨_, rfl⟩
              obtain ⟨x, hx⟩ : ∃ x, (⟨#[36]⟩ : ByteArray) ++ nt = x := ⟨_, rfl⟩
              have hni : Lib.itoa (a.num : Int) = Lib.decDigits a.num := by rw [Lib.itoa, if_neg (by omega)]; rfl
              have HX : Hid (bs (showB a) = x) := Lib.hid (by
                rw [← hx, ← hnt, show (⟨#[36]⟩ : ByteArray) = bs [36] from rfl, bsApp]
                congr 1
                unfold showB
                simp [hk, hni])
              have hns : nt.size ≤ 10 := by
                rw [← hnt, bs_size, Lib.decDigits_length, Lib.nDigits_small (by omega)]
                omega
              have hxs : x.size ≤ 10010 := by
                rw [← hx, show (⟨#[36]⟩ : ByteArray) = bs [36] from rfl, ← bs_of nt, bsApp, bs_size, List.length_append, size_eq]
                simp
                omega
              have HNu := Lib.hid fun w1 => tNumber_lt a.num w1 (by omega)
              rw [hnt] at HNu
              clear hnt
              rw [hk] at t0
              go_wp2_with fail
              refine (HNu.out _).mono ?_
              rintro e w5 ⟨rfl, hb5⟩
              have hP5 := hP3.below hb5
              have hT5 := hT3.below hb5
              clear hP3 hT3 hb5
              go_wp2_with fail
              refine (Bld.writeStringK _ acc x _ hP5.bld (by omega)).mono ?_
              rintro e w4 ⟨rfl, hB4, hK4⟩
              have hP4 := hP5.write hg hm hB4 hK4
              clear hP5 hT5 hB4 hK4
              go_wp2_with fail
              go_roundg (n - (k + 1))
              case measure => omega
              case rel => exact ⟨k + 1, rfl, by omega, by go_num, hP4.as (by rw [HN.out, ← HX.out, bs_list])⟩
            · obtain ⟨o, ho⟩ : ∃ o, opsB[a.kind]? = some o := ⟨_, List.getElem?_eq_getElem (by show a.kind < 18; omega)⟩
              have HX : Hid (showB a = o) := Lib.hid (by
                unfold showB
                rw [if_neg (by omega), if_neg (by omega), if_neg (by omega), if_neg (by omega), if_neg (by omega), if_neg (by omega), List.getD_eq_getElem?_getD, ho]
                rfl)
              have hol : o.length ≤ 3 := by
                have hall : ∀ o ∈ opsB, o.length ≤ 3 := by decide
                exact hall o (List.mem_of_getElem? ho)
              have hcell : ∀ w1 : World, ∀ b : Nat, Blk w1 b (opsB.map fun l => .string (bs l)) → w1.cell? ⟨b, a.kind, none⟩ = some (.string (bs o)) := fun w1 b h => h.cell a.kind (by rw [List.getElem?_map, ho]; rfl)
              have HC := Lib.hid hcell
              obtain ⟨kd, hkd⟩ : ∃ kd, a.kind = kd := ⟨_, rfl⟩
              rw [hkd] at t0 HC hk
              have hk18 : ¬ kd = 18 := by omega
              have hk19 : ¬ kd = 19 := by omega
              have hk20 : ¬ kd = 20 := by omega
              have hk21 : ¬ kd = 21 := by omega
              have hk22 : ¬ kd = 22 := by omega
              have hk23 : ¬ kd = 23 := by omega
              obtain ⟨hk1, hk2⟩ := hk
              clear hcell ho hf1 hf2 hkd h18
              obtain ⟨ob, hob⟩ : ∃ ob, bs o = ob := ⟨_, rfl⟩
              have hobs : ob.size ≤ 3 := by rw [← hob, bs_size]; exact hol
              have HO : Hid (ob.data.toList = o) := Lib.hid (by rw [← hob, bs_list])
              rw [hob] at HC
              clear hob
              have hPd := hP3.drew
              go_wp2_with fail
              go_region_with (first
                | (go_at_call 60; refine (xOps_any _).mono ?_; rintro e w5 ⟨rfl, hO5, hb5⟩; have hc5 : w5.cell? ⟨wc.heap.size, kd, none⟩ = some (.string ob) := HC.out _ _ hO5; have hP5 := hPd.below hb5; have t05 : w5.cell? ⟨tb, 0, none⟩ = some (.int .i64 kd) := bSome hb5 (p := ⟨tb, 0, none⟩) (v := .int .i64 kd) t0)
                | (go_at_call 58; refine (Bld.writeStringK _ acc ob _ hP5.bld (by omega)).mono ?_; rintro e w4 ⟨rfl, hB4, hK4⟩; have hP4 := hP5.write hg hm hB4 hK4))
              all_goals
                go_wp2_with fail
                go_roundg (n - (k + 1))
                case measure => omega
                case rel => exact ⟨k + 1, rfl, by omega, by go_num, hP4.as (by rw [HN.out, HX.out, HO.out])⟩
            · have HX : Hid (showB a = []) := Lib.hid (by unfold showB; simp [hk, opsB])
              rw [hk] at t0
              go_wp2_with fail
              go_roundg (n - (k + 1))
              case measure => omega
              case rel => exact ⟨k + 1, rfl, by omega, by go_num, hP3.as (by rw [HN.out, HX.out, List.append_nil])⟩
    · have hP' := hP
      rw [List.take_of_length_le (l := ts) (i := k) (by omega)] at hP'
      go_wp2_with fail
      refine (Bld.string _ _ _ hP'.bld).mono ?_
      rintro e w4 ⟨rfl, hb4⟩
      go_wp2_with fail
      go_ret
      exact ⟨rfl, hP'.low.trans hb4⟩

end Go.Proofs.YtdadgodjjfgmfaaDoor
