/- TextSays: the row. -/
import Derived.Test.YtdadgodjjfgmfaaDoorLook
import Derived.Test.YtdadgodjjfgmfaaDoorTextSays2
import Derived.Test.YtdadgodjjfgmfaaDoorTab
import Derived.LaidLaws
import Derived.Stop.LaidErr
import Derived.Stop.ErrReads
import Derived.MakeChecks
namespace Go.Proofs.YtdadgodjjfgmfaaDoor
open Go Go.ChangeShapes Go.WideShapes Go.ChangeAt Go.RowKit
open Go.ChangeMaps (open_string shut_string)

theorem own_textSays : ownKnob Tryd.prog.godebug = none := by kernel_rfl

/-- The door's own heap meets the condition. -/
theorem textSays_door (os : Os) (args : Array Value) : laidMetH Tryd.prog Rows.textSaysRow.laid ((World.doorLaid Tryd.prog 400 os).forCall (fun _ _ => 0) ⟨#[], args, []⟩).memory :=
  laidMetH_of_parts3 (fuel := 8) (laidMet_of_run' 8 (by kernel_rfl) (by kernel_rfl)) (by kernel_rfl) (by kernel_rfl)

theorem starErrT : "*" ++ "errors.errorString" = "*errors.errorString" := by decide
theorem nameErrT (u : TypeId) (h : Tryd.prog.typeName? 3 u = some "*errors.errorString") : u = 151 :=
  typeName_ptr_named (nm := "errors.errorString") (by rw [starErrT]; kernel_rfl) (by kernel_rfl) (by decide) u (by rw [starErrT]; exact h)
theorem cellsErrT : Tryd.prog.cellsOf 165 = 1 := by kernel_rfl
theorem cellsStrT : Tryd.prog.cellsOf 9 = 1 := by kernel_rfl
theorem gLong : Tryd.prog.globalNamed "patois/api.ErrLong" = some 0 := by kernel_rfl
theorem gLongType : (Tryd.prog.globals[0]?).map (·.type) = some 25 := by kernel_rfl

set_option maxRecDepth 100000 in
/-- The variable of the error 'too long' holds a pointer. -/
theorem errLong_row {l : List (String × DataW Unit)} {W : World}
    (hl : l = [("math/bits.deBruijn32tab", Rows.laid_math_bits_deBruijn32tab), ("math/bits.deBruijn64tab", Rows.laid_math_bits_deBruijn64tab), ("internal/strconv.uint64pow10", Rows.laid_internal_strconv_uint64pow10), ("patois/api.ErrLong", Rows.laid_patois_api_ErrLong)])
    (h : laidMetH Tryd.prog l W) : ∃ a, W.cell? ⟨0, 0, none⟩ = some (.iface 151 (.pointer (some a))) := by
  subst hl
  rw [MakeChecks.laidMetH_plain _ _ _ (by kernel_rfl)] at h
  have h3 := laidMet.tail (laidMet.tail (laidMet.tail h))
  unfold Rows.laid_patois_api_ErrLong at h3
  obtain ⟨a, s, hv, _⟩ := laid_sentinel h3 gLong gLongType Tryd.underlying25 nameErrT Tryd.underlying151 Tryd.underlying165 rfl rfl Tryd.underlying9 cellsErrT cellsStrT
  exact ⟨a, by simpa using World.var?_cell gLong hv 0⟩

set_option maxRecDepth 100000 in
theorem textSays_lifted (os : Os) (started : os.Started) (H : Type) (enc : TypeId × Value → H) :
    ReturnsInHanded {} Tryd.checked os 12 .any (fun w args => (Rows.textSaysSpec.pre enc Tryd.prog Tryd.f12 [] false w args ∧ laidMetH Tryd.prog Rows.textSaysRow.laid w) ∧ sizedMet enc Tryd.prog Tryd.f12 (OpenSpec.ofChange Rows.textSaysSpec) false w args)
      (Rows.textSaysSpec.post enc Tryd.prog Tryd.f12 false true false false) := by
  refine returnsInHanded_of_change_and (C := Tryd.checked) (X := fun w _ => laidMetH Tryd.prog Rows.textSaysRow.laid w) (fun _ _ _ hh h => h.of_heap hh) own_textSays started (by kernel_rfl) Tryd.func12
    (ChangeSpec.witness_shaped (enc := enc) (C := Tryd.checked) (os := os) (X := fun w _ => laidMetH Tryd.prog Rows.textSaysRow.laid w) false (World.doorLaid Tryd.prog 400 os) #[.string ⟨#[]⟩, .string ⟨#[]⟩, .int .i64 0, .int .i64 0] 8 rfl (World.shaped_of_RefB (by kernel_rfl) (by kernel_rfl)) (by kernel_rfl) (by kernel_rfl) (by kernel_rfl) (textSays_door os _)) ?_
  intro W base args ds gs before hval0 hW _ _ hL _
  have hval : ∀ (j : Nat) t v, Tryd.f12.params[j]? = some t → args[j]? = some v → Value.okWide Tryd.prog W .any base t v := hval0
  have hW' := hW
  obtain ⟨p, q, hA0, hV, rfl, hfz, hnd⟩ := hW
  have hA : DataW.TrodAll enc Tryd.prog W 0 (fun _ => true) true Tryd.f12.params.toList args.toList ds p := hA0
  rw [Tryd.params12] at hA hval
  obtain ⟨v0, v1, v2, v3, d0, d1, d2, d3, p0, p1, p2, p3, rfl, rfl, rfl, h0, h1, h2, h3⟩ := trodAll_four hA
  obtain ⟨rfl, rfl⟩ := trodVars_none hV
  obtain ⟨s, rfl, rfl, rfl, hs⟩ := open_string Tryd.underlying9 (hval 0 9 v0 rfl rfl) h0
  obtain ⟨t, rfl, rfl, rfl, ht⟩ := open_string Tryd.underlying9 (hval 1 9 v1 rfl rfl) h1
  obtain ⟨i, rfl, rfl, rfl, hi⟩ := open_int Tryd.underlying3 (hval 2 3 v2 rfl rfl) h2
  obtain ⟨j, rfl, rfl, rfl, hj⟩ := open_int Tryd.underlying3 (hval 3 3 v3 rfl rfl) h3
  simp only [List.append_nil] at hW'
  have k3 : IntKind.i64.min ≤ i ∧ i ≤ 9223372036854775807 := by simpa [Lit.wf] using hi
  have k4 : IntKind.i64.min = -9223372036854775808 := by decide
  obtain ⟨a, ha⟩ := errLong_row rfl hL
  refine (textSays_any s t i j (by omega) k3.2 hs ht W (tab_row rfl hL) a ha).mono fun e W' ⟨he, hb⟩ => ?_
  subst he
  exact ⟨_, rfl, law_post hW' rfl rfl Tryd.underlying4 (fun sp hsp => trodAll_mk4 (shut_string Tryd.underlying9 hs) (shut_string Tryd.underlying9 ht) (shut_int Tryd.underlying3 hi) (shut_int Tryd.underlying3 hj)) rfl rfl hb⟩

theorem textSays_holds : Rows.TextSaysSaid :=
  OpenClaim.holds_of_wide 12 Tryd.f12 rfl rfl rfl rfl rfl rfl rfl ⟨rfl, rfl, rfl, rfl, rfl⟩ rfl rfl rfl rfl rfl (by kernel_rfl) Tryd.func12 (by kernel_rfl)
    (of_decide_eq_true (by kernel_rfl)) (by unfold Func.isWrapper; first | (rw [if_pos (by decide +kernel)]; kernel_rfl) | (rw [if_neg (by decide +kernel)]; exact ⟨rfl, rfl⟩))
    (fun os started H enc _ => textSays_lifted os started H enc)
end Go.Proofs.YtdadgodjjfgmfaaDoor
