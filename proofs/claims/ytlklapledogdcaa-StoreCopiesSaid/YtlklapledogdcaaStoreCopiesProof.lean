/- StoreCopies answers true for all bytes and every byte, and changes nothing that was there. Condition: none beyond the row. -/
import Derived.Test.YtlklapledogdcaaRows
import Derived.Test.YtlklapledogdcaaMF
import Derived.Test.YtlklapledogdcaaSR
namespace Go.Proofs.Ytlklapledogdcaa.storeCopies
open Go.Proofs.Ytlklapledogdcaa.K Go.ChangeShapes Go.WideShapes Go.ChangeAt Go.RowKit

theorem own : ownKnob Try.prog.godebug = none := by kernel_rfl

set_option maxRecDepth 100000 in
set_option linter.unusedVariables false in
theorem lifted (os : Os) (started : os.Started) (H : Type) (enc : TypeId × Value → H) :
    ReturnsInHanded {} Try.checked os 7 .any (Rows.storeCopiesSpec.pre6 enc Try.prog Try.f7 Rows.storeCopiesRow.domain false) (Rows.storeCopiesSpec.post enc Try.prog Try.f7 false true false false) := by
  refine returnsInHanded_of_change (C := Try.checked) own started (by kernel_rfl) Try.func7
    (ChangeSpec.witness6 (enc := enc) (C := Try.checked) false ⟨#[], #[.slice none 0 0, .int .u8 0], []⟩ 8 (by kernel_rfl) (by kernel_rfl) (by kernel_rfl) (by kernel_rfl)) ?_
  intro W base args ds gs before hval0 hW hcnd _
  have hval : ∀ (j : Nat) t v, Try.f7.params[j]? = some t → args[j]? = some v → Value.okWide Try.prog W .any base t v := hval0
  have hW' := hW
  obtain ⟨p, q, hA0, hV, rfl, hfz, hnd⟩ := hW
  have hA : DataW.TrodAll enc Try.prog W 0 (fun _ => true) true Try.f7.params.toList args.toList ds p := hA0
  rw [Try.params7] at hA hval
  obtain ⟨v0, vs0, d0, ds0, p0, q0, hargs, rfl, rfl, h0, r0⟩ := trodAll_cons hA
  obtain ⟨v1, vs1, d1, ds1, p1, q1, rfl, rfl, rfl, h1, r1⟩ := trodAll_cons r0
  obtain ⟨rfl, rfl, rfl⟩ := trodAll_nil r1
  obtain rfl : args = #[v0, v1] := by cases args; simp_all
  obtain ⟨rfl, rfl⟩ := trodVars_none hV
  obtain ⟨c0, hb0, hsh0⟩ := open_by Try.underlying28 Try.underlying5 (by kernel_rfl) (hval 0 28 v0 rfl rfl) h0
  obtain ⟨a1, rfl, rfl, rfl, w1⟩ := open_int Try.underlying5 (hval 1 5 v1 rfl rfl) h1
  obtain ⟨k1, rfl⟩ : ∃ k1 : UInt8, a1 = (k1.toNat : Int) := ⟨UInt8.ofNat a1.toNat, by have := bounds_u8 w1; rw [UInt8.toNat_ofNat']; omega⟩
  clear hA0 hval0
  simp only [List.append_nil] at hW'
  refine (run_of_MF (vs := [v0, _]) (StoreCopies_m c0 k1) (fun _ _ h => h) (.cons hb0 (.cons (.v _ rfl) .nil))).mono (fun e W' ⟨he, hg⟩ => ?_)
  subst he
  exact ⟨_, rfl, post_ext (pv := []) hW' (trodAll_cons_mk (shut_bool Try.underlying4 _) trodAll_mk0) (trodAll_cons_mk (hsh0 _ hg) (trodAll_cons_mk (shut_int Try.underlying5 w1) trodAll_mk0)) rfl (by simp) hg⟩

theorem over : Rows.storeCopiesRow.holds Try.pinned (OpenSpec.ofChange Rows.storeCopiesSpec) :=
  OpenClaim.holds_of_wide 7 Try.f7 rfl rfl rfl rfl rfl rfl rfl ⟨rfl, rfl, rfl, rfl, rfl⟩ rfl rfl rfl rfl rfl (by kernel_rfl) Try.func7 (by kernel_rfl)
    (of_decide_eq_true (by kernel_rfl)) (by unfold Func.isWrapper; first | (rw [if_pos (by decide +kernel)]; kernel_rfl) | (rw [if_neg (by decide +kernel)]; exact ⟨rfl, rfl⟩))
    (fun os started H enc _ => lifted os started H enc)

theorem proved : Rows.StoreCopiesSaid :=
  over
#print axioms proved
end Go.Proofs.Ytlklapledogdcaa.storeCopies
