/-
  What is proved: the law FnExactIsValidCertificate returns true for all arguments. There are no conditions.
  The text was written by program (genlaw.py).
-/
import Derived.Test.YtkclaipnejgloaaDoorRows
import Derived.Test.YtkclaipnejgloaaDoorGvIC1
import Derived.Test.YtkclaipnejgloaaDoorCards
import Derived.Test.YtkclaipnejgloaaDoorTie
import Derived.SevenTiedAt
import Derived.Test.YtkclaipnejgloaaDoorPvalidcIC1
import Derived.Test.YtkclaipnejgloaaDoorKc
import Derived.ProofKit
namespace Go.Proofs.YtkclaipnejgloaaDoor.validc
open Go.ChangeShapes Go.WideShapes Go.ChangeAt Go.RowKit
set_option linter.unusedVariables false
theorem own : ownKnob Tryd.prog.godebug = none := by kernel_rfl
theorem laidOut : laidOutB Tryd.prog = true := by kernel_rfl
theorem readable : Tryd.f3.params.toList.all (fun t => Tryd.prog.readableRec t && decide (t < Tryd.prog.types.size)) = true := by kernel_rfl

set_option maxRecDepth 100000 in
theorem lifted (os : Os) (started : os.Started) (H : Type) (enc : TypeId × Value → H) :
    ReturnsInHanded {} Tryd.checked os 3 .any (fun w args => (Rows.fnExactIsValidCertificateSpec.pre enc Tryd.prog Tryd.f3 Rows.fnExactIsValidCertificateRow.domain false w args ∧ laidMetH Tryd.prog Rows.fnExactIsValidCertificateRow.laid w) ∧ sizedMet enc Tryd.prog Tryd.f3 (OpenSpec.ofChange Rows.fnExactIsValidCertificateSpec) false w args) (Rows.fnExactIsValidCertificateSpec.post enc Tryd.prog Tryd.f3 false true false false) := by
  refine returnsInHanded_of_change_and (C := Tryd.checked) (X := fun w _ => laidMetH Tryd.prog Rows.fnExactIsValidCertificateRow.laid w) (fun _ _ _ hh h => h.of_heap hh) own started (by kernel_rfl) Tryd.func3
    (ChangeSpec.witness_at (enc := enc) (C := Tryd.checked) (os := os) (X := fun w _ => laidMetH Tryd.prog Rows.fnExactIsValidCertificateRow.laid w) false (laidWorld os) #[.agg #[.int .i64 0, .slice none 0 0, .slice none 0 0], .agg #[.slice none 0 0, .slice none 0 0, .slice none 0 0, .int .i64 0, .int .i64 0]] 8 rfl (by kernel_rfl) (by kernel_rfl) (by kernel_rfl) (by kernel_rfl) (by kernel_rfl) (laidWorld_met os _)) ?_
  intro W base args ds gs before hval0 hW hcnd _ hL _
  have hval : ∀ (j : Nat) t v, Tryd.f3.params[j]? = some t → args[j]? = some v → Value.okWide Tryd.prog W .any base t v := hval0
  have hW' := hW
  obtain ⟨p, q, hA0, hV, rfl, hfz, hnd⟩ := hW
  have hA : DataW.TrodAll enc Tryd.prog W 0 (fun _ => true) true Tryd.f3.params.toList args.toList ds p := hA0
  rw [Tryd.params3] at hA hval
  obtain ⟨v0, vs0, d0, ds0, p0, q0, hargs, rfl, rfl, h0, r0⟩ := trodAll_cons hA
  obtain ⟨v1, vs1, d1, ds1, p1, q1, rfl, rfl, rfl, h1, r1⟩ := trodAll_cons r0
  obtain ⟨rfl, rfl, rfl⟩ := trodAll_nil r1
  obtain rfl : args = #[v0, v1] := by cases args; simp_all
  have hv := one_of_laid hL
  obtain ⟨rfl, rfl⟩ := DataW.TrodVars.unique hV (one_vars (enc := enc) hv _)
  obtain ⟨cs0, rfl, _⟩ := okWide_struct Tryd.underlying25 (hval 0 25 v0 rfl rfl)
  obtain ⟨a0, s0, k0⟩ := arg_st op25 h0
  obtain ⟨cs1, rfl, _⟩ := okWide_struct Tryd.underlying28 (hval 1 28 v1 rfl rfl)
  obtain ⟨a1, s1, k1⟩ := arg_st op28 h1
  simp only [List.append_nil] at hW' hA0
  refine (law_calls (laws_FnExactIsValidCertificate_s (law_IsValidCertificate k0 k1)) (one_glb hv) ⟨_, _, rfl, s0, ⟨_, _, rfl, s1, rfl⟩⟩).mono fun e W' ⟨he, hb⟩ => ?_
  subst he
  exact ⟨_, rfl, law_postV laidOut readable rfl rfl Tryd.underlying4 hW' hA0 hv rfl hb⟩

theorem and_t {a b : Bool} (h1 : a = true) (h2 : b = true) : (a && b) = true := by rw [h1, h2]; rfl
theorem joined : joinedFacts Tryd.pinned.checked.prog 3 Tryd.f3 Rows.fnExactIsValidCertificateSpec Rows.fnExactIsValidCertificateRow = true := by
  unfold joinedFacts
  iterate 31 (refine and_t ?_ ?_)
  · kernel_rfl
  · kernel_rfl
  · kernel_rfl
  · kernel_rfl
  · kernel_rfl
  · kernel_rfl
  · kernel_rfl
  · kernel_rfl
  · kernel_rfl
  · kernel_rfl
  · kernel_rfl
  · kernel_rfl
  · kernel_rfl
  · kernel_rfl
  · kernel_rfl
  · kernel_rfl
  · kernel_rfl
  · kernel_rfl
  · kernel_rfl
  · kernel_rfl
  · kernel_rfl
  · kernel_rfl
  · kernel_rfl
  · kernel_rfl
  · kernel_rfl
  · kernel_rfl
  · kernel_rfl
  · kernel_rfl
  · kernel_rfl
  · kernel_rfl
  · kernel_rfl
  · kernel_rfl

theorem over : Rows.fnExactIsValidCertificateRow.holds Tryd.pinned (OpenSpec.ofChange Rows.fnExactIsValidCertificateSpec) :=
  OpenClaim.holds_of_wide 3 Tryd.f3 rfl rfl rfl rfl rfl rfl rfl ⟨rfl, rfl, rfl, rfl, rfl⟩ rfl rfl rfl rfl rfl (by kernel_rfl) Tryd.func3 joined
    (of_decide_eq_true (by kernel_rfl)) (by unfold Func.isWrapper; first | (rw [if_pos (by decide +kernel)]; kernel_rfl) | (rw [if_neg (by decide +kernel)]; exact ⟨rfl, rfl⟩))
    (fun os started H enc _ => lifted os started H enc)

theorem proved : Rows.FnExactIsValidCertificateCardSaid :=
  Claim7.holds_tied_plain_at .later [] [.data] true (true, "e19e373961de73aac3ffccc462fb29ca4dc32373563ad9e65885ede64badd67c") false
    over (fun _ h => by cases h) (by kernel_rfl) (fun _ h => by cases h) fnExactIsValidCertificate_row_tie rfl ⟨rfl, rfl⟩ (by kernel_rfl) rfl
    (fun f fn hf hfn => by
      obtain rfl : f = 3 := Option.some.inj ((show Tryd.prog.funcNamed Rows.fnExactIsValidCertificateRow.func = some 3 by kernel_rfl).symm.trans hf) |>.symm
      obtain rfl : fn = Tryd.f3 := (Option.some.inj (Tryd.func3.symm.trans hfn)).symm
      refine ⟨by kernel_rfl, fun j t ht => ?_⟩
      rw [Tryd.params3] at ht
      have hall : ([25, 28].all fun t => !Tryd.prog.wantsStandIn t) = true := by kernel_rfl
      have hm : t ∈ [25, 28] := by simpa using Array.mem_of_getElem? ht
      have h9 : Tryd.prog.wantsStandIn t = false := by simpa using List.all_eq_true.1 hall t hm
      exact h9)
    (by kernel_rfl)
#print axioms proved
end Go.Proofs.YtkclaipnejgloaaDoor.validc
