/-
 What is proved: the law FnExactNotifyChange returns true for all arguments. There are no conditions.
 The text was written by program (genlaw.py).
-/
import Derived.Test.YtpcbnmcfplioeaaGreatRows
import Derived.Test.YtpcbnmcfplioeaaGreatPnotchNC1
import Derived.Test.YtpcbnmcfplioeaaGreatKc
import Derived.ProofKit
namespace Go.Proofs.YtpcbnmcfplioeaaGreat.notch
open Go.ChangeShapes Go.WideShapes Go.ChangeAt Go.RowKit
set_option linter.unusedVariables false
theorem own : ownKnob Tryz.prog.godebug = none:=by kernel_rfl
theorem laidOut : laidOutB Tryz.prog = true:=by kernel_rfl
theorem readable : Tryz.f4.params.toList.all (fun t => Tryz.prog.readableRec t && decide (t < Tryz.prog.types.size)) = true:=by kernel_rfl
set_option maxRecDepth 100000 in
theorem lifted (os : Os) (started : os.Started) (H : Type) (enc : TypeId × Value -> H) :
  ReturnsInHanded {} Tryz.checked os 4 .any (Rows.fnExactNotifyChangeSpec.pre6 enc Tryz.prog Tryz.f4 Rows.fnExactNotifyChangeRow.domain false) (Rows.fnExactNotifyChangeSpec.post enc Tryz.prog Tryz.f4 false true false false):=by
 refine returnsInHanded_of_change (C:=Tryz.checked) own started (by kernel_rfl) Tryz.func4
  (ChangeSpec.witness6 (enc:=enc) (C:=Tryz.checked) false ⟨#[],#[.agg #[.slice none 0 0,.slice none 0 0,.slice none 0 0],.agg #[.string ⟨#[]⟩,.int .i64 0,.slice none 0 0,.int .i64 0,.slice none 0 0]],[]⟩ 8 (by kernel_rfl) (by kernel_rfl) (by kernel_rfl) (by kernel_rfl)) ?_
 intro W base args ds gs before hval0 hW hcnd _
 have hval : ∀ (j : Nat) t v,Tryz.f4.params[j]? = some t -> args[j]? = some v -> Value.okWide Tryz.prog W .any base t v:=hval0
 have hW':=hW
 obtain ⟨p,q,hA0,hV,rfl,hfz,hnd⟩:=hW
 have hA : DataW.TrodAll enc Tryz.prog W 0 (fun _ => true) true Tryz.f4.params.toList args.toList ds p:=hA0
 rw [Tryz.params4] at hA hval
 obtain ⟨v0,vs0,d0,ds0,p0,q0,hargs,rfl,rfl,h0,r0⟩:=trodAll_cons hA
 obtain ⟨v1,vs1,d1,ds1,p1,q1,rfl,rfl,rfl,h1,r1⟩:=trodAll_cons r0
 obtain ⟨rfl,rfl,rfl⟩:=trodAll_nil r1
 obtain rfl : args = #[v0,v1]:=by cases args; simp_all
 obtain ⟨rfl,rfl⟩:=trodVars_none hV
 obtain ⟨cs0,rfl,_⟩:=okWide_struct Tryz.underlying63 (hval 0 63 v0 rfl rfl)
 obtain ⟨a0,s0,k0⟩:=be pS h0
 obtain ⟨cs1,rfl,_⟩:=okWide_struct Tryz.underlying66 (hval 1 66 v1 rfl rfl)
 obtain ⟨a1,s1,k1⟩:=be pT h1
 simp only [List.append_nil] at hW' hA0
 refine (XQ (J0 (OT k0 k1)) ⟨_,_,rfl,Yt (p9 _) s0,⟨_,_,rfl,Yt (qb _) s1,rfl⟩⟩).mono fun e W' ⟨he,hb⟩ => ?_
 subst he
 exact ⟨_,rfl,Z1 laidOut readable rfl rfl Tryz.underlying4 hW' hA0 rfl hb⟩
theorem l8 {a b : Bool} (h1 : a = true) (h2 : b = true) : (a && b) = true:=by rw [h1,h2]; rfl
theorem joined : joinedFacts Tryz.pinned.checked.prog 4 Tryz.f4 Rows.fnExactNotifyChangeSpec Rows.fnExactNotifyChangeRow = true:=by
 unfold joinedFacts
 iterate 31 (refine l8 ?_ ?_)
 ·kernel_rfl
 ·kernel_rfl
 ·kernel_rfl
 ·kernel_rfl
 ·kernel_rfl
 ·kernel_rfl
 ·kernel_rfl
 ·kernel_rfl
 ·kernel_rfl
 ·kernel_rfl
 ·kernel_rfl
 ·kernel_rfl
 ·kernel_rfl
 ·kernel_rfl
 ·kernel_rfl
 ·kernel_rfl
 ·kernel_rfl
 ·kernel_rfl
 ·kernel_rfl
 ·kernel_rfl
 ·kernel_rfl
 ·kernel_rfl
 ·kernel_rfl
 ·kernel_rfl
 ·kernel_rfl
 ·kernel_rfl
 ·kernel_rfl
 ·kernel_rfl
 ·kernel_rfl
 ·kernel_rfl
 ·kernel_rfl
 ·kernel_rfl
theorem over : Rows.fnExactNotifyChangeRow.holds Tryz.pinned (OpenSpec.ofChange Rows.fnExactNotifyChangeSpec) :=
 OpenClaim.holds_of_wide 4 Tryz.f4 rfl rfl rfl rfl rfl rfl rfl ⟨rfl,rfl,rfl,rfl,rfl⟩ rfl rfl rfl rfl rfl (by kernel_rfl) Tryz.func4 joined
  (of_decide_eq_true (by kernel_rfl)) (by unfold Func.isWrapper; first | (rw [if_pos (by decide +kernel)]; kernel_rfl) | (rw [if_neg (by decide +kernel)]; exact ⟨rfl,rfl⟩))
  (fun os started H enc _ => lifted os started H enc)
theorem proved : Rows.FnExactNotifyChangeSaid :=
 over
#print axioms proved
end Go.Proofs.YtpcbnmcfplioeaaGreat.notch
