/-
 What is proved: the law FnExactIsCertificateFor returns true for all arguments. There are no conditions.
 The text was written by program (genlaw.py).
-/
import Derived.Test.YtkclaipnejgloaaGreatDoorRows
import Derived.Test.YtkclaipnejgloaaGreatDoorGvIF1
import Derived.Test.YtkclaipnejgloaaGreatDoorCards
import Derived.Test.YtkclaipnejgloaaGreatDoorTie
import Derived.SevenTiedAt
import Derived.Test.YtkclaipnejgloaaGreatDoorPiscfIF1
import Derived.Test.YtkclaipnejgloaaGreatDoorKc
import Derived.ProofKit
namespace Go.Proofs.YtkclaipnejgloaaGreatDoor.iscf
open Go.ChangeShapes Go.WideShapes Go.ChangeAt Go.RowKit
set_option linter.unusedVariables false
theorem own : ownKnob Tryz.prog.godebug = none:=by kernel_rfl
theorem laidOut : laidOutB Tryz.prog = true:=by kernel_rfl
theorem readable : Tryz.f3.params.toList.all (fun t => Tryz.prog.readableRec t && decide (t < Tryz.prog.types.size)) = true:=by kernel_rfl
set_option maxRecDepth 100000 in
theorem lifted (os : Os) (started : os.Started) (H : Type) (enc : TypeId × Value -> H) :
  ReturnsInHanded {} Tryz.checked os 3 .any (fun w args => (Rows.fnExactIsCertificateForSpec.pre enc Tryz.prog Tryz.f3 Rows.fnExactIsCertificateForRow.domain false w args ∧ laidMetH Tryz.prog Rows.fnExactIsCertificateForRow.laid w) ∧ sizedMet enc Tryz.prog Tryz.f3 (OpenSpec.ofChange Rows.fnExactIsCertificateForSpec) false w args) (Rows.fnExactIsCertificateForSpec.post enc Tryz.prog Tryz.f3 false true false false):=by
 refine returnsInHanded_of_change_and (C:=Tryz.checked) (X:=fun w _ => laidMetH Tryz.prog Rows.fnExactIsCertificateForRow.laid w) (fun _ _ _ hh h => h.of_heap hh) own started (by kernel_rfl) Tryz.func3
  (ChangeSpec.witness_at (enc:=enc) (C:=Tryz.checked) (os:=os) (X:=fun w _ => laidMetH Tryz.prog Rows.fnExactIsCertificateForRow.laid w) false (laidWorld os) #[.agg #[.slice none 0 0],.agg #[.int .i64 0,.slice none 0 0,.slice none 0 0],.agg #[.slice none 0 0,.slice none 0 0,.slice none 0 0,.int .i64 0,.int .i64 0]] 8 rfl (by kernel_rfl) (by kernel_rfl) (by kernel_rfl) (by kernel_rfl) (by kernel_rfl) (laidWorld_met os _)) ?_
 intro W base args ds gs before hval0 hW hcnd _ hL _
 have hval : ∀ (j : Nat) t v,Tryz.f3.params[j]? = some t -> args[j]? = some v -> Value.okWide Tryz.prog W .any base t v:=hval0
 have hW':=hW
 obtain ⟨p,q,hA0,hV,rfl,hfz,hnd⟩:=hW
 have hA : DataW.TrodAll enc Tryz.prog W 0 (fun _ => true) true Tryz.f3.params.toList args.toList ds p:=hA0
 rw [Tryz.params3] at hA hval
 obtain ⟨v0,vs0,d0,ds0,p0,q0,hargs,rfl,rfl,h0,r0⟩:=trodAll_cons hA
 obtain ⟨v1,vs1,d1,ds1,p1,q1,rfl,rfl,rfl,h1,r1⟩:=trodAll_cons r0
 obtain ⟨v2,vs2,d2,ds2,p2,q2,rfl,rfl,rfl,h2,r2⟩:=trodAll_cons r1
 obtain ⟨rfl,rfl,rfl⟩:=trodAll_nil r2
 obtain rfl : args = #[v0,v1,v2]:=by cases args; simp_all
 have hv:=RZ hL
 obtain ⟨rfl,rfl⟩:=DataW.TrodVars.unique hV (S3 (enc:=enc) hv _)
 obtain ⟨cs0,rfl,_⟩:=okWide_struct Tryz.underlying24 (hval 0 24 v0 rfl rfl)
 obtain ⟨a0,s0,k0⟩:=T4 kQ h0
 obtain ⟨cs1,rfl,_⟩:=okWide_struct Tryz.underlying28 (hval 1 28 v1 rfl rfl)
 obtain ⟨a1,s1,k1⟩:=T4 kS h1
 obtain ⟨cs2,rfl,_⟩:=okWide_struct Tryz.underlying31 (hval 2 31 v2 rfl rfl)
 obtain ⟨a2,s2,k2⟩:=T4 kU h2
 simp only [List.append_nil] at hW' hA0
 refine (U1 (HW (KS k0 k1 k2)) (ZD hv) ⟨_,_,rfl,s0,⟨_,_,rfl,s1,⟨_,_,rfl,s2,rfl⟩⟩⟩).mono fun e W' ⟨he,hb⟩ => ?_
 subst he
 exact ⟨_,rfl,U2 laidOut readable rfl rfl Tryz.underlying4 hW' hA0 hv rfl hb⟩
theorem fJ {a b : Bool} (h1 : a = true) (h2 : b = true) : (a && b) = true:=by rw [h1,h2]; rfl
theorem joined : joinedFacts Tryz.pinned.checked.prog 3 Tryz.f3 Rows.fnExactIsCertificateForSpec Rows.fnExactIsCertificateForRow = true:=by
 unfold joinedFacts
 iterate 31 (refine fJ ?_ ?_)
 ·kernel_rfl
 ·kernel_rfl
 ·kernel_rfl
 ·kernel_rfl
 ·kernel_rfl
 ·kernel_rfl
 ·kernel_rfl
 ·kernel_rfl
 ·kernel_rfl
 ·kernel_rfl
 ·kernel_rfl
 ·kernel_rfl
 ·kernel_rfl
 ·kernel_rfl
 ·kernel_rfl
 ·kernel_rfl
 ·kernel_rfl
 ·kernel_rfl
 ·kernel_rfl
 ·kernel_rfl
 ·kernel_rfl
 ·kernel_rfl
 ·kernel_rfl
 ·kernel_rfl
 ·kernel_rfl
 ·kernel_rfl
 ·kernel_rfl
 ·kernel_rfl
 ·kernel_rfl
 ·kernel_rfl
 ·kernel_rfl
 ·kernel_rfl
theorem over : Rows.fnExactIsCertificateForRow.holds Tryz.pinned (OpenSpec.ofChange Rows.fnExactIsCertificateForSpec) :=
 OpenClaim.holds_of_wide 3 Tryz.f3 rfl rfl rfl rfl rfl rfl rfl ⟨rfl,rfl,rfl,rfl,rfl⟩ rfl rfl rfl rfl rfl (by kernel_rfl) Tryz.func3 joined
  (of_decide_eq_true (by kernel_rfl)) (by unfold Func.isWrapper; first | (rw [if_pos (by decide +kernel)]; kernel_rfl) | (rw [if_neg (by decide +kernel)]; exact ⟨rfl,rfl⟩))
  (fun os started H enc _ => lifted os started H enc)
theorem proved : Rows.FnExactIsCertificateForCardSaid :=
 Claim7.holds_tied_plain_at .later [] [.data] true (true, "1f955cc47786bf97de229e97ee737e43876b196f9efd44a36b875fef9d1ffe93") false
  over (fun _ h => by cases h) (by kernel_rfl) (fun _ h => by cases h) fnExactIsCertificateFor_row_tie rfl ⟨rfl,rfl⟩ (by kernel_rfl) rfl
  (fun f fn hf hfn => by
   obtain rfl : f = 3:=Option.some.inj ((show Tryz.prog.funcNamed Rows.fnExactIsCertificateForRow.func = some 3 by kernel_rfl).symm.trans hf) |>.symm
   obtain rfl : fn = Tryz.f3:=(Option.some.inj (Tryz.func3.symm.trans hfn)).symm
   refine ⟨by kernel_rfl,fun j t ht => ?_⟩
   rw [Tryz.params3] at ht
   have hall : ([24,28,31].all fun t => !Tryz.prog.wantsStandIn t) = true:=by kernel_rfl
   have hm : t ∈ [24,28,31]:=by simpa using Array.mem_of_getElem? ht
   have h9 : Tryz.prog.wantsStandIn t = false:=by simpa using List.all_eq_true.1 hall t hm
   exact h9)
  (by kernel_rfl)
#print axioms proved
end Go.Proofs.YtkclaipnejgloaaGreatDoor.iscf
