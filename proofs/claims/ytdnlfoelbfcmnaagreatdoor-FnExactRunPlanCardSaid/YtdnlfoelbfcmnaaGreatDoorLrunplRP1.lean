/- What is proved: the law FnExactRunPlan returns true for all arguments. There are no conditions.
 The text was written by program (genlaw.py). -/
import Derived.Test.YtdnlfoelbfcmnaaGreatDoorRows
import Derived.Test.YtdnlfoelbfcmnaaGreatDoorGvRP1
import Derived.Test.YtdnlfoelbfcmnaaGreatDoorCards
import Derived.Test.YtdnlfoelbfcmnaaGreatDoorTie
import Derived.SevenTiedAt
import Derived.Test.YtdnlfoelbfcmnaaGreatDoorPrunplRP1
import Derived.Test.YtdnlfoelbfcmnaaGreatDoorKc
import Derived.ProofKit
open Go.RowKit
set_option linter.all false
namespace Go.Proofs.YtdnlfoelbfcmnaaGreatDoor.runpl
open Go.ChangeShapes Go.WideShapes Go.ChangeAt Go.RowKit
theorem own:ownKnob Tryz.prog.godebug=none:=by kernel_rfl
theorem laidOut:laidOutB Tryz.prog=true:=by kernel_rfl
theorem readable:Tryz.f3.params.toList.all (λt=>Tryz.prog.readableRec t&&decide (t < Tryz.prog.types.size))=true:=by kernel_rfl
set_option maxRecDepth 100000 in
theorem lifted(os:Os)(started:os.Started)(H:Type)(enc:TypeId×Value->H):
  ReturnsInHanded {} Tryz.checked os 3 .any (λw args=>(Rows.fnExactRunPlanSpec.pre enc Tryz.prog Tryz.f3 Rows.fnExactRunPlanRow.domain false w args∧laidMetH Tryz.prog Rows.fnExactRunPlanRow.laid w)∧sizedMet enc Tryz.prog Tryz.f3 (OpenSpec.ofChange Rows.fnExactRunPlanSpec) false w args) (Rows.fnExactRunPlanSpec.post enc Tryz.prog Tryz.f3 false true false false):=by
 refine returnsInHanded_of_change_and (C:=Tryz.checked) (X:=λw _=>laidMetH Tryz.prog Rows.fnExactRunPlanRow.laid w) (λ_ _ _ hh h=>h.of_heap hh) own started (by kernel_rfl) Tryz.func3
  (ChangeSpec.witness_at (enc:=enc) (C:=Tryz.checked) (os:=os) (X:=λw _=>laidMetH Tryz.prog Rows.fnExactRunPlanRow.laid w) false (laidWorld os) #[.agg #[.slice none 0 0],.agg #[.int .i64 0,.slice none 0 0,.slice none 0 0],.agg #[.int .i64 0,.slice none 0 0,.slice none 0 0,.slice none 0 0,.slice none 0 0]] 8 rfl (by kernel_rfl) (by kernel_rfl) (by kernel_rfl) (by kernel_rfl) (by kernel_rfl) (laidWorld_met os _)) ?_
 intro W base args ds gs before hval0 hW hcnd _ hL _
 have hval:∀(j:Nat) t v,Tryz.f3.params[j]? =some t->args[j]? =some v->Value.okWide Tryz.prog W .any base t v:=hval0
 have hW':=hW
 obtain⟨p,q,hA0,hV,rfl,hfz,hnd⟩:=hW
 have hA:DataW.TrodAll enc Tryz.prog W 0 (λ_=>true) true Tryz.f3.params.toList args.toList ds p:=hA0
 rw[Tryz.params3]at hA hval
 obtain⟨v0,vs0,d0,ds0,p0,q0,hargs,rfl,rfl,h0,r0⟩:=trodAll_cons hA
 obtain⟨v1,vs1,d1,ds1,p1,q1,rfl,rfl,rfl,h1,r1⟩:=trodAll_cons r0
 obtain⟨v2,vs2,d2,ds2,p2,q2,rfl,rfl,rfl,h2,r2⟩:=trodAll_cons r1
 obtain⟨rfl,rfl,rfl⟩:=trodAll_nil r2
 obtain rfl:args= #[v0,v1,v2]:=by cases args;simp_all
 have hv:=mT hL
 obtain⟨rfl,rfl⟩:=DataW.TrodVars.unique hV (mU (enc:=enc) hv _)
 obtain⟨cs0,rfl,_⟩:=okWide_struct Tryz.underlying24 (hval 0 24 v0 rfl rfl)
 obtain⟨a0,s0,k0⟩:=nU AkW h0
 obtain⟨cs1,rfl,_⟩:=okWide_struct Tryz.underlying28 (hval 1 28 v1 rfl rfl)
 obtain⟨a1,s1,k1⟩:=nU AkY h1
 obtain⟨cs2,rfl,_⟩:=okWide_struct Tryz.underlying35 (hval 2 35 v2 rfl rfl)
 obtain⟨a2,s2,k2⟩:=nU Ak1 h2
 simp only[AR]at hW' hA0
 refine(sy (V2 (my k0 k1 k2)) (zD hv) ⟨_,_,rfl,kH (Alu _) s0,⟨_,_,rfl,kH (Alv _) s1,⟨_,_,rfl,kH (Aly _) s2,rfl⟩⟩⟩).mono λe W' ⟨he,hb⟩=>?_
 subst he
 exact⟨_,rfl,sB laidOut readable rfl rfl Tryz.underlying4 hW' hA0 hv rfl hb⟩
theorem Ag0{a b:Bool}(h1:a=true)(h2:b=true):(a&&b)=true:=by rw[h1,h2];rfl
theorem joined:joinedFacts Tryz.pinned.checked.prog 3 Tryz.f3 Rows.fnExactRunPlanSpec Rows.fnExactRunPlanRow=true:=by
 unfold joinedFacts
 iterate 31 (refine Ag0 ?_ ?_)
 ·kernel_rfl
 ·kernel_rfl
 ·kernel_rfl
 ·kernel_rfl
 ·kernel_rfl
 ·kernel_rfl
 ·kernel_rfl
 ·kernel_rfl
 ·kernel_rfl
 ·kernel_rfl
 ·kernel_rfl
 ·kernel_rfl
 ·kernel_rfl
 ·kernel_rfl
 ·kernel_rfl
 ·kernel_rfl
 ·kernel_rfl
 ·kernel_rfl
 ·kernel_rfl
 ·kernel_rfl
 ·kernel_rfl
 ·kernel_rfl
 ·kernel_rfl
 ·kernel_rfl
 ·kernel_rfl
 ·kernel_rfl
 ·kernel_rfl
 ·kernel_rfl
 ·kernel_rfl
 ·kernel_rfl
 ·kernel_rfl
 ·kernel_rfl
theorem over:Rows.fnExactRunPlanRow.holds Tryz.pinned (OpenSpec.ofChange Rows.fnExactRunPlanSpec):=
 OpenClaim.holds_of_wide 3 Tryz.f3 rfl rfl rfl rfl rfl rfl rfl ⟨rfl,rfl,rfl,rfl,rfl⟩ rfl rfl rfl rfl rfl (by kernel_rfl) Tryz.func3 joined
  (Oq (by kernel_rfl)) (by unfold Func.isWrapper;first|(rw[Aw (by decide+kernel)];kernel_rfl)|(rw[Ay (by decide+kernel)];exact⟨rfl,rfl⟩))
  (λos started H enc _=>lifted os started H enc)
theorem proved:Rows.FnExactRunPlanCardSaid:=
 Claim7.holds_tied_plain_at .later [] [.data] true (true, "3649ac1a8ea1bfad8339ee687356f2cb66c6e2d78a865d2d155c859834c86e12") false
  over (λ_ h=>by cases h) (by kernel_rfl) (λ_ h=>by cases h) fnExactRunPlan_row_tie rfl ⟨rfl,rfl⟩ (by kernel_rfl) rfl
  (λf fn hf hfn=>by
   obtain rfl:f=3:=Dt ((show Tryz.prog.funcNamed Rows.fnExactRunPlanRow.func=some 3 by kernel_rfl).symm.trans hf)|>.symm
   obtain rfl:fn=Tryz.f3:=(Dt (Tryz.func3.symm.trans hfn)).symm
   refine⟨by kernel_rfl,λj t ht=>?_⟩
   rw[Tryz.params3]at ht
   have hall:([24,28,35].all λt=> !Tryz.prog.wantsStandIn t)=true:=by kernel_rfl
   have hm:t∈[24,28,35]:=by simpa using Array.mem_of_getElem? ht
   have h9:Tryz.prog.wantsStandIn t=false:=by simpa using List.all_eq_true.1 hall t hm
   exact h9)
  (by kernel_rfl)
#print axioms proved
end Go.Proofs.YtdnlfoelbfcmnaaGreatDoor.runpl
