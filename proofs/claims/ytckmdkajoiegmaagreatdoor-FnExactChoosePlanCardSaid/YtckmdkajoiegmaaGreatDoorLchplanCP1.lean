/-
 What is proved: the law FnExactChoosePlan returns true for all arguments. There are no conditions.
 The text was written by program (genlaw.py).
-/
import Derived.Test.YtckmdkajoiegmaaGreatDoorRows
import Derived.Test.YtckmdkajoiegmaaGreatDoorGvCP1
import Derived.Test.YtckmdkajoiegmaaGreatDoorCards
import Derived.Test.YtckmdkajoiegmaaGreatDoorTie
import Derived.SevenTiedAt
import Derived.Test.YtckmdkajoiegmaaGreatDoorPchplanCP1
import Derived.Test.YtckmdkajoiegmaaGreatDoorKc
import Derived.ProofKit
open Go.RowKit
set_option linter.unusedVariables false
set_option linter.unusedSimpArgs false
namespace Go.Proofs.YtckmdkajoiegmaaGreatDoor.chplan
open Go.ChangeShapes Go.WideShapes Go.ChangeAt Go.RowKit
theorem own:ownKnob Tryz.prog.godebug=none:=by kernel_rfl
theorem laidOut:laidOutB Tryz.prog=true:=by kernel_rfl
theorem readable:Tryz.f3.params.toList.all (λt=>Tryz.prog.readableRec t&&decide (t < Tryz.prog.types.size))=true:=by kernel_rfl
set_option maxRecDepth 100000 in
theorem lifted(os:Os)(started:os.Started)(H:Type)(enc:TypeId×Value->H):
  ReturnsInHanded {} Tryz.checked os 3 .any (λw args=>(Rows.fnExactChoosePlanSpec.pre enc Tryz.prog Tryz.f3 Rows.fnExactChoosePlanRow.domain false w args∧laidMetH Tryz.prog Rows.fnExactChoosePlanRow.laid w)∧sizedMet enc Tryz.prog Tryz.f3 (OpenSpec.ofChange Rows.fnExactChoosePlanSpec) false w args) (Rows.fnExactChoosePlanSpec.post enc Tryz.prog Tryz.f3 false true false false):=by
 refine returnsInHanded_of_change_and (C:=Tryz.checked) (X:=λw _=>laidMetH Tryz.prog Rows.fnExactChoosePlanRow.laid w) (λ_ _ _ hh h=>h.of_heap hh) own started (by kernel_rfl) Tryz.func3
  (ChangeSpec.witness_at (enc:=enc) (C:=Tryz.checked) (os:=os) (X:=λw _=>laidMetH Tryz.prog Rows.fnExactChoosePlanRow.laid w) false (laidWorld os) #[.agg #[.int .i64 0,.slice none 0 0,.slice none 0 0],.slice none 0 0] 8 rfl (by kernel_rfl) (by kernel_rfl) (by kernel_rfl) (by kernel_rfl) (by kernel_rfl) (laidWorld_met os _)) ?_
 intro W base args ds gs before hval0 hW hcnd _ hL _
 have hval:∀(j:Nat) t v,Tryz.f3.params[j]? =some t->args[j]? =some v->Value.okWide Tryz.prog W .any base t v:=hval0
 have hW':=hW
 obtain⟨p,q,hA0,hV,rfl,hfz,hnd⟩:=hW
 have hA:DataW.TrodAll enc Tryz.prog W 0 (λ_=>true) true Tryz.f3.params.toList args.toList ds p:=hA0
 rw[Tryz.params3]at hA hval
 obtain⟨v0,vs0,d0,ds0,p0,q0,hargs,rfl,rfl,h0,r0⟩:=trodAll_cons hA
 obtain⟨v1,vs1,d1,ds1,p1,q1,rfl,rfl,rfl,h1,r1⟩:=trodAll_cons r0
 obtain⟨rfl,rfl,rfl⟩:=trodAll_nil r1
 obtain rfl:args= #[v0,v1]:=by cases args;simp_all
 have hv:=ci hL
 obtain⟨rfl,rfl⟩:=DataW.TrodVars.unique hV (cj (enc:=enc) hv _)
 obtain⟨cs0,rfl,_⟩:=okWide_struct Tryz.underlying25 (hval 0 25 v0 rfl rfl)
 obtain⟨a0,s0,k0⟩:=qL zd h0
 obtain⟨x1,l1,c1,rfl⟩:=okWide_slice Tryz.underlying23 (hval 1 23 v1 rfl rfl)
 obtain⟨a1,s1,k1⟩:=mE (g:=λ(x:List Int)=>dL Am x) ul (λ_=>rfl) (λ_=>rfl) rfl h1
 simp only[Bm]at hW' hA0
 refine(gJ (PY (Xq k0 k1)) (nZ hv) ⟨_,_,rfl,ol (zw _) s0,⟨_,_,rfl,oo (pe ZN _) s1,rfl⟩⟩).mono λe W' ⟨he,hb⟩=>?_
 subst he
 exact⟨_,rfl,gK laidOut readable rfl rfl Tryz.underlying4 hW' hA0 hv rfl hb⟩
theorem vz{a b:Bool}(h1:a=true)(h2:b=true):(a&&b)=true:=by rw[h1,h2];rfl
theorem joined:joinedFacts Tryz.pinned.checked.prog 3 Tryz.f3 Rows.fnExactChoosePlanSpec Rows.fnExactChoosePlanRow=true:=by
 unfold joinedFacts
 iterate 31 (refine vz ?_ ?_)
 ·kernel_rfl
 ·kernel_rfl
 ·kernel_rfl
 ·kernel_rfl
 ·kernel_rfl
 ·kernel_rfl
 ·kernel_rfl
 ·kernel_rfl
 ·kernel_rfl
 ·kernel_rfl
 ·kernel_rfl
 ·kernel_rfl
 ·kernel_rfl
 ·kernel_rfl
 ·kernel_rfl
 ·kernel_rfl
 ·kernel_rfl
 ·kernel_rfl
 ·kernel_rfl
 ·kernel_rfl
 ·kernel_rfl
 ·kernel_rfl
 ·kernel_rfl
 ·kernel_rfl
 ·kernel_rfl
 ·kernel_rfl
 ·kernel_rfl
 ·kernel_rfl
 ·kernel_rfl
 ·kernel_rfl
 ·kernel_rfl
 ·kernel_rfl
theorem over:Rows.fnExactChoosePlanRow.holds Tryz.pinned (OpenSpec.ofChange Rows.fnExactChoosePlanSpec):=
 OpenClaim.holds_of_wide 3 Tryz.f3 rfl rfl rfl rfl rfl rfl rfl ⟨rfl,rfl,rfl,rfl,rfl⟩ rfl rfl rfl rfl rfl (by kernel_rfl) Tryz.func3 joined
  (Lk (by kernel_rfl)) (by unfold Func.isWrapper;first|(rw[AJ (by decide+kernel)];kernel_rfl)|(rw[AN (by decide+kernel)];exact⟨rfl,rfl⟩))
  (λos started H enc _=>lifted os started H enc)
theorem proved:Rows.FnExactChoosePlanCardSaid:=
 Claim7.holds_tied_plain_at .later [] [.data] true (true, "f03f0d3c9b89bf85df30bf8d93f573aa0aa558fa5899e456fc5fac8ed9f820d3") false
  over (λ_ h=>by cases h) (by kernel_rfl) (λ_ h=>by cases h) fnExactChoosePlan_row_tie rfl ⟨rfl,rfl⟩ (by kernel_rfl) rfl
  (λf fn hf hfn=>by
   obtain rfl:f=3:=DZ ((show Tryz.prog.funcNamed Rows.fnExactChoosePlanRow.func=some 3 by kernel_rfl).symm.trans hf)|>.symm
   obtain rfl:fn=Tryz.f3:=(DZ (Tryz.func3.symm.trans hfn)).symm
   refine⟨by kernel_rfl,λj t ht=>?_⟩
   rw[Tryz.params3]at ht
   have hall:([25,23].all λt=> !Tryz.prog.wantsStandIn t)=true:=by kernel_rfl
   have hm:t∈[25,23]:=by simpa using Array.mem_of_getElem? ht
   have h9:Tryz.prog.wantsStandIn t=false:=by simpa using List.all_eq_true.1 hall t hm
   exact h9)
  (by kernel_rfl)
#print axioms proved
end Go.Proofs.YtckmdkajoiegmaaGreatDoor.chplan
