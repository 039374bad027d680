/-
 What is proved: the law FnTightInstance returns true for all arguments. There are no conditions.
 The text was written by program (genlaw.py).
-/
import Derived.Test.YthghcmmlmfgkbaaGreatDoorRows
import Derived.Test.YthghcmmlmfgkbaaGreatDoorGvTI1
import Derived.Test.YthghcmmlmfgkbaaGreatDoorCards
import Derived.Test.YthghcmmlmfgkbaaGreatDoorTie
import Derived.SevenTiedAt
import Derived.Test.YthghcmmlmfgkbaaGreatDoorUiTI1
import Derived.Test.YthghcmmlmfgkbaaGreatDoorKc
import Derived.ProofKit
open Go.RowKit
set_option linter.unusedVariables false
set_option linter.unusedSimpArgs false
namespace Go.Proofs.YthghcmmlmfgkbaaGreatDoor.tighti
open Go.ChangeShapes Go.WideShapes Go.ChangeAt Go.RowKit
theorem own:ownKnob Tryz.prog.godebug=none:=by kernel_rfl
theorem laidOut:laidOutB Tryz.prog=true:=by kernel_rfl
theorem readable:Tryz.f3.params.toList.all (λt=>Tryz.prog.readableRec t&&decide (t < Tryz.prog.types.size))=true:=by kernel_rfl
set_option maxRecDepth 100000 in
theorem lifted(os:Os)(started:os.Started)(H:Type)(enc:TypeId×Value->H):
  ReturnsInHanded {} Tryz.checked os 3 .any (λw args=>(Rows.fnTightInstanceSpec.pre enc Tryz.prog Tryz.f3 Rows.fnTightInstanceRow.domain false w args∧laidMetH Tryz.prog Rows.fnTightInstanceRow.laid w)∧sizedMet enc Tryz.prog Tryz.f3 (OpenSpec.ofChange Rows.fnTightInstanceSpec) false w args) (Rows.fnTightInstanceSpec.post enc Tryz.prog Tryz.f3 false true false false):=by
 refine returnsInHanded_of_change_and (C:=Tryz.checked) (X:=λw _=>laidMetH Tryz.prog Rows.fnTightInstanceRow.laid w) (λ_ _ _ hh h=>h.of_heap hh) own started (by kernel_rfl) Tryz.func3
  (ChangeSpec.witness_at (enc:=enc) (C:=Tryz.checked) (os:=os) (X:=λw _=>laidMetH Tryz.prog Rows.fnTightInstanceRow.laid w) false (laidWorld os) #[.slice none 0 0] 8 rfl (by kernel_rfl) (by kernel_rfl) (by kernel_rfl) (by kernel_rfl) (by kernel_rfl) (laidWorld_met os _)) ?_
 intro W base args ds gs before hval0 hW hcnd _ hL _
 have hval:∀(j:Nat) t v,Tryz.f3.params[j]? =some t->args[j]? =some v->Value.okWide Tryz.prog W .any base t v:=hval0
 have hW':=hW
 obtain⟨p,q,hA0,hV,rfl,hfz,hnd⟩:=hW
 have hA:DataW.TrodAll enc Tryz.prog W 0 (λ_=>true) true Tryz.f3.params.toList args.toList ds p:=hA0
 rw[Tryz.params3]at hA hval
 obtain⟨v0,vs0,d0,ds0,p0,q0,hargs,rfl,rfl,h0,r0⟩:=trodAll_cons hA
 obtain⟨rfl,rfl,rfl⟩:=trodAll_nil r0
 obtain rfl:args= #[v0]:=by cases args;simp_all
 have hv:=ca hL
 obtain⟨rfl,rfl⟩:=DataW.TrodVars.unique hV (cb (enc:=enc) hv _)
 obtain⟨x0,l0,c0,rfl⟩:=okWide_slice Tryz.underlying22 (hval 0 22 v0 rfl rfl)
 obtain⟨a0,s0,k0⟩:=n9 (g:=λ(x:zI)=>dL Qm x) AaV (λ_=>rfl) (λ_=>rfl) rfl h0
 simp only[AY]at hW' hA0
 refine(jh (QZ (S3 k0)) (p7 hv) ⟨_,_,rfl,s0,rfl⟩).mono λe W' ⟨he,hb⟩=>?_
 subst he
 exact⟨_,rfl,ji laidOut readable rfl rfl Tryz.underlying4 hW' hA0 hv rfl hb⟩
theorem wy{a b:Bool}(h1:a=true)(h2:b=true):(a&&b)=true:=by rw[h1,h2];rfl
theorem joined:joinedFacts Tryz.pinned.checked.prog 3 Tryz.f3 Rows.fnTightInstanceSpec Rows.fnTightInstanceRow=true:=by
 unfold joinedFacts
 iterate 31 (refine wy ?_ ?_)
 ·kernel_rfl
 ·kernel_rfl
 ·kernel_rfl
 ·kernel_rfl
 ·kernel_rfl
 ·kernel_rfl
 ·kernel_rfl
 ·kernel_rfl
 ·kernel_rfl
 ·kernel_rfl
 ·kernel_rfl
 ·kernel_rfl
 ·kernel_rfl
 ·kernel_rfl
 ·kernel_rfl
 ·kernel_rfl
 ·kernel_rfl
 ·kernel_rfl
 ·kernel_rfl
 ·kernel_rfl
 ·kernel_rfl
 ·kernel_rfl
 ·kernel_rfl
 ·kernel_rfl
 ·kernel_rfl
 ·kernel_rfl
 ·kernel_rfl
 ·kernel_rfl
 ·kernel_rfl
 ·kernel_rfl
 ·kernel_rfl
 ·kernel_rfl
theorem over:Rows.fnTightInstanceRow.holds Tryz.pinned (OpenSpec.ofChange Rows.fnTightInstanceSpec):=
 OpenClaim.holds_of_wide 3 Tryz.f3 rfl rfl rfl rfl rfl rfl rfl ⟨rfl,rfl,rfl,rfl,rfl⟩ rfl rfl rfl rfl rfl (by kernel_rfl) Tryz.func3 joined
  (Dj (by kernel_rfl)) (by unfold Func.isWrapper;first|(rw[Av (by decide+kernel)];kernel_rfl)|(rw[At (by decide+kernel)];exact⟨rfl,rfl⟩))
  (λos started H enc _=>lifted os started H enc)
theorem proved:Rows.FnTightInstanceCardSaid:=
 Claim7.holds_tied_plain_at .later [] [.data] true (true, "38bcec462b16b2560fa99ce469759fc9e3562bbf17e318361d6482e6972be86d") false
  over (λ_ h=>by cases h) (by kernel_rfl) (λ_ h=>by cases h) fnTightInstance_row_tie rfl ⟨rfl,rfl⟩ (by kernel_rfl) rfl
  (λf fn hf hfn=>by
   obtain rfl:f=3:=DG ((show Tryz.prog.funcNamed Rows.fnTightInstanceRow.func=some 3 by kernel_rfl).symm.trans hf)|>.symm
   obtain rfl:fn=Tryz.f3:=(DG (Tryz.func3.symm.trans hfn)).symm
   refine⟨by kernel_rfl,λj t ht=>?_⟩
   rw[Tryz.params3]at ht
   have hall:([22].all λt=> !Tryz.prog.wantsStandIn t)=true:=by kernel_rfl
   have hm:t∈[22]:=by simpa using Array.mem_of_getElem? ht
   have h9:Tryz.prog.wantsStandIn t=false:=by simpa using List.all_eq_true.1 hall t hm
   exact h9)
  (by kernel_rfl)
#print axioms proved
end Go.Proofs.YthghcmmlmfgkbaaGreatDoor.tighti
