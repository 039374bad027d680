/-
 What is proved: the law FnExactMakeCertificate returns true for all arguments. There are no conditions.
 The text was written by program (genlaw.py).
-/
import Derived.Test.YtaagdgjndpgdgaaGreatDoorRows
import Derived.Test.YtaagdgjndpgdgaaGreatDoorGvMC1
import Derived.Test.YtaagdgjndpgdgaaGreatDoorCards
import Derived.Test.YtaagdgjndpgdgaaGreatDoorTie
import Derived.SevenTiedAt
import Derived.Test.YtaagdgjndpgdgaaGreatDoorPmkcertMC1
import Derived.Test.YtaagdgjndpgdgaaGreatDoorKc
import Derived.ProofKit
open Go.RowKit
set_option linter.unusedVariables false
set_option linter.unusedSimpArgs false
namespace Go.Proofs.YtaagdgjndpgdgaaGreatDoor.mkcert
open Go.ChangeShapes Go.WideShapes Go.ChangeAt Go.RowKit
theorem own:ownKnob Tryz.prog.godebug=none:=by kernel_rfl
theorem laidOut:laidOutB Tryz.prog=true:=by kernel_rfl
theorem readable:Tryz.f4.params.toList.all (λt=>Tryz.prog.readableRec t&&decide (t < Tryz.prog.types.size))=true:=by kernel_rfl
set_option maxRecDepth 100000 in
theorem lifted(os:Os)(started:os.Started)(H:Type)(enc:TypeId×Value->H):
  ReturnsInHanded {} Tryz.checked os 4 .any (λw args=>(Rows.fnExactMakeCertificateSpec.pre enc Tryz.prog Tryz.f4 Rows.fnExactMakeCertificateRow.domain false w args∧laidMetH Tryz.prog Rows.fnExactMakeCertificateRow.laid w)∧sizedMet enc Tryz.prog Tryz.f4 (OpenSpec.ofChange Rows.fnExactMakeCertificateSpec) false w args) (Rows.fnExactMakeCertificateSpec.post enc Tryz.prog Tryz.f4 false true false false):=by
 refine returnsInHanded_of_change_and (C:=Tryz.checked) (X:=λw _=>laidMetH Tryz.prog Rows.fnExactMakeCertificateRow.laid w) (λ_ _ _ hh h=>h.of_heap hh) own started (by kernel_rfl) Tryz.func4
  (ChangeSpec.witness_at (enc:=enc) (C:=Tryz.checked) (os:=os) (X:=λw _=>laidMetH Tryz.prog Rows.fnExactMakeCertificateRow.laid w) false (laidWorld os) #[.agg #[.slice none 0 0],.agg #[.int .i64 0,.slice none 0 0,.slice none 0 0],.slice none 0 0] 8 rfl (by kernel_rfl) (by kernel_rfl) (by kernel_rfl) (by kernel_rfl) (by kernel_rfl) (laidWorld_met os _)) ?_
 intro W base args ds gs before hval0 hW hcnd _ hL _
 have hval:∀(j:Nat) t v,Tryz.f4.params[j]? =some t->args[j]? =some v->Value.okWide Tryz.prog W .any base t v:=hval0
 have hW':=hW
 obtain⟨p,q,hA0,hV,rfl,hfz,hnd⟩:=hW
 have hA:DataW.TrodAll enc Tryz.prog W 0 (λ_=>true) true Tryz.f4.params.toList args.toList ds p:=hA0
 rw[Tryz.params4]at hA hval
 obtain⟨v0,vs0,d0,ds0,p0,q0,hargs,rfl,rfl,h0,r0⟩:=trodAll_cons hA
 obtain⟨v1,vs1,d1,ds1,p1,q1,rfl,rfl,rfl,h1,r1⟩:=trodAll_cons r0
 obtain⟨v2,vs2,d2,ds2,p2,q2,rfl,rfl,rfl,h2,r2⟩:=trodAll_cons r1
 obtain⟨rfl,rfl,rfl⟩:=trodAll_nil r2
 obtain rfl:args= #[v0,v1,v2]:=by cases args;simp_all
 have hv:=iu hL
 obtain⟨rfl,rfl⟩:=DataW.TrodVars.unique hV (iv (enc:=enc) hv _)
 obtain⟨cs0,rfl,_⟩:=okWide_struct Tryz.underlying50 (hval 0 50 v0 rfl rfl)
 obtain⟨a0,s0,k0⟩:=nS AeF h0
 obtain⟨cs1,rfl,_⟩:=okWide_struct Tryz.underlying25 (hval 1 25 v1 rfl rfl)
 obtain⟨a1,s1,k1⟩:=nS AeC h1
 obtain⟨x2,l2,c2,rfl⟩:=okWide_slice Tryz.underlying23 (hval 2 23 v2 rfl rfl)
 obtain⟨a2,s2,k2⟩:=sx (g:=λ(x:List Int)=>dL Am x) ul (λ_=>rfl) (λ_=>rfl) rfl h2
 simp only[AD]at hW' hA0
 refine(mT (Py (Vj k0 k1 k2)) (uk hv) ⟨_,_,rfl,l5 (Ae3 _) s0,⟨_,_,rfl,l5 (Ae2 _) s1,⟨_,_,rfl,uD (ku Zb _) s2,rfl⟩⟩⟩).mono λe W' ⟨he,hb⟩=>?_
 subst he
 exact⟨_,rfl,mU laidOut readable rfl rfl Tryz.underlying4 hW' hA0 hv rfl hb⟩
theorem AbF{a b:Bool}(h1:a=true)(h2:b=true):(a&&b)=true:=by rw[h1,h2];rfl
theorem joined:joinedFacts Tryz.pinned.checked.prog 4 Tryz.f4 Rows.fnExactMakeCertificateSpec Rows.fnExactMakeCertificateRow=true:=by
 unfold joinedFacts
 iterate 31 (refine AbF ?_ ?_)
 ·kernel_rfl
 ·kernel_rfl
 ·kernel_rfl
 ·kernel_rfl
 ·kernel_rfl
 ·kernel_rfl
 ·kernel_rfl
 ·kernel_rfl
 ·kernel_rfl
 ·kernel_rfl
 ·kernel_rfl
 ·kernel_rfl
 ·kernel_rfl
 ·kernel_rfl
 ·kernel_rfl
 ·kernel_rfl
 ·kernel_rfl
 ·kernel_rfl
 ·kernel_rfl
 ·kernel_rfl
 ·kernel_rfl
 ·kernel_rfl
 ·kernel_rfl
 ·kernel_rfl
 ·kernel_rfl
 ·kernel_rfl
 ·kernel_rfl
 ·kernel_rfl
 ·kernel_rfl
 ·kernel_rfl
 ·kernel_rfl
 ·kernel_rfl
theorem over:Rows.fnExactMakeCertificateRow.holds Tryz.pinned (OpenSpec.ofChange Rows.fnExactMakeCertificateSpec):=
 OpenClaim.holds_of_wide 4 Tryz.f4 rfl rfl rfl rfl rfl rfl rfl ⟨rfl,rfl,rfl,rfl,rfl⟩ rfl rfl rfl rfl rfl (by kernel_rfl) Tryz.func4 joined
  (ML (by kernel_rfl)) (by unfold Func.isWrapper;first|(rw[AH (by decide+kernel)];kernel_rfl)|(rw[AE (by decide+kernel)];exact⟨rfl,rfl⟩))
  (λos started H enc _=>lifted os started H enc)
theorem proved:Rows.FnExactMakeCertificateCardSaid:=
 Claim7.holds_tied_plain_at .later [] [.data] true (true, "f03f0d3c9b89bf85df30bf8d93f573aa0aa558fa5899e456fc5fac8ed9f820d3") false
  over (λ_ h=>by cases h) (by kernel_rfl) (λ_ h=>by cases h) fnExactMakeCertificate_row_tie rfl ⟨rfl,rfl⟩ (by kernel_rfl) rfl
  (λf fn hf hfn=>by
   obtain rfl:f=4:=Dy ((show Tryz.prog.funcNamed Rows.fnExactMakeCertificateRow.func=some 4 by kernel_rfl).symm.trans hf)|>.symm
   obtain rfl:fn=Tryz.f4:=(Dy (Tryz.func4.symm.trans hfn)).symm
   refine⟨by kernel_rfl,λj t ht=>?_⟩
   rw[Tryz.params4]at ht
   have hall:([50,25,23].all λt=> !Tryz.prog.wantsStandIn t)=true:=by kernel_rfl
   have hm:t∈[50,25,23]:=by simpa using Array.mem_of_getElem? ht
   have h9:Tryz.prog.wantsStandIn t=false:=by simpa using List.all_eq_true.1 hall t hm
   exact h9)
  (by kernel_rfl)
#print axioms proved
end Go.Proofs.YtaagdgjndpgdgaaGreatDoor.mkcert
