/- What is proved: the law FnCertificates returns true for all arguments. There are no conditions.
 The text was written by program (genlaw.py). -/
import Derived.Test.YtpnoalhfjnjeaaaGreatDoorRows
import Derived.Test.YtpnoalhfjnjeaaaGreatDoorGvFC1
import Derived.Test.YtpnoalhfjnjeaaaGreatDoorCards
import Derived.Test.YtpnoalhfjnjeaaaGreatDoorTie
import Derived.SevenTiedAt
import Derived.Test.YtpnoalhfjnjeaaaGreatDoorCqFC1
import Derived.Test.YtpnoalhfjnjeaaaGreatDoorKc
import Derived.ProofKit
open Go.RowKit
set_option linter.all false
namespace Go.Proofs.YtpnoalhfjnjeaaaGreatDoor.certs
open Go.ChangeShapes Go.WideShapes Go.ChangeAt Go.RowKit
theorem own:ownKnob Tryz.prog.godebug=none:=by kernel_rfl
theorem laidOut:laidOutB Tryz.prog=true:=by kernel_rfl
theorem readable:Tryz.f3.params.toList.all (λt=>Tryz.prog.readableRec t&&decide (t < Tryz.prog.types.size))=true:=by kernel_rfl
set_option maxRecDepth 100000 in
theorem lifted(os:Os)(started:os.Started)(H:Type)(enc:TypeId×Value->H):
  ReturnsInHanded {} Tryz.checked os 3 .any (λw args=>(Rows.fnCertificatesSpec.pre enc Tryz.prog Tryz.f3 Rows.fnCertificatesRow.domain false w args∧laidMetH Tryz.prog Rows.fnCertificatesRow.laid w)∧sizedMet enc Tryz.prog Tryz.f3 (OpenSpec.ofChange Rows.fnCertificatesSpec) false w args) (Rows.fnCertificatesSpec.post enc Tryz.prog Tryz.f3 false true false false):=by
 refine returnsInHanded_of_change_and (C:=Tryz.checked) (X:=λw _=>laidMetH Tryz.prog Rows.fnCertificatesRow.laid w) (λ_ _ _ hh h=>h.of_heap hh) own started (by kernel_rfl) Tryz.func3
  (ChangeSpec.witness_at (enc:=enc) (C:=Tryz.checked) (os:=os) (X:=λw _=>laidMetH Tryz.prog Rows.fnCertificatesRow.laid w) false (laidWorld os) #[.slice none 0 0] 8 rfl (by kernel_rfl) (by kernel_rfl) (by kernel_rfl) (by kernel_rfl) (by kernel_rfl) (laidWorld_met os _)) ?_
 intro W base args ds gs before hval0 hW hcnd _ hL _
 have hval:∀(j:Nat) t v,Tryz.f3.params[j]? =some t->args[j]? =some v->Value.okWide Tryz.prog W .any base t v:=hval0
 have hW':=hW
 obtain⟨p,q,hA0,hV,rfl,hfz,hnd⟩:=hW
 have hA:DataW.TrodAll enc Tryz.prog W 0 (λ_=>true) true Tryz.f3.params.toList args.toList ds p:=hA0
 rw[Tryz.params3]at hA hval
 obtain⟨v0,vs0,d0,ds0,p0,q0,hargs,rfl,rfl,h0,r0⟩:=trodAll_cons hA
 obtain⟨rfl,rfl,rfl⟩:=trodAll_nil r0
 obtain rfl:args= #[v0]:=by cases args;simp_all
 have hv:=lS hL
 obtain⟨rfl,rfl⟩:=DataW.TrodVars.unique hV (lT (enc:=enc) hv _)
 obtain⟨x0,l0,c0,rfl⟩:=okWide_slice Tryz.underlying22 (hval 0 22 v0 rfl rfl)
 obtain⟨a0,s0,k0⟩:=wJ (g:=λ(x:zI)=>dL G1 x) Ai5 (λ_=>rfl) (λ_=>rfl) rfl h0
 simp only[AN]at hW' hA0
 refine(rr (WS (YO k0)) (yb hv) ⟨_,_,rfl,s0,rfl⟩).mono λe W' ⟨he,hb⟩=>?_
 subst he
 exact⟨_,rfl,ru laidOut readable rfl rfl Tryz.underlying4 hW' hA0 hv rfl hb⟩
theorem Ae8{a b:Bool}(h1:a=true)(h2:b=true):(a&&b)=true:=by rw[h1,h2];rfl
theorem joined:joinedFacts Tryz.pinned.checked.prog 3 Tryz.f3 Rows.fnCertificatesSpec Rows.fnCertificatesRow=true:=by
 unfold joinedFacts
 iterate 31 (refine Ae8 ?_ ?_)
 ·kernel_rfl
 ·kernel_rfl
 ·kernel_rfl
 ·kernel_rfl
 ·kernel_rfl
 ·kernel_rfl
 ·kernel_rfl
 ·kernel_rfl
 ·kernel_rfl
 ·kernel_rfl
 ·kernel_rfl
 ·kernel_rfl
 ·kernel_rfl
 ·kernel_rfl
 ·kernel_rfl
 ·kernel_rfl
 ·kernel_rfl
 ·kernel_rfl
 ·kernel_rfl
 ·kernel_rfl
 ·kernel_rfl
 ·kernel_rfl
 ·kernel_rfl
 ·kernel_rfl
 ·kernel_rfl
 ·kernel_rfl
 ·kernel_rfl
 ·kernel_rfl
 ·kernel_rfl
 ·kernel_rfl
 ·kernel_rfl
 ·kernel_rfl
theorem over:Rows.fnCertificatesRow.holds Tryz.pinned (OpenSpec.ofChange Rows.fnCertificatesSpec):=
 OpenClaim.holds_of_wide 3 Tryz.f3 rfl rfl rfl rfl rfl rfl rfl ⟨rfl,rfl,rfl,rfl,rfl⟩ rfl rfl rfl rfl rfl (by kernel_rfl) Tryz.func3 joined
  (GW (by kernel_rfl)) (by unfold Func.isWrapper;first|(rw[At (by decide+kernel)];kernel_rfl)|(rw[As (by decide+kernel)];exact⟨rfl,rfl⟩))
  (λos started H enc _=>lifted os started H enc)
theorem proved:Rows.FnCertificatesCardSaid:=
 Claim7.holds_tied_plain_at .later [] [.data] true (true, "023681f3e0a434e6cb29f59820745bfb92164894aa4d70a3a140fbfde1acf3a7") false
  over (λ_ h=>by cases h) (by kernel_rfl) (λ_ h=>by cases h) fnCertificates_row_tie rfl ⟨rfl,rfl⟩ (by kernel_rfl) rfl
  (λf fn hf hfn=>by
   obtain rfl:f=3:=Ed ((show Tryz.prog.funcNamed Rows.fnCertificatesRow.func=some 3 by kernel_rfl).symm.trans hf)|>.symm
   obtain rfl:fn=Tryz.f3:=(Ed (Tryz.func3.symm.trans hfn)).symm
   refine⟨by kernel_rfl,λj t ht=>?_⟩
   rw[Tryz.params3]at ht
   have hall:([22].all λt=> !Tryz.prog.wantsStandIn t)=true:=by kernel_rfl
   have hm:t∈[22]:=by simpa using Array.mem_of_getElem? ht
   have h9:Tryz.prog.wantsStandIn t=false:=by simpa using List.all_eq_true.1 hall t hm
   exact h9)
  (by kernel_rfl)
#print axioms proved
end Go.Proofs.YtpnoalhfjnjeaaaGreatDoor.certs
