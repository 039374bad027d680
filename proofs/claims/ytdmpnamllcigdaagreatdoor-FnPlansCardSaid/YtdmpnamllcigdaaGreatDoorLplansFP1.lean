/- What is proved: the law FnPlans returns true for all arguments. There are no conditions.
 The text was written by program (genlaw.py). -/
import Derived.Test.YtdmpnamllcigdaaGreatDoorRows
import Derived.Test.YtdmpnamllcigdaaGreatDoorGvFP1
import Derived.Test.YtdmpnamllcigdaaGreatDoorCards
import Derived.Test.YtdmpnamllcigdaaGreatDoorTie
import Derived.SevenTiedAt
import Derived.Test.YtdmpnamllcigdaaGreatDoorYiFP1
import Derived.Test.YtdmpnamllcigdaaGreatDoorKc
import Derived.ProofKit
open Go.RowKit
set_option linter.all false
namespace Go.Proofs.YtdmpnamllcigdaaGreatDoor.plans
open Go.ChangeShapes Go.WideShapes Go.ChangeAt Go.RowKit
theorem own:ownKnob Tryz.prog.godebug=none:=kh
theorem laidOut:laidOutB Tryz.prog=true:=kh
theorem readable:Tryz.f3.params.toList.all (λt=>Tryz.prog.readableRec t&&decide (t < Tryz.prog.types.size))=true:=kh
set_option maxRecDepth 100000 in
theorem lifted(os:Os)(started:os.Started)(H:Type)(enc:TypeId×Value->H):
  ReturnsInHanded {} Tryz.checked os 3 .any (λw args=>(Rows.fnPlansSpec.pre enc Tryz.prog Tryz.f3 Rows.fnPlansRow.domain false w args∧laidMetH Tryz.prog Rows.fnPlansRow.laid w)∧sizedMet enc Tryz.prog Tryz.f3 (OpenSpec.ofChange Rows.fnPlansSpec) false w args) (Rows.fnPlansSpec.post enc Tryz.prog Tryz.f3 false true false false):=by
 refine returnsInHanded_of_change_and (C:=Tryz.checked) (X:=λw _=>laidMetH Tryz.prog Rows.fnPlansRow.laid w) (λ_ _ _ hh h=>h.of_heap hh) own started kh Tryz.func3
  (ChangeSpec.witness_at (enc:=enc) (C:=Tryz.checked) (os:=os) (X:=λw _=>laidMetH Tryz.prog Rows.fnPlansRow.laid w) false (laidWorld os) #[.slice none 0 0] 8 rfl kh kh kh kh kh (laidWorld_met os _)) ?_
 intro W base args ds gs before hval0 hW hcnd _ hL _
 have hval:∀(j:Nat) t v,Tryz.f3.params[j]? =some t->args[j]? =some v->Value.okWide Tryz.prog W .any base t v:=hval0
 have hW':=hW
 obtain⟨p,q,hA0,hV,rfl,hfz,hnd⟩:=hW
 have hA:DataW.TrodAll enc Tryz.prog W 0 (λ_=>true) true Tryz.f3.params.toList args.toList ds p:=hA0
 rw[Tryz.params3]at hA hval
 obtain⟨v0,vs0,d0,ds0,p0,q0,hargs,rfl,rfl,h0,r0⟩:=trodAll_cons hA
 obtain⟨rfl,rfl,rfl⟩:=trodAll_nil r0
 obtain rfl:args= #[v0]:=by cases args;simp_all
 have hv:=nw hL
 obtain⟨rfl,rfl⟩:=DataW.TrodVars.unique hV (nx (enc:=enc) hv _)
 obtain⟨x0,l0,c0,rfl⟩:=okWide_slice Tryz.underlying22 (hval 0 22 v0 rfl rfl)
 obtain⟨a0,s0,k0⟩:=zZ (g:=λ(x:zI)=>dL Lo x) AnK (λ_=>rfl) (λ_=>rfl) rfl h0
 simp only[A7]at hW' hA0
 refine(ue (fO.s (ne k0)) (AbA hv) ⟨_,_,rfl,s0,rfl⟩).mono λe W' ⟨he,hb⟩=>?_
 subst he
 exact⟨_,rfl,uf laidOut readable rfl rfl Tryz.underlying4 hW' hA0 hv rfl hb⟩
theorem Ajz{a b:Bool}(h1:a=true)(h2:b=true):(a&&b)=true:=by rw[h1,h2];rfl
theorem joined:joinedFacts Tryz.pinned.checked.prog 3 Tryz.f3 Rows.fnPlansSpec Rows.fnPlansRow=true:=by
 unfold joinedFacts
 iterate 31 (refine Ajz ?_ ?_)
 ·kernel_rfl
 ·kernel_rfl
 ·kernel_rfl
 ·kernel_rfl
 ·kernel_rfl
 ·kernel_rfl
 ·kernel_rfl
 ·kernel_rfl
 ·kernel_rfl
 ·kernel_rfl
 ·kernel_rfl
 ·kernel_rfl
 ·kernel_rfl
 ·kernel_rfl
 ·kernel_rfl
 ·kernel_rfl
 ·kernel_rfl
 ·kernel_rfl
 ·kernel_rfl
 ·kernel_rfl
 ·kernel_rfl
 ·kernel_rfl
 ·kernel_rfl
 ·kernel_rfl
 ·kernel_rfl
 ·kernel_rfl
 ·kernel_rfl
 ·kernel_rfl
 ·kernel_rfl
 ·kernel_rfl
 ·kernel_rfl
 ·kernel_rfl
theorem over:Rows.fnPlansRow.holds Tryz.pinned (OpenSpec.ofChange Rows.fnPlansSpec):=
 OpenClaim.holds_of_wide 3 Tryz.f3 rfl rfl rfl rfl rfl rfl rfl ⟨rfl,rfl,rfl,rfl,rfl⟩ rfl rfl rfl rfl rfl kh Tryz.func3 joined
  (Gx kh) (by unfold Func.isWrapper;first|(rw[Az (by decide+kernel)];kernel_rfl)|(rw[AA (by decide+kernel)];exact⟨rfl,rfl⟩))
  (λos started H enc _=>lifted os started H enc)
theorem proved:Rows.FnPlansCardSaid:=
 Claim7.holds_tied_plain_at .later [] [.data] true (true, "27fcdeb840ae08ad71ad6a44ccfeee68e4ea69506050454dcfe57b3eeb9df47f") false
  over (λ_ h=>by cases h) kh (λ_ h=>by cases h) fnPlans_row_tie rfl ⟨rfl,rfl⟩ kh rfl
  (λf fn hf hfn=>by
   obtain rfl:f=3:=EH ((show Tryz.prog.funcNamed Rows.fnPlansRow.func=some 3 by kernel_rfl).symm.trans hf)|>.symm
   obtain rfl:fn=Tryz.f3:=(EH (Tryz.func3.symm.trans hfn)).symm
   refine⟨kh,λj t ht=>?_⟩
   rw[Tryz.params3]at ht
   have hall:([22].all λt=> !Tryz.prog.wantsStandIn t)=true:=kh
   have hm:t∈[22]:=by simpa using Array.mem_of_getElem? ht
   have h9:Tryz.prog.wantsStandIn t=false:=by simpa using List.all_eq_true.1 hall t hm
   exact h9)
  kh
#print axioms proved
end Go.Proofs.YtdmpnamllcigdaaGreatDoor.plans
