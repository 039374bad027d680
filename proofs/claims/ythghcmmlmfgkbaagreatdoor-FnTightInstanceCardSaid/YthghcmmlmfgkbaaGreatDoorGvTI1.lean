/-
 The laid variable: what it holds when a law is called, and that it reads behind the call as before. No conditions.
-/
import Derived.Test.YthghcmmlmfgkbaaGreatDoorRows
import Derived.Test.YthghcmmlmfgkbaaGreatDoorKc
import Derived.ChangeVars
import Derived.ChangeSame
import Derived.ChangeArms
import Derived.LaidLaws
import Derived.ProofKit
open Go.RowKit
set_option linter.unusedVariables false
set_option linter.unusedSimpArgs false
namespace Go.Proofs.YthghcmmlmfgkbaaGreatDoor
open Go.RowKit Go.ChangeShapes Go.WideShapes Go.ChangeAt
set_option maxRecDepth 100000
abbrev Xf:String:= "loop.example/g01917/impl.oneRational"
abbrev ZX{H:Type}:DataW H:=.agg [.lit (.int .i64 1),.lit (.int .i64 1)]
def ZW:Array Value:= #[.int .i64 1,.int .i64 1]
theorem YE:Tryz.prog.globalNamed Xf=some 0:=by kernel_rfl
theorem sn:(Tryz.prog.globals[0]?).map (·.type)=some 32:=by kernel_rfl
theorem YD:Tryz.prog.cellsOf 32=2:=by kernel_rfl
theorem ew:Tryz.prog.cellsOf 3=1:=by kernel_rfl
theorem ml{H:Type}{enc:TypeId×Value->H}{W:World}{base:Nat}{sp:Nat->Bool}{held:Bool}{fuel:Nat}{cs:List Value}{x:DataW H×List MemPlace}(h:DataW.trod enc Tryz.prog W base sp held fuel 32 cs=some x):
  ∃a b:Int,cs=[.int .i64 a,.int .i64 b]∧x=(.agg [.lit (.int .i64 a),.lit (.int .i64 b)],[]):=by
 obtain⟨y0,y1,n,hx,hl,h0,h1⟩:=trod_struct2 Tryz.underlying32 h
 rw[YD]at hl
 match cs,hl with
 |[c0,c1],_=>
  obtain⟨a,e0,e1,_⟩:=DataW.trod_int Tryz.underlying3 h0
  obtain⟨b,e2,e3,_⟩:=DataW.trod_int Tryz.underlying3 h1
  simp[ew]at e0 e2
  subst e0 e1 e2 e3
  exact⟨a,b,rfl,by simpa using hx⟩
theorem ca{W:World}(h:laidMet Tryz.prog [(Xf,ZX)] W):W.var? Tryz.prog Xf=some ZW:=by
 obtain⟨ps,⟨g,t,cs,fuel,p,q,hg,ht,hvar,hd,_,_⟩,_⟩:=h
 obtain rfl:=DG (YE.symm.trans hg)
 obtain rfl:=DG (sn.symm.trans ht)
 rw[hvar]
 obtain⟨a,b,e1,e2⟩:=ml hd
 simp only[ZX,B3,DataW.agg.injEq,C2,DataW.lit.injEq,Lit.int.injEq,true_and,and_true]at e2
 obtain⟨⟨rfl,rfl⟩,_⟩:=e2
 congr 1
 exact Array.toList_inj.1 e1
theorem p7{W:World}(h:W.var? Tryz.prog Xf=some ZW):Glb W (StA W):=by
 have h0:W.cell? ⟨0,0,none⟩=some (.int .i64 1):=World.var?_cell YE h 0
 have h1:W.cell? ⟨0,1,none⟩=some (.int .i64 1):=World.var?_cell YE h 1
 intro p hp
 obtain rfl:p=(0,[(.i64,1),(.i64,1)]):=by simpa[lays]using hp
 refine⟨λ_=>cell_lt h0,λi x hx=>?_⟩
 match i,hx with
 |0,hx=>cases hx;exact h0
 |1,hx=>cases hx;exact h1
theorem cb{H:Type}{enc:TypeId×Value->H}{W:World}(h:W.var? Tryz.prog Xf=some ZW)(sp:Nat->Bool):DataW.TrodVars enc Tryz.prog W sp [Xf] [ZX] (MemPlace.row ⟨0,0,none⟩ ZW.size++[]):=by
 refine trodVars_mk1 (fuel:=2) YE sn h ?_
 have h0:DataW.trod enc Tryz.prog W 0 sp true 1 3 [.int .i64 1]=some (.lit (.int .i64 1),[]):=trod_int_mk 0 Tryz.underlying3 (by decide)
 have:=trod_struct2_mk (enc:=enc) (w:=W) (base:=0) (spare:=sp) (held:=true) (n:=1) (cs:=[.int .i64 1,.int .i64 1]) Tryz.underlying32 (by simp[YD]) (by simpa[ew]using h0) (by simpa[ew]using h0)
 have h2:DataW.trod enc Tryz.prog W 0 sp true 2 32 [.int .i64 1,.int .i64 1]=some (ZX,[]):=by simpa using this
 exact h2
theorem jm{W W':World}(h:W.var? Tryz.prog Xf=some ZW)(hb:Below W.heap.size W W'):W'.var? Tryz.prog Xf=some ZW:=by
 have hlt:0 < W.heap.size:=cell_lt (show W.cell? ⟨0,0,none⟩=some (.int .i64 1)from World.var?_cell YE h 0)
 unfold World.var? at h⊢
 rw[YE]at h⊢
 simp only[MJ]at h⊢
 rw[hb.block _ hlt]
 exact h
theorem ji{H:Type}{enc:TypeId×Value->H}{f:Func}{s:ChangeSpec}{W W':World}{args:Array Value}{ds:List (DataW H)}{p q:List MemPlace}{tb:TypeId}(hl:laidOutB Tryz.prog=true)
  (hr:f.params.toList.all (λt=>Tryz.prog.readableRec t&&decide (t < Tryz.prog.types.size))=true) (hvs:s.vars=[Xf]) (hres:f.resultTypes= #[tb]) (htb:Tryz.prog.underlying tb=some .bool)
  (hW:DataW.Whole enc Tryz.prog f.params.toList s.vars false W args.toList ds [ZX] (p++q)) (hA:DataW.TrodAll enc Tryz.prog W 0 (λ_=>true) true f.params.toList args.toList ds p) (hv:W.var? Tryz.prog Xf=some ZW)
  (hs:s.fn H (ds++[ZX])={results:=[.lit (.bool true)],args:=ds,vars:=[ZX]}) (hb:Below W.heap.size W W'):
  s.post enc Tryz.prog f false true false false W args (.bool true) W':=by
 have hlt:∀x∈p,x.block < W.heap.size:=λx hx=>hW.lt x (Az _ hx)
 refine⟨ds,[ZX],p++q,[],p,MemPlace.row ⟨0,0,none⟩ ZW.size++[],hW,?_,?_,?_,hb.frame _,λh=>by cases h⟩
 ·rw[hs,hres]
  exact trodAll_cons_mk (shut_bool htb _) trodAll_mk0
 ·rw[hs]
  exact Yb hl hb _ hr hA hlt
 ·rw[hs,hvs]
  exact cb (jm hv hb) _
noncomputable def laidWorld (os:Os):World:=
 let w0:=World.holding Tryz.prog os ⟨#[],#[],[]⟩
 {w0 with heap:=w0.heap.modify 0 fun
   |.cells _ t frozen=>.cells ZW t frozen
   |o=>o}
theorem laidWorld_met(os:Os)(args:Array Value):laidMet Tryz.prog [(Xf,ZX)] ((laidWorld os).forCall (λ_ _=>0) ⟨#[],args,[]⟩).memory:=
 laidMet_of_run (ps:=[.cell 0 0,.cell 0 1]) 8 (by kernel_rfl) (by kernel_rfl) (by kernel_rfl)
end Go.Proofs.YthghcmmlmfgkbaaGreatDoor
