/-
 The laid variable: what it holds when a law is called, and that it reads behind the call as before. No conditions.
-/
import Derived.Test.YtplejokflpkcbaaGreatDoorRows
import Derived.Test.YtplejokflpkcbaaGreatDoorKc
import Derived.ChangeVars
import Derived.ChangeSame
import Derived.ChangeArms
import Derived.LaidLaws
import Derived.ProofKit
open Go.RowKit
set_option linter.unusedVariables false
set_option linter.unusedSimpArgs false
namespace Go.Proofs.YtplejokflpkcbaaGreatDoor
open Go.RowKit Go.ChangeShapes Go.WideShapes Go.ChangeAt
set_option maxRecDepth 100000
abbrev XT:String:= "loop.example/g01917/impl.oneRational"
abbrev ag{H:Type}:DataW H:=.agg [.lit (.int .i64 1),.lit (.int .i64 1)]
def af:Array Value:= #[.int .i64 1,.int .i64 1]
theorem Y0:Tryz.prog.globalNamed XT=some 0:=by kernel_rfl
theorem oS:(Tryz.prog.globals[0]?).map (·.type)=some 41:=by kernel_rfl
theorem YZ:Tryz.prog.cellsOf 41=2:=by kernel_rfl
theorem dr:Tryz.prog.cellsOf 3=1:=by kernel_rfl
theorem j8{H:Type}{enc:TypeId×Value->H}{W:World}{base:Nat}{sp:Nat->Bool}{held:Bool}{fuel:Nat}{cs:List Value}{x:DataW H×List MemPlace}(h:DataW.trod enc Tryz.prog W base sp held fuel 41 cs=some x):
  ∃a b:Int,cs=[.int .i64 a,.int .i64 b]∧x=(.agg [.lit (.int .i64 a),.lit (.int .i64 b)],[]):=by
 obtain⟨y0,y1,n,hx,hl,h0,h1⟩:=trod_struct2 Tryz.underlying41 h
 rw[YZ]at hl
 match cs,hl with
 |[c0,c1],_=>
  obtain⟨a,e0,e1,_⟩:=DataW.trod_int Tryz.underlying3 h0
  obtain⟨b,e2,e3,_⟩:=DataW.trod_int Tryz.underlying3 h1
  simp[dr]at e0 e2
  subst e0 e1 e2 e3
  exact⟨a,b,rfl,by simpa using hx⟩
theorem bX{W:World}(h:laidMet Tryz.prog [(XT,ag)] W):W.var? Tryz.prog XT=some af:=by
 obtain⟨ps,⟨g,t,cs,fuel,p,q,hg,ht,hvar,hd,_,_⟩,_⟩:=h
 obtain rfl:=DZ (Y0.symm.trans hg)
 obtain rfl:=DZ (oS.symm.trans ht)
 rw[hvar]
 obtain⟨a,b,e1,e2⟩:=j8 hd
 simp only[ag,B3,DataW.agg.injEq,Db,DataW.lit.injEq,Lit.int.injEq,true_and,and_true]at e2
 obtain⟨⟨rfl,rfl⟩,_⟩:=e2
 congr 1
 exact Array.toList_inj.1 e1
theorem m6{W:World}(h:W.var? Tryz.prog XT=some af):Glb W (StA W):=by
 have h0:W.cell? ⟨0,0,none⟩=some (.int .i64 1):=World.var?_cell Y0 h 0
 have h1:W.cell? ⟨0,1,none⟩=some (.int .i64 1):=World.var?_cell Y0 h 1
 intro p hp
 obtain rfl:p=(0,[(.i64,1),(.i64,1)]):=by simpa[lays]using hp
 refine⟨λ_=>cell_lt h0,λi x hx=>?_⟩
 match i,hx with
 |0,hx=>cases hx;exact h0
 |1,hx=>cases hx;exact h1
theorem bY{H:Type}{enc:TypeId×Value->H}{W:World}(h:W.var? Tryz.prog XT=some af)(sp:Nat->Bool):DataW.TrodVars enc Tryz.prog W sp [XT] [ag] (MemPlace.row ⟨0,0,none⟩ af.size++[]):=by
 refine trodVars_mk1 (fuel:=2) Y0 oS h ?_
 have h0:DataW.trod enc Tryz.prog W 0 sp true 1 3 [.int .i64 1]=some (.lit (.int .i64 1),[]):=trod_int_mk 0 Tryz.underlying3 (by decide)
 have:=trod_struct2_mk (enc:=enc) (w:=W) (base:=0) (spare:=sp) (held:=true) (n:=1) (cs:=[.int .i64 1,.int .i64 1]) Tryz.underlying41 (by simp[YZ]) (by simpa[dr]using h0) (by simpa[dr]using h0)
 have h2:DataW.trod enc Tryz.prog W 0 sp true 2 41 [.int .i64 1,.int .i64 1]=some (ag,[]):=by simpa using this
 exact h2
theorem gd{W W':World}(h:W.var? Tryz.prog XT=some af)(hb:Below W.heap.size W W'):W'.var? Tryz.prog XT=some af:=by
 have hlt:0 < W.heap.size:=cell_lt (show W.cell? ⟨0,0,none⟩=some (.int .i64 1)from World.var?_cell Y0 h 0)
 unfold World.var? at h⊢
 rw[Y0]at h⊢
 simp only[MF]at h⊢
 rw[hb.block _ hlt]
 exact h
theorem fW{H:Type}{enc:TypeId×Value->H}{f:Func}{s:ChangeSpec}{W W':World}{args:Array Value}{ds:List (DataW H)}{p q:List MemPlace}{tb:TypeId}(hl:laidOutB Tryz.prog=true)
  (hr:f.params.toList.all (λt=>Tryz.prog.readableRec t&&decide (t < Tryz.prog.types.size))=true) (hvs:s.vars=[XT]) (hres:f.resultTypes= #[tb]) (htb:Tryz.prog.underlying tb=some .bool)
  (hW:DataW.Whole enc Tryz.prog f.params.toList s.vars false W args.toList ds [ag] (p++q)) (hA:DataW.TrodAll enc Tryz.prog W 0 (λ_=>true) true f.params.toList args.toList ds p) (hv:W.var? Tryz.prog XT=some af)
  (hs:s.fn H (ds++[ag])={results:=[.lit (.bool true)],args:=ds,vars:=[ag]}) (hb:Below W.heap.size W W'):
  s.post enc Tryz.prog f false true false false W args (.bool true) W':=by
 have hlt:∀x∈p,x.block < W.heap.size:=λx hx=>hW.lt x (AF _ hx)
 refine⟨ds,[ag],p++q,[],p,MemPlace.row ⟨0,0,none⟩ af.size++[],hW,?_,?_,?_,hb.frame _,λh=>by cases h⟩
 ·rw[hs,hres]
  exact trodAll_cons_mk (shut_bool htb _) trodAll_mk0
 ·rw[hs]
  exact YA hl hb _ hr hA hlt
 ·rw[hs,hvs]
  exact bY (gd hv hb) _
noncomputable def laidWorld (os:Os):World:=
 let w0:=World.holding Tryz.prog os ⟨#[],#[],[]⟩
 {w0 with heap:=w0.heap.modify 0 fun
   |.cells _ t frozen=>.cells af t frozen
   |o=>o}
theorem laidWorld_met(os:Os)(args:Array Value):laidMet Tryz.prog [(XT,ag)] ((laidWorld os).forCall (λ_ _=>0) ⟨#[],args,[]⟩).memory:=
 laidMet_of_run (ps:=[.cell 0 0,.cell 0 1]) 8 (by kernel_rfl) (by kernel_rfl) (by kernel_rfl)
end Go.Proofs.YtplejokflpkcbaaGreatDoor
