/- The laid variable: what it holds when a law is called, and that it reads behind the call as before. No conditions. -/
import Derived.Test.YtpnoalhfjnjeaaaGreatDoorRows
import Derived.Test.YtpnoalhfjnjeaaaGreatDoorKc
import Derived.ChangeVars
import Derived.ChangeSame
import Derived.ChangeArms
import Derived.LaidLaws
import Derived.ProofKit
open Go.RowKit
set_option linter.all false
namespace Go.Proofs.YtpnoalhfjnjeaaaGreatDoor
open Go.RowKit Go.ChangeShapes Go.WideShapes Go.ChangeAt
set_option maxRecDepth 100000
abbrev ew:String:= "loop.example/g01917/impl.oneRational"
abbrev jK{H:Type}:DataW H:=.agg [.lit (.int .i64 1),.lit (.int .i64 1)]
def jJ:Array Value:= #[.int .i64 1,.int .i64 1]
def gP:Tryz.prog.globalNamed ew=some 0:=by kernel_rfl
def z8:(Tryz.prog.globals[0]?).map (·.type)=some 84:=by kernel_rfl
def gK:Tryz.prog.cellsOf 84=2:=by kernel_rfl
def nM:Tryz.prog.cellsOf 3=1:=by kernel_rfl
def uW{H:Type}{enc:TypeId×Value->H}{W:World}{base:Nat}{sp:Nat->Bool}{held:Bool}{fuel:Nat}{cs:List Value}{x:DataW H×List MemPlace}(h:DataW.trod enc Tryz.prog W base sp held fuel 84 cs=some x):
  ∃a b:Int,cs=[.int .i64 a,.int .i64 b]∧x=(.agg [.lit (.int .i64 a),.lit (.int .i64 b)],[]):=by
 obtain⟨y0,k,n,e,c,f,g⟩:=trod_struct2 Tryz.underlying84 h;rw[gK]at c
 match cs,c with
 |[l,m],_=>obtain⟨a,d,i,_⟩:=DataW.trod_int Tryz.underlying3 f;obtain⟨b,e2,j,_⟩:=DataW.trod_int Tryz.underlying3 g;simp[nM]at d e2;subst d i e2 j;exact⟨a,b,rfl,by simpa using e⟩
def lS{W:World}(h:laidMet Tryz.prog [(ew,jK)] W):W.var? Tryz.prog ew=some jJ:=by obtain⟨ps,⟨g,t,cs,fuel,p,q,d,e,c,f,_,_⟩,_⟩:=h;obtain rfl:=Ed<|gP.symm.trans d;obtain rfl:=Ed<|z8.symm.trans e;rw[c];obtain⟨a,b,i,e2⟩:=uW f;simp only[jK,Ch,DataW.agg.injEq,CQ,DataW.lit.injEq,Lit.int.injEq,true_and,and_true]at e2;obtain⟨⟨rfl,rfl⟩,_⟩:=e2;congr 1;exact Array.toList_inj.1 i
def yb{W}(h:W.var? Tryz.prog ew=some jJ):Glb W (StA W):=by
 have b:W.cell? ⟨0,0,none⟩=some (.int .i64 1):=World.var?_cell gP h 0;have c:W.cell? ⟨0,1,none⟩=some (.int .i64 1):=World.var?_cell gP h 1;intro p d;obtain rfl:p=(0,[(.i64,1),(.i64,1)]):=by simpa[lays]using d
 refine⟨λ_=>cell_lt b,λi x a=>?_⟩
 match i,a with
 |0,a=>cases a;exact b
 |1,a=>cases a;exact c
def lT{H:Type}{enc:TypeId×Value->H}{W:World}(h:W.var? Tryz.prog ew=some jJ)(sp:Nat->Bool):DataW.TrodVars enc Tryz.prog W sp [ew] [jK] (MemPlace.row ⟨0,0,none⟩ jJ.size++[]):=by
 refine trodVars_mk1 (fuel:=2) gP z8 h ?_;have a:DataW.trod enc Tryz.prog W 0 sp true 1 3 [.int .i64 1]=some (.lit<|.int .i64 1,[]):=trod_int_mk 0 Tryz.underlying3 (by decide);have:=trod_struct2_mk (enc:=enc) (w:=W) (base:=0) (spare:=sp) (held:=true) (n:=1) (cs:=[.int .i64 1,.int .i64 1]) Tryz.underlying84 (by simp[gK]) (by simpa[nM]using a) (by simpa[nM]using a);have b:DataW.trod enc Tryz.prog W 0 sp true 2 84 [.int .i64 1,.int .i64 1]=some (jK,[]):=by simpa using this
 exact b
def rA{W W'}(h:W.var? Tryz.prog ew=some jJ)(b:Below W.heap.size W W'):W'.var? Tryz.prog ew=some jJ:=by
 have a:0 < W.heap.size:=cell_lt<|show W.cell? ⟨0,0,none⟩=some (.int .i64 1)from World.var?_cell gP h 0
 unfold World.var? at h⊢;rw[gP]at h⊢;simp only[PZ]at h⊢;rw[b.block _ a];exact h
def ru{H:Type}{enc:TypeId×Value->H}{f:Func}{s:ChangeSpec}{W W':World}{args:Array Value}{ds:List (DataW H)}{p q:List MemPlace}{tb:TypeId}(hl:laidOutB Tryz.prog=true)
  (hr:f.params.toList.all (λt=>Tryz.prog.readableRec t&&decide (t < Tryz.prog.types.size))=true) (hvs:s.vars=[ew]) (hres:f.resultTypes= #[tb]) (htb:Tryz.prog.underlying tb=some .bool)
  (hW:DataW.Whole enc Tryz.prog f.params.toList s.vars false W args.toList ds [jK] (p++q)) (hA:DataW.TrodAll enc Tryz.prog W 0 (λ_=>true) true f.params.toList args.toList ds p) (hv:W.var? Tryz.prog ew=some jJ)
  (hs:s.fn H (ds++[jK])={results:=[.lit (.bool true)],args:=ds,vars:=[jK]}) (hb:Below W.heap.size W W'):
  s.post enc Tryz.prog f false true false false W args (.bool true) W':=by
 have hlt:∀x∈p,x.block < W.heap.size:=λx hx=>hW.lt x<|Az _ hx
 refine⟨ds,[jK],p++q,[],p,MemPlace.row ⟨0,0,none⟩ jJ.size++[],hW,?_,?_,?_,hb.frame _,λh=>by cases h⟩
 ·rw[hs,hres];exact trodAll_cons_mk (shut_bool htb _) trodAll_mk0
 ·rw[hs];exact fU hl hb _ hr hA hlt
 ·rw[hs,hvs];exact lT (rA hv hb) _
noncomputable def laidWorld (os:Os):World:=
 let w0:=World.holding Tryz.prog os ⟨#[],#[],[]⟩
 {w0 with heap:=w0.heap.modify 0 fun
   |.cells _ t frozen=>.cells jJ t frozen
   |o=>o}
def laidWorld_met(os:Os)(a:Array Value):laidMet Tryz.prog [(ew,jK)] ((laidWorld os).forCall (λ_ _=>0) ⟨#[],a,[]⟩).memory:=
 laidMet_of_run (ps:=[.cell 0 0,.cell 0 1]) 8 (by kernel_rfl) (by kernel_rfl) (by kernel_rfl)
end Go.Proofs.YtpnoalhfjnjeaaaGreatDoor
