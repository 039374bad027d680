/- The laid variable: what it holds when a law is called, and that it reads behind the call as before. No conditions. -/
import Derived.Test.YtdnlfoelbfcmnaaGreatDoorRows
import Derived.Test.YtdnlfoelbfcmnaaGreatDoorKc
import Derived.ChangeVars
import Derived.ChangeSame
import Derived.ChangeArms
import Derived.LaidLaws
import Derived.ProofKit
open Go.RowKit
set_option linter.all false
namespace Go.Proofs.YtdnlfoelbfcmnaaGreatDoor
open Go.RowKit Go.ChangeShapes Go.WideShapes Go.ChangeAt
set_option maxRecDepth 100000
abbrev eV:String:= "loop.example/g01917/impl.oneRational"
abbrev kq{H:Type}:DataW H:=.agg [.lit (.int .i64 1),.lit (.int .i64 1)]
def ko:Array Value:= #[.int .i64 1,.int .i64 1]
def iH:Tryz.prog.globalNamed eV=some 0:=by kernel_rfl
def AbD:(Tryz.prog.globals[0]?).map (·.type)=some 172:=by kernel_rfl
def iG:Tryz.prog.cellsOf 172=2:=by kernel_rfl
def o8:Tryz.prog.cellsOf 3=1:=by kernel_rfl
def wl{H:Type}{enc:TypeId×Value->H}{W:World}{base:Nat}{sp:Nat->Bool}{held:Bool}{fuel:Nat}{cs:List Value}{x:DataW H×List MemPlace}(h:DataW.trod enc Tryz.prog W base sp held fuel 172 cs=some x):
  ∃a b:Int,cs=[.int .i64 a,.int .i64 b]∧x=(.agg [.lit (.int .i64 a),.lit (.int .i64 b)],[]):=by
 obtain⟨y0,l,n,f,c,g,i⟩:=trod_struct2 Tryz.underlying172 h;rw[iG]at c
 match cs,c with
 |[m,o],_=>obtain⟨a,d,j,_⟩:=DataW.trod_int Tryz.underlying3 g;obtain⟨b,e,k,_⟩:=DataW.trod_int Tryz.underlying3 i;simp[o8]at d e;subst d j e k;exact⟨a,b,rfl,by simpa using f⟩
def mT{W:World}(h:laidMet Tryz.prog [(eV,kq)] W):W.var? Tryz.prog eV=some ko:=by obtain⟨ps,⟨g,t,cs,fuel,p,q,e,f,c,i,_,_⟩,_⟩:=h;obtain rfl:=Dt<|iH.symm.trans e;obtain rfl:=Dt<|AbD.symm.trans f;rw[c];obtain⟨a,b,j,d⟩:=wl i;simp only[kq,Cq,DataW.agg.injEq,Ds,DataW.lit.injEq,Lit.int.injEq,Nz,and_true]at d;obtain⟨⟨rfl,rfl⟩,_⟩:=d;congr 1;exact Array.toList_inj.1 j
def zD{W}(h:W.var? Tryz.prog eV=some ko):Glb W (StA W):=by
 have b:W.cell? ⟨0,0,none⟩=some (.int .i64 1):=World.var?_cell iH h 0;have c:W.cell? ⟨0,1,none⟩=some (.int .i64 1):=World.var?_cell iH h 1;intro p d;obtain rfl:p=(0,[(.i64,1),(.i64,1)]):=by simpa[lays]using d
 refine⟨λ_=>cell_lt b,λi x a=>?_⟩
 match i,a with
 |0,a=>cases a;exact b
 |1,a=>cases a;exact c
def mU{H:Type}{enc:TypeId×Value->H}{W:World}(h:W.var? Tryz.prog eV=some ko)(sp:Nat->Bool):DataW.TrodVars enc Tryz.prog W sp [eV] [kq] (MemPlace.row ⟨0,0,none⟩ ko.size++[]):=by
 refine trodVars_mk1 (fuel:=2) iH AbD h ?_;have a:DataW.trod enc Tryz.prog W 0 sp true 1 3 [.int .i64 1]=some (.lit<|.int .i64 1,[]):=trod_int_mk 0 Tryz.underlying3 (by decide);have:=trod_struct2_mk (enc:=enc) (w:=W) (base:=0) (spare:=sp) (held:=true) (n:=1) (cs:=[.int .i64 1,.int .i64 1]) Tryz.underlying172 (by simp[iG]) (by simpa[o8]using a) (by simpa[o8]using a);have b:DataW.trod enc Tryz.prog W 0 sp true 2 172 [.int .i64 1,.int .i64 1]=some (kq,[]):=by simpa using this
 exact b
def sL{W W'}(h:W.var? Tryz.prog eV=some ko)(b:Below W.heap.size W W'):W'.var? Tryz.prog eV=some ko:=by
 have a:0 < W.heap.size:=cell_lt<|show W.cell? ⟨0,0,none⟩=some (.int .i64 1)from World.var?_cell iH h 0
 unfold World.var? at h⊢;rw[iH]at h⊢;simp only[Ph]at h⊢;rw[b.block _ a];exact h
def sB{H:Type}{enc:TypeId×Value->H}{f:Func}{s:ChangeSpec}{W W':World}{args:Array Value}{ds:List (DataW H)}{p q:List MemPlace}{tb:TypeId}(hl:laidOutB Tryz.prog=true)
  (hr:f.params.toList.all (λt=>Tryz.prog.readableRec t&&decide (t < Tryz.prog.types.size))=true) (hvs:s.vars=[eV]) (hres:f.resultTypes= #[tb]) (htb:Tryz.prog.underlying tb=some .bool)
  (hW:DataW.Whole enc Tryz.prog f.params.toList s.vars false W args.toList ds [kq] (p++q)) (hA:DataW.TrodAll enc Tryz.prog W 0 (λ_=>true) true f.params.toList args.toList ds p) (hv:W.var? Tryz.prog eV=some ko)
  (hs:s.fn H (ds++[kq])={results:=[.lit (.bool true)],args:=ds,vars:=[kq]}) (hb:Below W.heap.size W W'):
  s.post enc Tryz.prog f false true false false W args (.bool true) W':=by
 have hlt:∀x∈p,x.block < W.heap.size:=λx hx=>hW.lt x<|AF _ hx
 refine⟨ds,[kq],p++q,[],p,MemPlace.row ⟨0,0,none⟩ ko.size++[],hW,?_,?_,?_,hb.frame _,λh=>by cases h⟩
 ·rw[hs,hres];exact trodAll_cons_mk (shut_bool htb _) trodAll_mk0
 ·rw[hs];exact gK hl hb _ hr hA hlt
 ·rw[hs,hvs];exact mU (sL hv hb) _
noncomputable def laidWorld (os:Os):World:=
 let w0:=World.holding Tryz.prog os ⟨#[],#[],[]⟩
 {w0 with heap:=w0.heap.modify 0 fun
   |.cells _ t frozen=>.cells ko t frozen
   |o=>o}
def laidWorld_met(os:Os)(a:Array Value):laidMet Tryz.prog [(eV,kq)] ((laidWorld os).forCall (λ_ _=>0) ⟨#[],a,[]⟩).memory:=
 laidMet_of_run (ps:=[.cell 0 0,.cell 0 1]) 8 (by kernel_rfl) (by kernel_rfl) (by kernel_rfl)
end Go.Proofs.YtdnlfoelbfcmnaaGreatDoor
