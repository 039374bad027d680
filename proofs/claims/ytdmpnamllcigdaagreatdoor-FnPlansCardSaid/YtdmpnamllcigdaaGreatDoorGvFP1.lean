/- The laid variable: what it holds when a law is called, and that it reads behind the call as before. No conditions. -/
import Derived.Test.YtdmpnamllcigdaaGreatDoorRows
import Derived.Test.YtdmpnamllcigdaaGreatDoorKc
import Derived.ChangeVars
import Derived.ChangeSame
import Derived.ChangeArms
import Derived.LaidLaws
import Derived.ProofKit
open Go.RowKit
set_option linter.all false
namespace Go.Proofs.YtdmpnamllcigdaaGreatDoor
open Go.RowKit Go.ChangeShapes Go.WideShapes Go.ChangeAt
set_option maxRecDepth 100000
abbrev gd:String:= "loop.example/g01917/impl.oneRational"
abbrev lp{H:Type}:DataW H:=.agg [.lit (.int .i64 1),.lit (.int .i64 1)]
def ln:Array Value:= #[.int .i64 1,.int .i64 1]
def js:Tryz.prog.globalNamed gd=some 0:=kh
def Adw:(Tryz.prog.globals[0]?).map (·.type)=some 93:=kh
def jr:Tryz.prog.cellsOf 93=2:=kh
def pR:Tryz.prog.cellsOf 3=1:=kh
def ye{H:Type}{enc:TypeId×Value->H}{W:World}{base:Nat}{sp:Nat->Bool}{held:Bool}{fuel:Nat}{cs:List Value}{x:DataW H×List MemPlace}(h:DataW.trod enc Tryz.prog W base sp held fuel 93 cs=some x):
  ∃a b:Int,cs=[.int .i64 a,.int .i64 b]∧x=(.agg [.lit (.int .i64 a),.lit (.int .i64 b)],[]):=by
 obtain⟨y0,k,n,e,c,f,g⟩:=trod_struct2 Tryz.underlying93 h;rw[jr]at c
 match cs,c with
 |[l,m],_=>obtain⟨a,d,i,_⟩:=DataW.trod_int Tryz.underlying3 f;obtain⟨b,e2,j,_⟩:=DataW.trod_int Tryz.underlying3 g;simp[pR]at d e2;subst d i e2 j;exact⟨a,b,rfl,by simpa using e⟩
def nw{W:World}(h:laidMet Tryz.prog [(gd,lp)] W):W.var? Tryz.prog gd=some ln:=by obtain⟨ps,⟨g,t,cs,fuel,p,q,d,e,c,f,_,_⟩,_⟩:=h;obtain rfl:=EH<|js.symm.trans d;obtain rfl:=EH<|Adw.symm.trans e;rw[c];obtain⟨a,b,i,e2⟩:=ye f;simp only[lp,Ch,DataW.agg.injEq,Dk,DataW.lit.injEq,Lit.int.injEq,true_and,and_true]at e2;obtain⟨⟨rfl,rfl⟩,_⟩:=e2;congr 1;exact Array.toList_inj.1 i
def AbA{W}(h:W.var? Tryz.prog gd=some ln):Glb W (StA W):=by
 have b:W.cell? ⟨0,0,none⟩=some (.int .i64 1):=World.var?_cell js h 0;have c:W.cell? ⟨0,1,none⟩=some (.int .i64 1):=World.var?_cell js h 1;intro p d;obtain rfl:p=(0,[(.i64,1),(.i64,1)]):=by simpa[lays]using d
 refine⟨λ_=>cell_lt b,λi x a=>?_⟩
 match i,a with
 |0,a=>cases a;exact b
 |1,a=>cases a;exact c
def nx{H:Type}{enc:TypeId×Value->H}{W:World}(h:W.var? Tryz.prog gd=some ln)(sp:Nat->Bool):DataW.TrodVars enc Tryz.prog W sp [gd] [lp] (MemPlace.row ⟨0,0,none⟩ ln.size++[]):=by
 refine trodVars_mk1 (fuel:=2) js Adw h ?_;have a:DataW.trod enc Tryz.prog W 0 sp true 1 3 [.int .i64 1]=some (.lit<|.int .i64 1,[]):=trod_int_mk 0 Tryz.underlying3 oJ;have:=trod_struct2_mk (enc:=enc) (w:=W) (base:=0) (spare:=sp) (held:=true) (n:=1) (cs:=[.int .i64 1,.int .i64 1]) Tryz.underlying93 (by simp[jr]) (by simpa[pR]using a) (by simpa[pR]using a);have b:DataW.trod enc Tryz.prog W 0 sp true 2 93 [.int .i64 1,.int .i64 1]=some (lp,[]):=by simpa using this
 exact b
def un{W W'}(h:W.var? Tryz.prog gd=some ln)(b:Below W.heap.size W W'):W'.var? Tryz.prog gd=some ln:=by
 have a:0 < W.heap.size:=cell_lt<|show W.cell? ⟨0,0,none⟩=some (.int .i64 1)from World.var?_cell js h 0
 unfold World.var? at h⊢;rw[js]at h⊢;simp only[Qu]at h⊢;rw[b.block _ a];exact h
def uf{H:Type}{enc:TypeId×Value->H}{f:Func}{s:ChangeSpec}{W W':World}{args:Array Value}{ds:List (DataW H)}{p q:List MemPlace}{tb:TypeId}(hl:laidOutB Tryz.prog=true)
  (hr:f.params.toList.all (λt=>Tryz.prog.readableRec t&&decide (t < Tryz.prog.types.size))=true) (hvs:s.vars=[gd]) (hres:f.resultTypes= #[tb]) (htb:Tryz.prog.underlying tb=some .bool)
  (hW:DataW.Whole enc Tryz.prog f.params.toList s.vars false W args.toList ds [lp] (p++q)) (hA:DataW.TrodAll enc Tryz.prog W 0 (λ_=>true) true f.params.toList args.toList ds p) (hv:W.var? Tryz.prog gd=some ln)
  (hs:s.fn H (ds++[lp])={results:=[.lit (.bool true)],args:=ds,vars:=[lp]}) (hb:Below W.heap.size W W'):
  s.post enc Tryz.prog f false true false false W args (.bool true) W':=by
 have hlt:∀x∈p,x.block < W.heap.size:=λx hx=>hW.lt x<|AD _ hx
 refine⟨ds,[lp],p++q,[],p,MemPlace.row ⟨0,0,none⟩ ln.size++[],hW,?_,?_,?_,hb.frame _,λh=>by cases h⟩
 ·rw[hs,hres];exact trodAll_cons_mk (shut_bool htb _) trodAll_mk0
 ·rw[hs];exact iL hl hb _ hr hA hlt
 ·rw[hs,hvs];exact nx (un hv hb) _
noncomputable def laidWorld (os:Os):World:=
 let w0:=World.holding Tryz.prog os ⟨#[],#[],[]⟩
 {w0 with heap:=w0.heap.modify 0 fun
   |.cells _ t frozen=>.cells ln t frozen
   |o=>o}
def laidWorld_met(os:Os)(a:Array Value):laidMet Tryz.prog [(gd,lp)] ((laidWorld os).forCall (λ_ _=>0) ⟨#[],a,[]⟩).memory:=
 laidMet_of_run (ps:=[.cell 0 0,.cell 0 1]) 8 kh kh kh
end Go.Proofs.YtdmpnamllcigdaaGreatDoor
